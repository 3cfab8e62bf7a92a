/- BpduCodes: any PDU's bytes, or that it has none; and back, also behind a frame; and with more bytes behind it. Whatever the input; no condition. -/
import Derived.Test.YtlngmicffhkghaaRows
import Derived.Test.YtlngmicffhkghaaC17
import Derived.ProofKit
set_option maxRecDepth 100000
set_option linter.unusedSimpArgs false
set_option linter.unusedVariables false
set_option maxHeartbeats 4000000
namespace Go.Proofs.Ytlngmicffhkghaa
open Go.ChangeShapes Go.WideShapes Go.ChangeAt Go.RowKit Go.Ev
theorem Try.own : ownKnob Try.prog.godebug = none := by kernel_rfl
theorem Try.laidOut : laidOutB Try.prog = true := by kernel_rfl
theorem bpduCodes_fun (ivs : List IV) (h : TypedA [(66, [.int .u8, .bool, .bool, .bool, .bool, .bool, .bool, .int .u8, .int .u64, .int .u32, .int .u64, .int .u16, .int .u16, .int .u16, .int .u16, .int .u16], true), (49, [.int .u8, .int .u8, .int .u8, .int .u8, .int .u8, .int .u8], true), (9, [.string], false)] ivs) : Fun Try.prog 10 ivs (.s (.raw (.bool true))) := by
  obtain ⟨ys0_, iv0, t0_, rfl, h0_⟩ := t_cons h
  obtain ⟨x0_0, ys0_0, rfl, hl_x0_0, hu_x0_0, t0_1⟩ := ty_int t0_
  obtain ⟨x0_1, ys0_1, rfl, t0_2⟩ := ty_bool t0_1
  obtain ⟨x0_2, ys0_2, rfl, t0_3⟩ := ty_bool t0_2
  obtain ⟨x0_3, ys0_3, rfl, t0_4⟩ := ty_bool t0_3
  obtain ⟨x0_4, ys0_4, rfl, t0_5⟩ := ty_bool t0_4
  obtain ⟨x0_5, ys0_5, rfl, t0_6⟩ := ty_bool t0_5
  obtain ⟨x0_6, ys0_6, rfl, t0_7⟩ := ty_bool t0_6
  obtain ⟨x0_7, ys0_7, rfl, hl_x0_7, hu_x0_7, t0_8⟩ := ty_int t0_7
  obtain ⟨x0_8, ys0_8, rfl, hl_x0_8, hu_x0_8, t0_9⟩ := ty_int t0_8
  obtain ⟨x0_9, ys0_9, rfl, hl_x0_9, hu_x0_9, t0_10⟩ := ty_int t0_9
  obtain ⟨x0_10, ys0_10, rfl, hl_x0_10, hu_x0_10, t0_11⟩ := ty_int t0_10
  obtain ⟨x0_11, ys0_11, rfl, hl_x0_11, hu_x0_11, t0_12⟩ := ty_int t0_11
  obtain ⟨x0_12, ys0_12, rfl, hl_x0_12, hu_x0_12, t0_13⟩ := ty_int t0_12
  obtain ⟨x0_13, ys0_13, rfl, hl_x0_13, hu_x0_13, t0_14⟩ := ty_int t0_13
  obtain ⟨x0_14, ys0_14, rfl, hl_x0_14, hu_x0_14, t0_15⟩ := ty_int t0_14
  obtain ⟨x0_15, ys0_15, rfl, hl_x0_15, hu_x0_15, t0_16⟩ := ty_int t0_15
  obtain rfl := ty_nil t0_16
  obtain ⟨ys1_, iv1, t1_, rfl, h1_⟩ := t_cons h0_
  obtain ⟨x1_0, ys1_0, rfl, hl_x1_0, hu_x1_0, t1_1⟩ := ty_int t1_
  obtain ⟨x1_1, ys1_1, rfl, hl_x1_1, hu_x1_1, t1_2⟩ := ty_int t1_1
  obtain ⟨x1_2, ys1_2, rfl, hl_x1_2, hu_x1_2, t1_3⟩ := ty_int t1_2
  obtain ⟨x1_3, ys1_3, rfl, hl_x1_3, hu_x1_3, t1_4⟩ := ty_int t1_3
  obtain ⟨x1_4, ys1_4, rfl, hl_x1_4, hu_x1_4, t1_5⟩ := ty_int t1_4
  obtain ⟨x1_5, ys1_5, rfl, hl_x1_5, hu_x1_5, t1_6⟩ := ty_int t1_5
  obtain rfl := ty_nil t1_6
  obtain ⟨ys2_, iv2, t2_, rfl, h2_⟩ := t_cons h1_
  obtain ⟨x2_0, ys2_0, rfl, hs_x2_0, t2_1⟩ := ty_str t2_
  obtain rfl := ty_nil t2_1
  obtain rfl := t_nil h2_
  exact law10 ⟨x0_0, x0_1, x0_2, x0_3, x0_4, x0_5, x0_6, x0_7, x0_8, x0_9, x0_10, x0_11, x0_12, x0_13, x0_14, x0_15⟩ ⟨⟨hl_x0_0, hu_x0_0⟩, ⟨hl_x0_7, hu_x0_7⟩, ⟨hl_x0_8, hu_x0_8⟩, ⟨hl_x0_9, hu_x0_9⟩, ⟨hl_x0_10, hu_x0_10⟩, ⟨hl_x0_11, hu_x0_11⟩, ⟨hl_x0_12, hu_x0_12⟩, ⟨hl_x0_13, hu_x0_13⟩, ⟨hl_x0_14, hu_x0_14⟩, ⟨hl_x0_15, hu_x0_15⟩⟩ x1_0 x1_1 x1_2 x1_3 x1_4 x1_5 x2_0
theorem bpduCodes_lifted (os : Os) (started : os.Started) (H : Type) (enc : TypeId × Value → H) :
    ReturnsInHanded {} Try.checked os 10 .any (Rows.bpduCodesSpec.pre6 enc Try.prog Try.f10 Rows.bpduCodesRow.domain false) (Rows.bpduCodesSpec.post enc Try.prog Try.f10 false true false false) :=
  law_lifted (bt := 4) Try.own started (by kernel_rfl) Try.func10
    (ChangeSpec.witness6 (enc := enc) (C := Try.checked) false ⟨#[], #[.agg #[(.int .u8 0), (.bool false), (.bool false), (.bool false), (.bool false), (.bool false), (.bool false), (.int .u8 0), (.int .u64 0), (.int .u32 0), (.int .u64 0), (.int .u16 0), (.int .u16 0), (.int .u16 0), (.int .u16 0), (.int .u16 0)], .agg #[(.int .u8 0), (.int .u8 0), (.int .u8 0), (.int .u8 0), (.int .u8 0), (.int .u8 0)], (.string ⟨#[]⟩)], []⟩ 8 (by kernel_rfl) (by kernel_rfl) (by kernel_rfl) (by kernel_rfl))
    rfl Try.underlying4 Try.laidOut rfl (by kernel_rfl)
    (fun ds hd => by
      obtain ⟨d0, d1, d2, rfl⟩ := ds_3 (n := 3) (ds := ds) hd
      rfl)
    (hcall_scal [(66, [.int .u8, .bool, .bool, .bool, .bool, .bool, .bool, .int .u8, .int .u64, .int .u32, .int .u64, .int .u16, .int .u16, .int .u16, .int .u16, .int .u16], true), (49, [.int .u8, .int .u8, .int .u8, .int .u8, .int .u8, .int .u8], true), (9, [.string], false)] rfl (by
      intro e he
      simp only [List.mem_cons, List.not_mem_nil, or_false] at he
      rcases he with rfl | rfl | rfl
      · exact ⟨by kernel_rfl, by kernel_rfl⟩
      · exact ⟨by kernel_rfl, by kernel_rfl⟩
      · exact ⟨by kernel_rfl, by kernel_rfl⟩) (bpduCodes_fun))
theorem bpduCodes_holds : Rows.BpduCodesSaid :=
  OpenClaim.holds_of_wide 10 Try.f10 rfl rfl rfl rfl rfl rfl rfl ⟨rfl, rfl, rfl, rfl, rfl⟩ rfl rfl rfl rfl rfl (by kernel_rfl) Try.func10 (by kernel_rfl)
    (of_decide_eq_true (by kernel_rfl)) (by unfold Func.isWrapper; rw [if_neg (by decide +kernel)]; exact ⟨rfl, rfl⟩)
    (fun os started H enc _ => bpduCodes_lifted os started H enc)
end Go.Proofs.Ytlngmicffhkghaa
