/- FdbKeys: any two keys are ordered by their VLANs, and then by their addresses. Whatever the input; no condition. -/
import Derived.Test.YtnmobamjinponaaRows
import Derived.Test.YtnmobamjinponaaG10
import Derived.ProofKit
set_option maxRecDepth 100000
set_option linter.unusedSimpArgs false
set_option linter.unusedVariables false
set_option maxHeartbeats 4000000
namespace Go.Proofs.Ytnmobamjinponaa
open Go.ChangeShapes Go.WideShapes Go.ChangeAt Go.RowKit Go.Ev
theorem Try.own : ownKnob Try.prog.godebug = none := by kernel_rfl
theorem Try.laidOut : laidOutB Try.prog = true := by kernel_rfl
theorem fdbKeys_fun (ivs : List IV) (h : TypedA [(75, [.int .u16, .int .u16], true), (54, [.int .u8, .int .u8, .int .u8, .int .u8, .int .u8, .int .u8], true), (54, [.int .u8, .int .u8, .int .u8, .int .u8, .int .u8, .int .u8], true)] ivs) : Fun Try.prog 6 ivs (.s (.raw (.bool true))) := by
  obtain ⟨ys0_, iv0, t0_, rfl, h0_⟩ := t_cons h
  obtain ⟨x0_0, ys0_0, rfl, hl_x0_0, hu_x0_0, t0_1⟩ := ty_int t0_
  obtain ⟨x0_1, ys0_1, rfl, hl_x0_1, hu_x0_1, t0_2⟩ := ty_int t0_1
  obtain rfl := ty_nil t0_2
  obtain ⟨ys1_, iv1, t1_, rfl, h1_⟩ := t_cons h0_
  obtain ⟨x1_0, ys1_0, rfl, hl_x1_0, hu_x1_0, t1_1⟩ := ty_int t1_
  obtain ⟨x1_1, ys1_1, rfl, hl_x1_1, hu_x1_1, t1_2⟩ := ty_int t1_1
  obtain ⟨x1_2, ys1_2, rfl, hl_x1_2, hu_x1_2, t1_3⟩ := ty_int t1_2
  obtain ⟨x1_3, ys1_3, rfl, hl_x1_3, hu_x1_3, t1_4⟩ := ty_int t1_3
  obtain ⟨x1_4, ys1_4, rfl, hl_x1_4, hu_x1_4, t1_5⟩ := ty_int t1_4
  obtain ⟨x1_5, ys1_5, rfl, hl_x1_5, hu_x1_5, t1_6⟩ := ty_int t1_5
  obtain rfl := ty_nil t1_6
  obtain ⟨ys2_, iv2, t2_, rfl, h2_⟩ := t_cons h1_
  obtain ⟨x2_0, ys2_0, rfl, hl_x2_0, hu_x2_0, t2_1⟩ := ty_int t2_
  obtain ⟨x2_1, ys2_1, rfl, hl_x2_1, hu_x2_1, t2_2⟩ := ty_int t2_1
  obtain ⟨x2_2, ys2_2, rfl, hl_x2_2, hu_x2_2, t2_3⟩ := ty_int t2_2
  obtain ⟨x2_3, ys2_3, rfl, hl_x2_3, hu_x2_3, t2_4⟩ := ty_int t2_3
  obtain ⟨x2_4, ys2_4, rfl, hl_x2_4, hu_x2_4, t2_5⟩ := ty_int t2_4
  obtain ⟨x2_5, ys2_5, rfl, hl_x2_5, hu_x2_5, t2_6⟩ := ty_int t2_5
  obtain rfl := ty_nil t2_6
  obtain rfl := t_nil h2_
  exact law6 x0_0 x0_1 x1_0 x1_1 x1_2 x1_3 x1_4 x1_5 x2_0 x2_1 x2_2 x2_3 x2_4 x2_5 hl_x1_0 hu_x1_0 hl_x1_1 hu_x1_1 hl_x1_2 hu_x1_2 hl_x1_3 hu_x1_3 hl_x1_4 hu_x1_4 hl_x1_5 hu_x1_5 hl_x2_0 hu_x2_0 hl_x2_1 hu_x2_1 hl_x2_2 hu_x2_2 hl_x2_3 hu_x2_3 hl_x2_4 hu_x2_4 hl_x2_5 hu_x2_5
theorem fdbKeys_lifted (os : Os) (started : os.Started) (H : Type) (enc : TypeId × Value → H) :
    ReturnsInHanded {} Try.checked os 6 .any (Rows.fdbKeysSpec.pre6 enc Try.prog Try.f6 Rows.fdbKeysRow.domain false) (Rows.fdbKeysSpec.post enc Try.prog Try.f6 false true false false) :=
  law_lifted (bt := 4) Try.own started (by kernel_rfl) Try.func6
    (ChangeSpec.witness6 (enc := enc) (C := Try.checked) false ⟨#[], #[.agg #[(.int .u16 0), (.int .u16 0)], .agg #[(.int .u8 0), (.int .u8 0), (.int .u8 0), (.int .u8 0), (.int .u8 0), (.int .u8 0)], .agg #[(.int .u8 0), (.int .u8 0), (.int .u8 0), (.int .u8 0), (.int .u8 0), (.int .u8 0)]], []⟩ 8 (by kernel_rfl) (by kernel_rfl) (by kernel_rfl) (by kernel_rfl))
    rfl Try.underlying4 Try.laidOut rfl (by kernel_rfl)
    (fun ds hd => by
      obtain ⟨d0, d1, d2, rfl⟩ := ds_3 (n := 3) (ds := ds) hd
      rfl)
    (hcall_scal [(75, [.int .u16, .int .u16], true), (54, [.int .u8, .int .u8, .int .u8, .int .u8, .int .u8, .int .u8], true), (54, [.int .u8, .int .u8, .int .u8, .int .u8, .int .u8, .int .u8], true)] rfl (by
      intro e he
      simp only [List.mem_cons, List.not_mem_nil, or_false] at he
      rcases he with rfl | rfl | rfl
      · exact ⟨by kernel_rfl, by kernel_rfl⟩
      · exact ⟨by kernel_rfl, by kernel_rfl⟩
      · exact ⟨by kernel_rfl, by kernel_rfl⟩) (fdbKeys_fun))
theorem fdbKeys_holds : Rows.FdbKeysSaid :=
  OpenClaim.holds_of_wide 6 Try.f6 rfl rfl rfl rfl rfl rfl rfl ⟨rfl, rfl, rfl, rfl, rfl⟩ rfl rfl rfl rfl rfl (by kernel_rfl) Try.func6 (by kernel_rfl)
    (of_decide_eq_true (by kernel_rfl)) (by unfold Func.isWrapper; rw [if_neg (by decide +kernel)]; exact ⟨rfl, rfl⟩)
    (fun os started H enc _ => fdbKeys_lifted os started H enc)
end Go.Proofs.Ytnmobamjinponaa
