/- EgressForm: any frame as any port of any VLAN sends it. Whatever the input; no condition. -/
import Derived.Test.YtpjgbfddlagcaaaRows
import Derived.Test.YtpjgbfddlagcaaaE7
import Derived.ProofKit
set_option maxRecDepth 100000
set_option linter.unusedSimpArgs false
set_option linter.unusedVariables false
set_option maxHeartbeats 4000000
namespace Go.Proofs.Ytpjgbfddlagcaaa
open Go.ChangeShapes Go.WideShapes Go.ChangeAt Go.RowKit Go.Ev
theorem Try.own : ownKnob Try.prog.godebug = none := by kernel_rfl
theorem Try.laidOut : laidOutB Try.prog = true := by kernel_rfl
theorem egressForm_fun (ivs : List IV) (h : TypedA [(69, [.bool, .int .u8, .bool, .int .u16, .int .u16, .int .u16, .int .u16, .int .u16, .int .u16], true), (3, [.int .i64], false)] ivs) : Fun Try.prog 5 ivs (.s (.raw (.bool true))) := by
  obtain ⟨ys0_, iv0, t0_, rfl, h0_⟩ := t_cons h
  obtain ⟨x0_0, ys0_0, rfl, t0_1⟩ := ty_bool t0_
  obtain ⟨x0_1, ys0_1, rfl, hl_x0_1, hu_x0_1, t0_2⟩ := ty_int t0_1
  obtain ⟨x0_2, ys0_2, rfl, t0_3⟩ := ty_bool t0_2
  obtain ⟨x0_3, ys0_3, rfl, hl_x0_3, hu_x0_3, t0_4⟩ := ty_int t0_3
  obtain ⟨x0_4, ys0_4, rfl, hl_x0_4, hu_x0_4, t0_5⟩ := ty_int t0_4
  obtain ⟨x0_5, ys0_5, rfl, hl_x0_5, hu_x0_5, t0_6⟩ := ty_int t0_5
  obtain ⟨x0_6, ys0_6, rfl, hl_x0_6, hu_x0_6, t0_7⟩ := ty_int t0_6
  obtain ⟨x0_7, ys0_7, rfl, hl_x0_7, hu_x0_7, t0_8⟩ := ty_int t0_7
  obtain ⟨x0_8, ys0_8, rfl, hl_x0_8, hu_x0_8, t0_9⟩ := ty_int t0_8
  obtain rfl := ty_nil t0_9
  obtain ⟨ys1_, iv1, t1_, rfl, h1_⟩ := t_cons h0_
  obtain ⟨x1_0, ys1_0, rfl, hl_x1_0, hu_x1_0, t1_1⟩ := ty_int t1_
  obtain rfl := ty_nil t1_1
  obtain rfl := t_nil h1_
  exact law5 x0_0 x0_1 x0_2 x0_3 x0_4 x0_5 x0_6 x0_7 x0_8 x1_0 hl_x0_5 hu_x0_5 hl_x0_8 hu_x0_8
theorem egressForm_lifted (os : Os) (started : os.Started) (H : Type) (enc : TypeId × Value → H) :
    ReturnsInHanded {} Try.checked os 5 .any (Rows.egressFormSpec.pre6 enc Try.prog Try.f5 Rows.egressFormRow.domain false) (Rows.egressFormSpec.post enc Try.prog Try.f5 false true false false) :=
  law_lifted (bt := 4) Try.own started (by kernel_rfl) Try.func5
    (ChangeSpec.witness6 (enc := enc) (C := Try.checked) false ⟨#[], #[.agg #[(.bool false), (.int .u8 0), (.bool false), (.int .u16 0), (.int .u16 0), (.int .u16 0), (.int .u16 0), (.int .u16 0), (.int .u16 0)], (.int .i64 0)], []⟩ 8 (by kernel_rfl) (by kernel_rfl) (by kernel_rfl) (by kernel_rfl))
    rfl Try.underlying4 Try.laidOut rfl (by kernel_rfl)
    (fun ds hd => by
      obtain ⟨d0, d1, rfl⟩ := ds_2 (n := 2) (ds := ds) hd
      rfl)
    (hcall_scal [(69, [.bool, .int .u8, .bool, .int .u16, .int .u16, .int .u16, .int .u16, .int .u16, .int .u16], true), (3, [.int .i64], false)] rfl (by
      intro e he
      simp only [List.mem_cons, List.not_mem_nil, or_false] at he
      rcases he with rfl | rfl
      · exact ⟨by kernel_rfl, by kernel_rfl⟩
      · exact ⟨by kernel_rfl, by kernel_rfl⟩) (egressForm_fun))
theorem egressForm_holds : Rows.EgressFormSaid :=
  OpenClaim.holds_of_wide 5 Try.f5 rfl rfl rfl rfl rfl rfl rfl ⟨rfl, rfl, rfl, rfl, rfl⟩ rfl rfl rfl rfl rfl (by kernel_rfl) Try.func5 (by kernel_rfl)
    (of_decide_eq_true (by kernel_rfl)) (by unfold Func.isWrapper; rw [if_neg (by decide +kernel)]; exact ⟨rfl, rfl⟩)
    (fun os started H enc _ => egressForm_lifted os started H enc)
end Go.Proofs.Ytpjgbfddlagcaaa
