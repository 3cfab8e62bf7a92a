/- EgressOnce: no frame goes back to where it came from, nor to a port that is not a member, or is not open; the ports of a station that is known are those of no other one. Whatever the input; no condition. -/
import Derived.Test.YtpjgbfddlagcaaaRows
import Derived.Test.YtpjgbfddlagcaaaE4
import Derived.ProofKit
set_option maxRecDepth 100000
set_option linter.unusedSimpArgs false
set_option linter.unusedVariables false
set_option maxHeartbeats 4000000
namespace Go.Proofs.Ytpjgbfddlagcaaa
open Go.ChangeShapes Go.WideShapes Go.ChangeAt Go.RowKit Go.Ev
theorem Try.own : ownKnob Try.prog.godebug = none := by kernel_rfl
theorem Try.laidOut : laidOutB Try.prog = true := by kernel_rfl
theorem egressOnce_fun (ivs : List IV) (h : TypedA [(23, [.int .u16, .int .u16], true), (5, [.int .u8], false), (5, [.int .u8], false)] ivs) : Fun Try.prog 3 ivs (.s (.raw (.bool true))) := by
  obtain ⟨ys0_, iv0, t0_, rfl, h0_⟩ := t_cons h
  obtain ⟨x0_0, ys0_0, rfl, hl_x0_0, hu_x0_0, t0_1⟩ := ty_int t0_
  obtain ⟨x0_1, ys0_1, rfl, hl_x0_1, hu_x0_1, t0_2⟩ := ty_int t0_1
  obtain rfl := ty_nil t0_2
  obtain ⟨ys1_, iv1, t1_, rfl, h1_⟩ := t_cons h0_
  obtain ⟨x1_0, ys1_0, rfl, hl_x1_0, hu_x1_0, t1_1⟩ := ty_int t1_
  obtain rfl := ty_nil t1_1
  obtain ⟨ys2_, iv2, t2_, rfl, h2_⟩ := t_cons h1_
  obtain ⟨x2_0, ys2_0, rfl, hl_x2_0, hu_x2_0, t2_1⟩ := ty_int t2_
  obtain rfl := ty_nil t2_1
  obtain rfl := t_nil h2_
  exact law3 x0_0 x0_1 x1_0 x2_0 hl_x0_0 hu_x0_0 hl_x0_1 hu_x0_1 hl_x1_0 hu_x1_0 hl_x2_0 hu_x2_0
theorem egressOnce_lifted (os : Os) (started : os.Started) (H : Type) (enc : TypeId × Value → H) :
    ReturnsInHanded {} Try.checked os 3 .any (Rows.egressOnceSpec.pre6 enc Try.prog Try.f3 Rows.egressOnceRow.domain false) (Rows.egressOnceSpec.post enc Try.prog Try.f3 false true false false) :=
  law_lifted (bt := 4) Try.own started (by kernel_rfl) Try.func3
    (ChangeSpec.witness6 (enc := enc) (C := Try.checked) false ⟨#[], #[.agg #[(.int .u16 0), (.int .u16 0)], (.int .u8 0), (.int .u8 0)], []⟩ 8 (by kernel_rfl) (by kernel_rfl) (by kernel_rfl) (by kernel_rfl))
    rfl Try.underlying4 Try.laidOut rfl (by kernel_rfl)
    (fun ds hd => by
      obtain ⟨d0, d1, d2, rfl⟩ := ds_3 (n := 3) (ds := ds) hd
      rfl)
    (hcall_scal [(23, [.int .u16, .int .u16], true), (5, [.int .u8], false), (5, [.int .u8], false)] rfl (by
      intro e he
      simp only [List.mem_cons, List.not_mem_nil, or_false] at he
      rcases he with rfl | rfl | rfl
      · exact ⟨by kernel_rfl, by kernel_rfl⟩
      · exact ⟨by kernel_rfl, by kernel_rfl⟩
      · exact ⟨by kernel_rfl, by kernel_rfl⟩) (egressOnce_fun))
theorem egressOnce_holds : Rows.EgressOnceSaid :=
  OpenClaim.holds_of_wide 3 Try.f3 rfl rfl rfl rfl rfl rfl rfl ⟨rfl, rfl, rfl, rfl, rfl⟩ rfl rfl rfl rfl rfl (by kernel_rfl) Try.func3 (by kernel_rfl)
    (of_decide_eq_true (by kernel_rfl)) (by unfold Func.isWrapper; rw [if_neg (by decide +kernel)]; exact ⟨rfl, rfl⟩)
    (fun os started H enc _ => egressOnce_lifted os started H enc)
end Go.Proofs.Ytpjgbfddlagcaaa
