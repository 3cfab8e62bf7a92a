/- VlanFull: as many tables entries as there may be; one more is refused, another one in the place of one is not. Whatever the input; no condition. -/
import Derived.Test.YtnmobamjinponaaRows
import Derived.Test.YtnmobamjinponaaN5
import Derived.ProofKit
set_option maxRecDepth 100000
set_option linter.unusedSimpArgs false
set_option linter.unusedVariables false
set_option maxHeartbeats 4000000
namespace Go.Proofs.Ytnmobamjinponaa
open Go.ChangeShapes Go.WideShapes Go.ChangeAt Go.RowKit Go.Ev
theorem Try.own : ownKnob Try.prog.godebug = none := by kernel_rfl
theorem Try.laidOut : laidOutB Try.prog = true := by kernel_rfl
theorem vlanFull_fun (ivs : List IV) (h : TypedA [(27, [.int .u16], false), (5, [.int .u8], false)] ivs) : Fun Try.prog 4 ivs (.s (.raw (.bool true))) := by
  obtain ⟨ys0_, iv0, t0_, rfl, h0_⟩ := t_cons h
  obtain ⟨x0_0, ys0_0, rfl, hl_x0_0, hu_x0_0, t0_1⟩ := ty_int t0_
  obtain rfl := ty_nil t0_1
  obtain ⟨ys1_, iv1, t1_, rfl, h1_⟩ := t_cons h0_
  obtain ⟨x1_0, ys1_0, rfl, hl_x1_0, hu_x1_0, t1_1⟩ := ty_int t1_
  obtain rfl := ty_nil t1_1
  obtain rfl := t_nil h1_
  exact law4 x0_0 x1_0 hl_x0_0 hu_x0_0 hl_x1_0 hu_x1_0
theorem vlanFull_lifted (os : Os) (started : os.Started) (H : Type) (enc : TypeId × Value → H) :
    ReturnsInHanded {} Try.checked os 4 .any (Rows.vlanFullSpec.pre6 enc Try.prog Try.f4 Rows.vlanFullRow.domain false) (Rows.vlanFullSpec.post enc Try.prog Try.f4 false true false false) :=
  law_lifted (bt := 4) Try.own started (by kernel_rfl) Try.func4
    (ChangeSpec.witness6 (enc := enc) (C := Try.checked) false ⟨#[], #[(.int .u16 0), (.int .u8 0)], []⟩ 8 (by kernel_rfl) (by kernel_rfl) (by kernel_rfl) (by kernel_rfl))
    rfl Try.underlying4 Try.laidOut rfl (by kernel_rfl)
    (fun ds hd => by
      obtain ⟨d0, d1, rfl⟩ := ds_2 (n := 2) (ds := ds) hd
      rfl)
    (hcall_scal [(27, [.int .u16], false), (5, [.int .u8], false)] rfl (by
      intro e he
      simp only [List.mem_cons, List.not_mem_nil, or_false] at he
      rcases he with rfl | rfl
      · exact ⟨by kernel_rfl, by kernel_rfl⟩
      · exact ⟨by kernel_rfl, by kernel_rfl⟩) (vlanFull_fun))
theorem vlanFull_holds : Rows.VlanFullSaid :=
  OpenClaim.holds_of_wide 4 Try.f4 rfl rfl rfl rfl rfl rfl rfl ⟨rfl, rfl, rfl, rfl, rfl⟩ rfl rfl rfl rfl rfl (by kernel_rfl) Try.func4 (by kernel_rfl)
    (of_decide_eq_true (by kernel_rfl)) (by unfold Func.isWrapper; rw [if_neg (by decide +kernel)]; exact ⟨rfl, rfl⟩)
    (fun os started H enc _ => vlanFull_lifted os started H enc)
end Go.Proofs.Ytnmobamjinponaa
