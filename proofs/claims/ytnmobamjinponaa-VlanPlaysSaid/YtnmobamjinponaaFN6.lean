/- VlanPlays: a table through any acts: each answer, and all that it has, by their numbers; none. Whatever the input; no condition. -/
import Derived.Test.YtnmobamjinponaaRows
import Derived.Test.YtnmobamjinponaaN7
import Derived.ProofKit
set_option maxRecDepth 100000
set_option linter.unusedSimpArgs false
set_option linter.unusedVariables false
set_option maxHeartbeats 4000000
namespace Go.Proofs.Ytnmobamjinponaa
open Go.ChangeShapes Go.WideShapes Go.ChangeAt Go.RowKit Go.Ev
theorem Try.own : ownKnob Try.prog.godebug = none := by kernel_rfl
theorem Try.laidOut : laidOutB Try.prog = true := by kernel_rfl
theorem vlanPlays_fun (ivs : List IV) (H0 : Heap) (h : TypedB 0 [(22, .sl 30 [.int .u16, .int .u16, .int .u32, .int .u32])] ivs H0) : FunR Try.prog 3 H0 ivs (.s (.raw (.bool true))) := by
  obtain ⟨els0, iv0, Hp0, he0, rfl, rfl, h0_⟩ := b_sl h
  obtain ⟨rfl, rfl⟩ := b_nil h0_
  exact (by
    obtain ⟨xs, rfl, hx⟩ := acts_ofV he0
    rw [List.length_map]
    exact law3 xs hx)
theorem vlanPlays_lifted (os : Os) (started : os.Started) (H : Type) (enc : TypeId × Value → H) :
    ReturnsInHanded {} Try.checked os 3 .any (Rows.vlanPlaysSpec.pre6 enc Try.prog Try.f3 Rows.vlanPlaysRow.domain false) (Rows.vlanPlaysSpec.post enc Try.prog Try.f3 false true false false) :=
  law_lifted (bt := 4) Try.own started (by kernel_rfl) Try.func3
    (ChangeSpec.witness6 (enc := enc) (C := Try.checked) false ⟨#[], #[.slice none 0 0], []⟩ 8 (by kernel_rfl) (by kernel_rfl) (by kernel_rfl) (by kernel_rfl))
    rfl Try.underlying4 Try.laidOut rfl (by kernel_rfl)
    (fun ds hd => by
      obtain ⟨d0, rfl⟩ := ds_1 (n := 1) (ds := ds) hd
      rfl)
    (hcall_gen [(22, .sl 30 [.int .u16, .int .u16, .int .u32, .int .u32])] rfl (by
      intro e he
      simp only [List.mem_cons, List.not_mem_nil, or_false] at he
      rcases he with rfl
      · exact ⟨by kernel_rfl, by kernel_rfl, by kernel_rfl, by decide⟩) (vlanPlays_fun))
theorem vlanPlays_holds : Rows.VlanPlaysSaid :=
  OpenClaim.holds_of_wide 3 Try.f3 rfl rfl rfl rfl rfl rfl rfl ⟨rfl, rfl, rfl, rfl, rfl⟩ rfl rfl rfl rfl rfl (by kernel_rfl) Try.func3 (by kernel_rfl)
    (of_decide_eq_true (by kernel_rfl)) (by unfold Func.isWrapper; rw [if_neg (by decide +kernel)]; exact ⟨rfl, rfl⟩)
    (fun os started H enc _ => vlanPlays_lifted os started H enc)
end Go.Proofs.Ytnmobamjinponaa
