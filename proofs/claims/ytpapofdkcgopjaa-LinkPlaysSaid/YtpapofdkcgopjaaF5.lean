/- LinkPlays: a link through any acts: each answer, and what is under way; none. Whatever the input; no condition. -/
import Derived.Test.YtpapofdkcgopjaaRows
import Derived.Test.YtpapofdkcgopjaaL6
import Derived.ProofKit
set_option maxRecDepth 100000
set_option linter.unusedSimpArgs false
set_option linter.unusedVariables false
set_option maxHeartbeats 4000000
namespace Go.Proofs.Ytpapofdkcgopjaa
open Go.ChangeShapes Go.WideShapes Go.ChangeAt Go.RowKit Go.Ev
theorem Try.own : ownKnob Try.prog.godebug = none := by kernel_rfl
theorem Try.laidOut : laidOutB Try.prog = true := by kernel_rfl
theorem linkPlays_fun (ivs : List IV) (H0 : Heap) (h : TypedB 0 [(53, .sl 57 [.int .u8, .int .i64, .string, .bool])] ivs H0) : FunR Try.prog 5 H0 ivs (.s (.raw (.bool true))) := by
  obtain ⟨els0, iv0, Hp0, he0, rfl, rfl, h0_⟩ := b_sl h
  obtain ⟨rfl, rfl⟩ := b_nil h0_
  exact (by
    obtain ⟨vs, rfl⟩ := rows_al els0 he0
    rw [List.length_map]
    exact law5 vs)
theorem linkPlays_lifted (os : Os) (started : os.Started) (H : Type) (enc : TypeId × Value → H) :
    ReturnsInHanded {} Try.checked os 5 .any (Rows.linkPlaysSpec.pre6 enc Try.prog Try.f5 Rows.linkPlaysRow.domain false) (Rows.linkPlaysSpec.post enc Try.prog Try.f5 false true false false) :=
  law_lifted (bt := 4) Try.own started (by kernel_rfl) Try.func5
    (ChangeSpec.witness6 (enc := enc) (C := Try.checked) false ⟨#[], #[.slice none 0 0], []⟩ 8 (by kernel_rfl) (by kernel_rfl) (by kernel_rfl) (by kernel_rfl))
    rfl Try.underlying4 Try.laidOut rfl (by kernel_rfl)
    (fun ds hd => by
      obtain ⟨d0, rfl⟩ := ds_1 (n := 1) (ds := ds) hd
      rfl)
    (hcall_gen [(53, .sl 57 [.int .u8, .int .i64, .string, .bool])] rfl (by
      intro e he
      simp only [List.mem_cons, List.not_mem_nil, or_false] at he
      rcases he with rfl
      · exact ⟨by kernel_rfl, by kernel_rfl, by kernel_rfl, by decide⟩) (linkPlays_fun))
theorem linkPlays_holds : Rows.LinkPlaysSaid :=
  OpenClaim.holds_of_wide 5 Try.f5 rfl rfl rfl rfl rfl rfl rfl ⟨rfl, rfl, rfl, rfl, rfl⟩ rfl rfl rfl rfl rfl (by kernel_rfl) Try.func5 (by kernel_rfl)
    (of_decide_eq_true (by kernel_rfl)) (by unfold Func.isWrapper; rw [if_neg (by decide +kernel)]; exact ⟨rfl, rfl⟩)
    (fun os started H enc _ => linkPlays_lifted os started H enc)
end Go.Proofs.Ytpapofdkcgopjaa
