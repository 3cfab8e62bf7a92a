/- VectorBest: the best of any vectors is the first one than which none is better. Whatever the input; no condition. -/
import Derived.Test.YtpapofdkcgopjaaRows
import Derived.Test.YtpapofdkcgopjaaB7
import Derived.ProofKit
set_option maxRecDepth 100000
set_option linter.unusedSimpArgs false
set_option linter.unusedVariables false
set_option maxHeartbeats 4000000
namespace Go.Proofs.Ytpapofdkcgopjaa
open Go.ChangeShapes Go.WideShapes Go.ChangeAt Go.RowKit Go.Ev
theorem Try.own : ownKnob Try.prog.godebug = none := by kernel_rfl
theorem Try.laidOut : laidOutB Try.prog = true := by kernel_rfl
theorem vectorBest_fun (ivs : List IV) (H0 : Heap) (h : TypedB 0 [(71, .sl 63 [.int .u64, .int .u32, .int .u64, .int .u16])] ivs H0) : FunR Try.prog 7 H0 ivs (.s (.raw (.bool true))) := by
  obtain ⟨els0, iv0, Hp0, he0, rfl, rfl, h0_⟩ := b_sl h
  obtain ⟨rfl, rfl⟩ := b_nil h0_
  exact (by
    obtain ⟨vs, rfl⟩ := rows_v4 els0 he0
    rw [List.length_map]
    exact law7 vs)
theorem vectorBest_lifted (os : Os) (started : os.Started) (H : Type) (enc : TypeId × Value → H) :
    ReturnsInHanded {} Try.checked os 7 .any (Rows.vectorBestSpec.pre6 enc Try.prog Try.f7 Rows.vectorBestRow.domain false) (Rows.vectorBestSpec.post enc Try.prog Try.f7 false true false false) :=
  law_lifted (bt := 4) Try.own started (by kernel_rfl) Try.func7
    (ChangeSpec.witness6 (enc := enc) (C := Try.checked) false ⟨#[], #[.slice none 0 0], []⟩ 8 (by kernel_rfl) (by kernel_rfl) (by kernel_rfl) (by kernel_rfl))
    rfl Try.underlying4 Try.laidOut rfl (by kernel_rfl)
    (fun ds hd => by
      obtain ⟨d0, rfl⟩ := ds_1 (n := 1) (ds := ds) hd
      rfl)
    (hcall_gen [(71, .sl 63 [.int .u64, .int .u32, .int .u64, .int .u16])] rfl (by
      intro e he
      simp only [List.mem_cons, List.not_mem_nil, or_false] at he
      rcases he with rfl
      · exact ⟨by kernel_rfl, by kernel_rfl, by kernel_rfl, by decide⟩) (vectorBest_fun))
theorem vectorBest_holds : Rows.VectorBestSaid :=
  OpenClaim.holds_of_wide 7 Try.f7 rfl rfl rfl rfl rfl rfl rfl ⟨rfl, rfl, rfl, rfl, rfl⟩ rfl rfl rfl rfl rfl (by kernel_rfl) Try.func7 (by kernel_rfl)
    (of_decide_eq_true (by kernel_rfl)) (by unfold Func.isWrapper; rw [if_neg (by decide +kernel)]; exact ⟨rfl, rfl⟩)
    (fun os started H enc _ => vectorBest_lifted os started H enc)
end Go.Proofs.Ytpapofdkcgopjaa
