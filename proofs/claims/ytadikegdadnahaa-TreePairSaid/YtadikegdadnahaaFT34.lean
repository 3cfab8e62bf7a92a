/- TreePair: two bridges, joined by some links, whose PDUs all come in order: behind sixty rounds the greater one has one root port, that forwards, its other ports are Alternate; the ports of the lesser one are Designated, and forward. Whatever the input; no condition. -/
import Derived.Test.YtadikegdadnahaaRows
import Derived.Test.YtadikegdadnahaaT40
import Derived.Test.YtadikegdadnahaaT34
import Derived.ProofKit
set_option maxRecDepth 100000
set_option linter.unusedSimpArgs false
set_option linter.unusedVariables false
set_option maxHeartbeats 4000000
namespace Go.Proofs.Ytadikegdadnahaa
open Go.ChangeShapes Go.WideShapes Go.ChangeAt Go.RowKit Go.Ev
theorem Try.own : ownKnob Try.prog.godebug = none := by kernel_rfl
theorem Try.laidOut : laidOutB Try.prog = true := by kernel_rfl
theorem rowsU_of : ∀ {els : List (List SV)}, (∀ row ∈ els, TypedL [.int .u8] row) → ∃ xs : List Int, els = xs.map sU ∧ ∀ c ∈ xs, 0 ≤ c ∧ c ≤ 255
  | [], _ => ⟨[], rfl, fun _ h => by cases h⟩
  | row :: rest, h => by
    obtain ⟨xs, rfl, hp⟩ := rowsU_of (els := rest) fun r hr => h r (List.mem_cons_of_mem _ hr)
    have t := h row (List.mem_cons_self ..)
    obtain ⟨a, y0, rfl, h1, h2, t1⟩ := ty_int t
    obtain rfl := ty_nil t1
    refine ⟨a :: xs, rfl, fun x hx => ?_⟩
    rcases List.mem_cons.1 hx with rfl | hx
    · exact ⟨h1, h2⟩
    · exact hp x hx
theorem treePair_fun (ivs : List IV) (H0 : Heap) (h : TypedB 0 [(22, .sl 5 [.int .u8]), (22, .sl 5 [.int .u8])] ivs H0) : FunR Try.prog 3 H0 ivs (.s (.raw (.bool true))) := by
  obtain ⟨els0, iv0, Hp0, he0, rfl, rfl, h0_⟩ := b_sl h
  obtain ⟨els1, iv1, Hp1, he1, rfl, rfl, h1_⟩ := b_sl h0_
  obtain ⟨rfl, rfl⟩ := b_nil h1_
  exact by
    obtain ⟨cs, rfl, hc⟩ := rowsU_of he0
    obtain ⟨acts, rfl, _⟩ := rowsU_of he1
    have := law3 cs acts (pair_ok hc acts)
    simpa [H0] using this
theorem treePair_lifted (os : Os) (started : os.Started) (H : Type) (enc : TypeId × Value → H) :
    ReturnsInHanded {} Try.checked os 3 .any (Rows.treePairSpec.pre6 enc Try.prog Try.f3 Rows.treePairRow.domain false) (Rows.treePairSpec.post enc Try.prog Try.f3 false true false false) :=
  law_lifted (bt := 4) Try.own started (by kernel_rfl) Try.func3
    (ChangeSpec.witness6 (enc := enc) (C := Try.checked) false ⟨#[], #[.slice none 0 0, .slice none 0 0], []⟩ 8 (by kernel_rfl) (by kernel_rfl) (by kernel_rfl) (by kernel_rfl))
    rfl Try.underlying4 Try.laidOut rfl (by kernel_rfl)
    (fun ds hd => by
      obtain ⟨d0, d1, rfl⟩ := ds_2 (n := 2) (ds := ds) hd
      rfl)
    (hcall_gen [(22, .sl 5 [.int .u8]), (22, .sl 5 [.int .u8])] rfl (by
      intro e he
      simp only [List.mem_cons, List.not_mem_nil, or_false] at he
      rcases he with rfl | rfl
      · exact ⟨by kernel_rfl, by kernel_rfl, by kernel_rfl, by decide⟩
      · exact ⟨by kernel_rfl, by kernel_rfl, by kernel_rfl, by decide⟩) (treePair_fun))
theorem treePair_holds : Rows.TreePairSaid :=
  OpenClaim.holds_of_wide 3 Try.f3 rfl rfl rfl rfl rfl rfl rfl ⟨rfl, rfl, rfl, rfl, rfl⟩ rfl rfl rfl rfl rfl (by kernel_rfl) Try.func3 (by kernel_rfl)
    (of_decide_eq_true (by kernel_rfl)) (by unfold Func.isWrapper; rw [if_neg (by decide +kernel)]; exact ⟨rfl, rfl⟩)
    (fun os started H enc _ => treePair_lifted os started H enc)
end Go.Proofs.Ytadikegdadnahaa
