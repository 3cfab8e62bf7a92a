/- A part of the proof: contracts of the functions that the statement reaches. -/
import Derived.Test.YtnmobamjinponaaN6
namespace Go.Ev
open Go.Proofs
set_option linter.unusedVariables false
theorem acts_ofV : ∀ {els : List (List SV)}, (∀ row ∈ els, TypedL [.int .u16, .int .u16, .int .u32, .int .u32] row) → ∃ xs : List ACV, els = xs.map encA ∧ ∀ x ∈ xs, 0 ≤ x.m ∧ 0 ≤ x.u
  | [], _ => ⟨[], rfl, fun _ h => by cases h⟩
  | row :: rest, h => by
    obtain ⟨xs, rfl, hp⟩ := acts_ofV (els := rest) fun r hr => h r (List.mem_cons_of_mem _ hr)
    have t := h row (List.mem_cons_self ..)
    obtain ⟨w, y0, rfl, _, _, t⟩ := ty_int t
    obtain ⟨v, y1, rfl, _, _, t⟩ := ty_int t
    obtain ⟨m, y2, rfl, m0, _, t⟩ := ty_int t
    obtain ⟨u, y3, rfl, u0, _, t⟩ := ty_int t
    obtain rfl := ty_nil t
    refine ⟨⟨w, v, m, u⟩ :: xs, rfl, fun x h => ?_⟩
    rcases List.mem_cons.1 h with rfl | h
    · exact ⟨m0, u0⟩
    · exact hp x h
end Go.Ev
