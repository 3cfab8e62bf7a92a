/- A part of the proof: contracts of the functions that the statement reaches. -/
import Derived.Test.YtnmobamjinponaaG15
namespace Go.Ev
open Go.Proofs
theorem acts_of : ∀ {els : List (List SV)}, (∀ row ∈ els, TypedL [.int .u8, .int .u16, .int .u8, .int .u8, .int .u8, .int .u8, .int .u8, .int .u8, .int .i64, .int .i64] row) → ∃ xs : List ACT, els = xs.map encA ∧ ∀ x ∈ xs, KOK (aK x)
  | [], _ => ⟨[], rfl, fun _ h => by cases h⟩
  | row :: rest, h => by
    obtain ⟨xs, rfl, hp⟩ := acts_of (els := rest) fun r hr => h r (List.mem_cons_of_mem _ hr)
    have t := h row (List.mem_cons_self ..)
    obtain ⟨w, y0, rfl, _, _, t⟩ := ty_int t
    obtain ⟨v, y1, rfl, _, _, t⟩ := ty_int t
    obtain ⟨m0, y2, rfl, a0, b0, t⟩ := ty_int t
    obtain ⟨m1, y3, rfl, a1, b1, t⟩ := ty_int t
    obtain ⟨m2, y4, rfl, a2, b2, t⟩ := ty_int t
    obtain ⟨m3, y5, rfl, a3, b3, t⟩ := ty_int t
    obtain ⟨m4, y6, rfl, a4, b4, t⟩ := ty_int t
    obtain ⟨m5, y7, rfl, a5, b5, t⟩ := ty_int t
    obtain ⟨p, y8, rfl, _, _, t⟩ := ty_int t
    obtain ⟨a, y9, rfl, _, _, t⟩ := ty_int t
    obtain rfl := ty_nil t
    refine ⟨⟨w, v, ⟨m0, m1, m2, m3, m4, m5⟩, p, a⟩ :: xs, rfl, fun x h => ?_⟩
    rcases List.mem_cons.1 h with rfl | h
    · exact ⟨⟨a0, b0⟩, ⟨a1, b1⟩, ⟨a2, b2⟩, ⟨a3, b3⟩, ⟨a4, b4⟩, ⟨a5, b5⟩⟩
    · exact hp x h
end Go.Ev
