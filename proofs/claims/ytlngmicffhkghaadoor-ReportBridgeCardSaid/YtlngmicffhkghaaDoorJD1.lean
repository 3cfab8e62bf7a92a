/- strings.Join's contract (proved in the library, laid for this program), over an ideal slice. -/
import Derived.Test.YtlngmicffhkghaaDoorTysD
import Derived.Test.YtlngmicffhkghaaDoorEvTab
import Derived.Test.YtlngmicffhkghaaDoorJsD
import Derived.Test.YtlngmicffhkghaaDoorD1
namespace Go.Ev
open Go.RowKit Go.Proofs
set_option linter.unusedSimpArgs false
def sC (s : ByteArray) : List SV := [.raw (.string s)]
theorem pull_sC (σ : List Nat) (x : ByteArray) : (sC x).map (pullS σ) = sC x := rfl
theorem push_sC (σ : List Nat) (x : ByteArray) : (sC x).map (pushS σ) = sC x := rfl
def joinB (xs : List ByteArray) (sep : ByteArray) : ByteArray := ⟨(Lib.join (xs.map (·.data.toList)) sep.data.toList).toArray⟩
theorem f20 (xs : List ByteArray) (sep : ByteArray) (hN : xs.length ≤ 140737488355328) (hlen : (Lib.join (xs.map (·.data.toList)) sep.data.toList).length ≤ 140737488355328) :
    FunR Tryd.prog 20 [.rows false 1 (xs.map sC)] [.s (.slice 0 0 xs.length), .s (.raw (.string sep))] (.s (.raw (.string (joinB xs sep)))) := by
  refine ⟨by kernel_rfl, fun w ρ vs hi ha => ?_⟩
  match vs, ha with
  | [v1, v2], ⟨h1, h2, _⟩ =>
    obtain ⟨rfl, _⟩ := h2
    have nil : ∀ (a : Option Addr) (c : Nat), xs.length = 0 → Calls Tryd.prog 20 [Value.slice a 0 c, .string sep].toArray w fun e w' => ∃ v, e = .returned v ∧ relI [] (.s (.raw (.string (joinB xs sep)))) v ∧ Below w.heap.size w w' := by
      intro a c h0
      have hx : xs = [] := List.eq_nil_of_length_eq_zero h0
      subst hx
      refine (Tryd.strings_Join_none a c sep w).mono ?_
      rintro e w' ⟨rfl, rfl⟩
      exact ⟨_, rfl, ⟨rfl, rfl⟩, Below.refl _ _⟩
    rcases h1 with ⟨_, _, h0, rfl⟩ | ⟨b, base, sz, lim, cap, hρ, rfl, hcap, _⟩ | ⟨b, base, sz, lim, off, hρ, h0, rfl⟩
    · exact nil _ _ h0
    · obtain ⟨l, hl, hsat⟩ := hi.sat 0 _ rfl
      rw [hρ] at hl; cases hl
      rcases hsat with ⟨h, _⟩ | ⟨b', base', lim', cells, T, lo, hi', he, hw, hsz, hlim, hfit, hfz, hone, hrows⟩
      · cases h
      · cases he
        have hc : ∀ (j : Nat) (x : ByteArray), xs[j]? = some x → w.cell? ⟨b, base + 0 * 1 + j, none⟩ = some (.string x) := by
          intro j x hx
          obtain ⟨_, hr⟩ := hrows j (sC x) (by rw [List.getElem?_map, hx]; rfl)
          obtain ⟨v, hv, hrel⟩ := hr 0 _ rfl
          obtain ⟨rfl, _⟩ := hrel
          simp only [World.cell?, hw, Option.isSome_none, Bool.false_eq_true, if_false]
          have e : base + 0 * 1 + j = base + j * 1 + 0 := by omega
          rw [e]; exact hv
        have hb : b < w.heap.size := (Array.getElem?_eq_some_iff.1 hw).1
        refine (Tryd.strings_Join b (base + 0 * 1) cap xs sep w hc hb hN hcap hlen).mono ?_
        rintro e w' ⟨rfl, hB⟩
        exact ⟨_, rfl, ⟨rfl, rfl⟩, hB⟩
    · have h0' : xs.length = 0 := h0
      exact nil _ _ h0'
end Go.Ev
