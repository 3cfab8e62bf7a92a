/- A part of the proof: contracts of the functions that the statement reaches. -/
import Derived.Test.YtlngmicffhkghaaDoorE8
import Derived.LaidMore
import Derived.OpenShut
namespace Go.Ev
open Go.RowKit Go.Proofs
/-- What an initialiser of an array of strings lays. -/
def strsD (ss : List ByteArray) : DataW Unit := .agg (ss.map fun s => .lit (.string s.data.toList))
theorem cells_of_strs {enc : TypeId × Value → Unit} {P : Program} {w : World} {base : Nat} {sp : Nat → Bool} {held : Bool} {fuel : Nat} {t e : TypeId} {n : Nat} {cs : List Value} {ss : List ByteArray} {p : List MemPlace}
    (ht : P.underlying t = some (.array n e)) (he : P.underlying e = some .string) (hce : P.cellsOf e = 1) (hct : P.cellsOf t = n)
    (h : DataW.trod enc P w base sp held fuel t cs = some (strsD ss, p)) : cs = ss.map Value.string := by
  obtain ⟨xs, m, rfl, hx, hl, hxl, hat⟩ := DataW.trod_array ht h
  have hxs : xs.map (·.1) = ss.map fun s => (DataW.lit (.string s.data.toList) : DataW Unit) := by
    have := congrArg Prod.fst hx
    simpa [strsD] using this.symm
  have hsl : ss.length = n := by
    have := congrArg List.length hxs
    simp at this
    omega
  rw [hct] at hl
  apply List.ext_getElem?
  intro i
  by_cases hi : i < n
  · obtain ⟨b, hb⟩ : ∃ b, xs[i]? = some b := ⟨_, List.getElem?_eq_getElem (by omega)⟩
    have hf := hat i hi
    rw [hb] at hf
    obtain ⟨s, hc, rfl, _⟩ := DataW.trod_string he hf
    have h1 : cs[i]? = some (.string s) := by
      have := congrArg (·[0]?) hc
      simpa [hce, List.getElem?_take, List.getElem?_drop] using this
    have h2 : (xs.map (·.1))[i]? = some (DataW.lit (.string s.data.toList) : DataW Unit) := by simp [hb]
    rw [hxs] at h2
    simp only [List.getElem?_map, Option.map_eq_some_iff, DataW.lit.injEq, Lit.string.injEq] at h2
    obtain ⟨s', hs', e1⟩ := h2
    have : s' = s := by
      apply ByteArray.ext; apply Array.ext'; exact e1
    simp [h1, hs', this]
  · rw [List.getElem?_eq_none (by omega), List.getElem?_eq_none (by simp; omega)]
theorem stab_of {W : World} {name : String} {ss : List ByteArray} {rest : List (String × DataW Unit)} {g : Nat} {t e : TypeId} {n : Nat}
    (hg : Tryd.prog.globalNamed name = some g) (hty : (Tryd.prog.globals[g]?).map (·.type) = some t) (ht : Tryd.prog.underlying t = some (.array n e)) (he : Tryd.prog.underlying e = some .string) (hce : Tryd.prog.cellsOf e = 1) (hct : Tryd.prog.cellsOf t = n)
    (h : laidMet Tryd.prog ((name, strsD ss) :: rest) W) : STab name ss W := by
  obtain ⟨ps, ⟨g', t', cs, fuel, p, q, hg', ht', hvar, hd, _, _⟩, _⟩ := h
  obtain rfl := Option.some.inj (hg.symm.trans hg')
  obtain rfl := Option.some.inj (hty.symm.trans ht')
  unfold STab
  rw [hvar, ← cells_of_strs ht he hce hct hd]
end Go.Ev
