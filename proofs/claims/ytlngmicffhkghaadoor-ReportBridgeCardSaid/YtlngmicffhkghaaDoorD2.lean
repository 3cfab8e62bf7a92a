/- A part of the proof: contracts of the functions that the statement reaches. -/
import Derived.Test.YtlngmicffhkghaaDoorJD1
import Derived.Lib.AppendIntMem
namespace Go.Ev
open Go.RowKit Go.Proofs Go.Sort
set_option maxRecDepth 100000
set_option linter.unusedSimpArgs false
set_option linter.unusedVariables false
set_option maxHeartbeats 4000000
def TT (w : World) : Prop := Lib.TabIs Tryd.prog w "internal/strconv.uint64pow10" .u64 Lib.pow10Tab
theorem tt_stays : StaysT TT := fun w w' hb h => Lib.tabBelow_of_tabIs h w' hb
def bcell (b : UInt8) : SV := .raw (.int .u8 (b.toNat : Int))
def decB (u : Nat) : ByteArray := ⟨(Lib.decDigits u).toArray⟩
def bufR (u : Nat) : List SV := (Lib.decDigits u).map bcell ++ List.replicate (24 - Lib.nDigits u) (.raw (.int .u8 0))

theorem inv_like {X : Ctx} {ρ : Ren} {H : Heap} {w w' : World} (h : Inv X ρ H w) (h1 : w'.heap = w.heap) (h2 : w'.os = w.os) (h3 : w'.tape = w.tape) (h4 : w'.output = w.output) : Inv X ρ H w' :=
  ⟨h2.trans h.os, h3.trans h.tape, h4.trans h.output, by rw [h1]; exact h.size, fun b hb hF => by rw [h1]; exact h.old b hb hF, h.len, h.obj1,
    fun c ch hc => let ⟨l, hl, hs⟩ := h.sat c ch hc; ⟨l, hl, by
      cases ch with
      | gone => trivial
      | clo _ _ _ => exact hs
      | rows _ _ _ => simp only [SatC, h1] at hs ⊢; exact hs
      | map _ _ => simp only [SatC, h1] at hs ⊢; exact hs
      | iter _ _ _ _ => simp only [SatC, h1] at hs ⊢; exact hs⟩, h.own, h.ro, h.apart⟩

theorem callK_36 {X : Ctx} {H : Heap} {k : IV → Heap → Prop} {c u kk nd : Nat} (hu1 : 1 ≤ u) (hu64 : u < 18446744073709551616) (hc : H[c]? = some (.rows true 24 [List.replicate 24 (.raw (.int .u8 0))])) (hd : nd = Lib.nDigits u) (h20 : nd ≤ 20)
    (hk : k (.t []) (H.set c (.rows true 24 [bufR u]))) : callK Tryd.prog X 36 [.s (.sub c 0 0 kk nd), .s (.raw (.int .u64 (u : Int)))] k H := by
  refine ⟨by kernel_rfl, fun ρ vs w hargs hi => ?_⟩
  match vs, hargs with
  | [v1, v2], ⟨h1, h2, _⟩ =>
    obtain ⟨rfl, _⟩ := h2
    have hpos : 1 ≤ nd := by
      rw [hd]
      have := Lib.decDigits_length u
      have h0 := Lib.decDigits_eq u
      by_cases h : Lib.nDigits u = 0
      · have := Lib.lt_pow_nDigits u
        rw [h] at this
        simp at this
        omega
      · omega
    rcases h1 with ⟨b, base, sz, lim, cap, hρ, rfl, hcap⟩ | ⟨_, _, _, _, _, _, h0, _⟩
    · obtain ⟨l, hl, hsat⟩ := hi.sat c _ hc
      rw [hρ] at hl; cases hl
      rcases hsat with ⟨h, _⟩ | ⟨b', base', lim', cells, T, lo, hi', he, hw, hsz, hlim, hfit, hfz, hone, hrows⟩
      · cases h
      · cases he
        obtain ⟨_, hr⟩ := hrows 0 _ rfl
        have hl1 : 1 ≤ lim := hlim
        have hcell : ∀ o, o < 24 → cells[base + 0 * 24 + o]? = some (.int .u8 0) := fun o ho => by
          obtain ⟨v, hv, hrel⟩ := hr o (.raw (.int .u8 0)) (by rw [List.getElem?_replicate, if_pos ho])
          rw [hv, hrel.1]
        have hin : ∀ o, o < 24 → base + 0 * 24 + 0 + o < cells.size := fun o ho => by
          have := (Array.getElem?_eq_some_iff.1 (hcell o ho)).1
          omega
        have hH : Holds (fun (b : UInt8) => Value.int .u8 (b.toNat : Int)) w b (base + 0 * 24 + 0) (Array.replicate nd (0 : UInt8)) := by
          intro j hj
          rw [Array.size_replicate] at hj
          refine ⟨?_, ?_⟩
          · simp only [World.cell?, hw, Option.isSome_none, Bool.false_eq_true, if_false]
            rw [getElem!_pos _ _ (by simpa using hj), Array.getElem_replicate]
            have := hcell j (by omega)
            rw [Nat.add_zero]; exact this
          · simp only [World.frozen?, hw]
            have := hfz rfl (base + 0 * 24 + 0 + j) (hin j (by omega))
            simp only [Bool.and_eq_false_imp, decide_eq_true_eq, decide_eq_false_iff_not]
            omega
        have hfmt := Tryd.internal_strconv_formatBase10 b (base + 0 * 24 + 0) cap u (Array.replicate nd 0) w hH (by rw [Array.size_replicate, hd]; exact Lib.lt_pow_nDigits u) hu64 (by rw [Array.size_replicate]; omega)
        rw [Array.size_replicate] at hfmt
        refine hfmt.mono ?_
        rintro e w' ⟨rfl, n, v', dk, rfl, hF⟩
        refine ⟨.tuple #[], .t [], _, ρ, rfl, hk, ⟨[], rfl, trivial⟩, Le.refl _, ?_⟩
        refine inv_like (w := putRow (fun (b : UInt8) => Value.int .u8 (b.toNat : Int)) w b (base + 0 * 24 + 0) dk) ?_ rfl rfl rfl rfl
        subst hd
        have hlen : (bufR u).length = 24 := by
          simp only [bufR, List.length_append, List.length_map, List.length_replicate, Lib.decDigits_length]; omega
        have hpc : ∀ i, (putCells (fun (b : UInt8) => Value.int .u8 (b.toNat : Int)) (base + 0 * 24 + 0) dk cells)[i]? = if base + 0 * 24 + 0 ≤ i ∧ i < base + 0 * 24 + 0 + dk.size then (cells[i]?).map (fun _ => Value.int .u8 ((dk[i - (base + 0 * 24 + 0)]!).toNat : Int)) else cells[i]? := fun i => by
          simp only [putCells, Array.getElem?_mapIdx]
          split
          · cases cells[i]? <;> rfl
          · cases cells[i]? <;> rfl
        have hsize : (putCells (fun (b : UInt8) => Value.int .u8 (b.toNat : Int)) (base + 0 * 24 + 0) dk cells).size = cells.size := by simp [putCells]
        refine hi.upd hc hρ rfl rfl rfl rfl (by simp [putRow, mapBlock]) (fun b' hb' => ?_) (.inr ⟨b, base, lim, putCells (fun (b : UInt8) => Value.int .u8 (b.toNat : Int)) (base + 0 * 24 + 0) dk cells, T, lo, hi', rfl, ?_, hsz, hlim, by rw [hsize]; exact hfit, fun h o ho => hfz h o (by rw [hsize] at ho; exact ho), fun h v hv => ?_, ?_⟩) rfl
        · have hne : b ≠ b' := fun e => hb' (by rw [e]; rfl)
          simp only [putRow, mapBlock, Array.getElem?_modify, if_neg hne]
        · simp only [putRow, mapBlock, Array.getElem?_modify, if_true, hw, Option.map_some, onCells]
        · obtain ⟨i, hi2⟩ := Array.mem_iff_getElem?.1 hv
          rw [hpc] at hi2
          split at hi2
          · cases hci : cells[i]? with
            | none => rw [hci] at hi2; cases hi2
            | some z => rw [hci] at hi2; cases hi2; rfl
          · exact hone h v (Array.mem_of_getElem? hi2)
        · intro i row hrow
          cases i with
          | succ i => simp at hrow
          | zero =>
            simp at hrow
            subst hrow
            refine ⟨hlen, fun o x hx => ?_⟩
            have ho : o < 24 := by rw [← hlen]; exact (List.getElem?_eq_some_iff.1 hx).1
            rw [hpc]
            by_cases hlt : o < Lib.nDigits u
            · rw [if_pos (by rw [hF.size]; omega), hcell o ho]
              unfold bufR at hx
              rw [List.getElem?_append_left (by simp [Lib.decDigits_length]; exact hlt), List.getElem?_map] at hx
              have hod : o < (Lib.decDigits u).length := by rw [Lib.decDigits_length]; exact hlt
              rw [List.getElem?_eq_getElem hod] at hx
              cases hx
              refine ⟨_, rfl, ?_, rfl⟩
              rw [Lib.row_is_numeral hF o hod, show base + 0 * 24 + o - (base + 0 * 24 + 0) = o by omega]
            · rw [if_neg (by rw [hF.size]; omega), hcell o ho]
              unfold bufR at hx
              rw [List.getElem?_append_right (by simp [Lib.decDigits_length]; omega), List.getElem?_replicate] at hx
              split at hx
              · cases hx; exact ⟨_, rfl, rfl, rfl⟩
              · cases hx
    · omega

theorem f35 (u : Nat) (hu1 : 1 ≤ u) (hu64 : u < 18446744073709551616) : FunT TT Tryd.prog 35 [.s (.raw (.int .u64 (u : Int)))] (.s (.raw (.int .i64 (Lib.nDigits u : Int)))) := by
  refine ⟨by kernel_rfl, fun w vs ht ha => ?_⟩
  match vs, ha with
  | [v], ⟨h1, _⟩ =>
    obtain ⟨rfl, _⟩ := h1
    refine (Tryd.internal_strconv_numDigits u hu1 hu64 w ht).mono ?_
    rintro e w' ⟨rfl, rfl⟩
    exact ⟨_, rfl, ⟨rfl, rfl⟩, Below.refl _ _⟩
theorem f34 (u : Nat) (hu : u < 100) : Fun Tryd.prog 34 [.s (.raw (.int .i64 (u : Int)))] (.s (.raw (.string (decB u)))) := by
  refine ⟨by kernel_rfl, fun w vs ha => ?_⟩
  match vs, ha with
  | [v], ⟨h1, _⟩ =>
    obtain ⟨rfl, _⟩ := h1
    refine (Tryd.internal_strconv_small u hu w).mono ?_
    rintro e w' ⟨rfl, rfl⟩
    exact ⟨_, rfl, ⟨rfl, rfl⟩, Below.refl _ _⟩
end Go.Ev
