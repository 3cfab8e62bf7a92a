/- A part of the proof: contracts of the functions that the statement reaches. -/
import Derived.Test.YtnmobamjinponaaEvC
import Derived.Test.YtnmobamjinponaaQ6
namespace Go.Ev
open Go.Proofs
set_option maxRecDepth 100000
set_option linter.unusedSimpArgs false
set_option linter.unusedVariables false
set_option maxHeartbeats 4000000
theorem rwp1 (σ : List Nat) (sz : Nat) (els : List (List SV)) : pushC σ (.rows true sz els) = .rows true sz (els.map fun r => r.map (pushS σ)) := rfl
theorem gI_inj {K : List Int} (h : K.Nodup) {i j : Nat} (hi : i < K.length) (hj : j < K.length) (e : gI K i = gI K j) : i = j := by
  unfold gI at e
  rw [List.getD_eq_getElem?_getD, List.getD_eq_getElem?_getD, List.getElem?_eq_getElem hi, List.getElem?_eq_getElem hj] at e
  simp only [Option.getD_some] at e
  exact (List.getElem_inj h).1 e
theorem gI_mem {K : List Int} {i : Nat} (hi : i < K.length) : gI K i ∈ K := by
  unfold gI
  rw [List.getD_eq_getElem?_getD, List.getElem?_eq_getElem hi]
  exact List.getElem_mem hi
theorem mem_gI {K : List Int} {x : Int} (h : x ∈ K) : ∃ i, i < K.length ∧ gI K i = x := by
  obtain ⟨i, hi, rfl⟩ := List.getElem_of_mem h
  exact ⟨i, hi, by unfold gI; rw [List.getD_eq_getElem?_getD, List.getElem?_eq_getElem hi]; rfl⟩
theorem Same.back {a b : Nat} {K M : List Int} (h : Same a b K M) (hn : K.Nodup) (hb : b ≤ K.length) {q : Nat} (h1 : a ≤ q) (h2 : q < b) : ∃ q', a ≤ q' ∧ q' < b ∧ gI M q = gI K q' := by
  have hm : gI M q ∈ K := h.perm.mem_iff.1 (gI_mem (by rw [h.len]; omega))
  obtain ⟨i, hi, he⟩ := mem_gI hm
  by_cases ho : a ≤ i ∧ i < b
  · exact ⟨i, ho.1, ho.2, he.symm⟩
  · have e := h.out i (by omega)
    have := gI_inj (h.perm.nodup_iff.2 hn) (i := q) (j := i) (by rw [h.len]; omega) (by rw [h.len]; omega) (by rw [e, he])
    omega
/-- What lies outside a to b is in order, with all else. -/
def Outer (K : List Int) (a b n : Nat) : Prop := ∀ p q, p < q → q < n → (p < a ∨ b ≤ q) → gI K p ≤ gI K q
theorem Outer.keep {K M : List Int} {a b n : Nat} (h : Outer K a b n) (hs : Same a b K M) (hn : K.Nodup) (hl : n = K.length) (hb : b ≤ n) : Outer M a b n := by
  intro p q h1 h2 h3
  have P : ∃ p', (p' = p ∨ (a ≤ p ∧ p < b ∧ a ≤ p' ∧ p' < b)) ∧ gI M p = gI K p' := by
    by_cases hp : a ≤ p ∧ p < b
    · obtain ⟨p', e1, e2, e3⟩ := hs.back hn (by omega) hp.1 hp.2
      exact ⟨p', .inr ⟨hp.1, hp.2, e1, e2⟩, e3⟩
    · exact ⟨p, .inl rfl, hs.out p (by omega)⟩
  have Q : ∃ q', (q' = q ∨ (a ≤ q ∧ q < b ∧ a ≤ q' ∧ q' < b)) ∧ gI M q = gI K q' := by
    by_cases hq : a ≤ q ∧ q < b
    · obtain ⟨q', e1, e2, e3⟩ := hs.back hn (by omega) hq.1 hq.2
      exact ⟨q', .inr ⟨hq.1, hq.2, e1, e2⟩, e3⟩
    · exact ⟨q, .inl rfl, hs.out q (by omega)⟩
  obtain ⟨p', hp, ep⟩ := P
  obtain ⟨q', hq, eq⟩ := Q
  rw [ep, eq]
  exact h p' q' (by omega) (by omega) (by omega)
theorem Outer.asc {K : List Int} {a b n : Nat} (h : Outer K a b n) (hA : Asc K a b) : Asc K 0 n := fun p q _ h2 h3 => by
  by_cases ho : p < a ∨ b ≤ q
  · exact h p q h2 h3 ho
  · exact hA p q (by omega) h2 (by omega)
theorem Parted.keepL {M K : List Int} {a b m : Nat} (h : Parted M a b m) (hs : Same a m M K) (hn : M.Nodup) (hb : b ≤ M.length) : Parted K a b m := by
  obtain ⟨h1, h2, h3, h4⟩ := h
  have em := hs.out m (by omega)
  refine ⟨h1, h2, fun k k1 k2 => ?_, fun k k1 k2 => ?_⟩
  · obtain ⟨k', e1, e2, e3⟩ := hs.back hn (by omega) k1 k2
    rw [e3, em]; exact h3 k' e1 e2
  · rw [hs.out k (by omega), em]; exact h4 k k1 k2
theorem Parted.keepR {M K : List Int} {a b m : Nat} (h : Parted M a b m) (hs : Same (m + 1) b M K) (hn : M.Nodup) (hb : b ≤ M.length) : Parted K a b m := by
  obtain ⟨h1, h2, h3, h4⟩ := h
  have em := hs.out m (by omega)
  refine ⟨h1, h2, fun k k1 k2 => ?_, fun k k1 k2 => ?_⟩
  · rw [hs.out k (by omega), em]; exact h3 k k1 k2
  · obtain ⟨k', e1, e2, e3⟩ := hs.back hn hb (by omega : m + 1 ≤ k) k2
    rw [e3, em]; exact h4 k' (by omega) e2
theorem Outer.left {K : List Int} {a b m n : Nat} (h : Outer K a b n) (hp : Parted K a b m) (hA : Asc K a m) : Outer K (m + 1) b n := by
  obtain ⟨h1, h2, h3, h4⟩ := hp
  intro p q k1 k2 k3
  by_cases ho : p < a ∨ b ≤ q
  · exact h p q k1 k2 ho
  · by_cases e1 : p = m
    · subst e1; exact h4 q k1 (by omega)
    · have l1 := h3 p (by omega) (by omega)
      by_cases e2 : q < m
      · exact hA p q (by omega) k1 e2
      · by_cases e3 : q = m
        · subst e3; omega
        · have := h4 q (by omega) (by omega); omega
theorem Outer.right {K : List Int} {a b m n : Nat} (h : Outer K a b n) (hp : Parted K a b m) (hA : Asc K (m + 1) b) : Outer K a m n := by
  obtain ⟨h1, h2, h3, h4⟩ := hp
  intro p q k1 k2 k3
  by_cases ho : p < a ∨ b ≤ q
  · exact h p q k1 k2 ho
  · by_cases e1 : q = m
    · subst e1; have := h3 p (by omega) k1; omega
    · have l1 := h4 q (by omega) (by omega)
      by_cases e2 : m < p
      · exact hA p q (by omega) k1 (by omega)
      · by_cases e3 : p = m
        · subst e3; exact l1
        · have := h3 p (by omega) (by omega); omega
theorem pivC_in (L : List Int) (a b : Nat) (hab : a + 8 ≤ b) : a ≤ (pivC L a b).1 ∧ (pivC L a b).1 < b ∧ ((pivC L a b).2 = 1 ∨ (pivC L a b).2 = 0) := by
  unfold pivC
  obtain ⟨q, hq⟩ : ∃ q, (b - a) / 4 = q := ⟨_, rfl⟩
  have hq2 : 4 * q ≤ b - a ∧ 2 ≤ q := by omega
  rw [hq]
  have ho := med3_or L (a + q) (a + 2 * q) (a + 3 * q) 0
  simp only
  refine ⟨by omega, by omega, ?_⟩
  split <;> simp
/-- Short ranges are sorted by insertion. -/
theorem pdqS (L : List Int) (a b : Nat) (lim : Int) (hab : a ≤ b) (h12 : b ≤ a + 12) (hb : b ≤ L.length) (hn : L.length ≤ 1000000) : FunW Try.prog 95 [] [.rows true 1 (L.map w16)] [.s (.slice 0 0 L.length), .s (.raw (.int .i64 (a : Int))), .s (.raw (.int .i64 (b : Int))), .s (.raw (.int .i64 lim))]
    fun r Hn => r = .t [] ∧ ∃ M, Same a b L M ∧ Asc M a b ∧ Hn = [.rows true 1 (M.map w16)] := by
  refine funW_of fun X => ?_
  have n0 : IntKind.i64.wrap ((b : Int) - (a : Int)) = ((b - a : Nat) : Int) := by rw [wr_i64 (by omega) (by omega)]; omega
  have q1 : decide (((b - a : Nat) : Int) ≤ 12) = true := decide_eq_true (by omega)
  have ci := insW L a b hab hb hn
  refine callK_inline (rs := []) (n := 134) Try.func95 rfl rfl rfl (by kernel_rfl) (by kernel_rfl) (by simp only [List.length_cons, List.length_nil]; decide) ?_
  repeat' first
    | with_reducible rfl
    | simp only [e_loopN, n0, q1, rwp1, w16_push, Int.toNat_natCast, List.length_map, RS_, argsTM, stepE, stBuiltin, stBox, stAlloc, stLoad, stStore, stField, stExtract, stBin, stUn, stConv, stNilCheck, stFieldV, stIndex, stIndexAddr, stLen, stMin, stMax, stBuild, fillI, stBuildSlice, setRows, stMakeSlice, stAppend, srcR, segR, rdCells, stSlice, bnd, stArr, stCopy, stConv2, isIntV, cutR, byteRows, rowByte, binStr, Option.map_some, Option.map_none, eq_self, canTL, canT, canH, canL, patL, gcH, gcT, gcI, get_gcT, mapC, pullS, pullI, pushS, push1, pushI, pushC, pullHW, roC, ix, List.map_map, Function.comp_def, List.zip_cons_cons, List.zip_nil_left, List.zip_nil_right, List.range'_zero, List.range'_succ, rd, get, put, IV.cells, ofValue, seg, spl, ldIV, binInt, eqI, cellsEq, leafEq, resI, flat, isT, upd, up1, nextM, cR, ptrC, nAl, isAl, ST_, Nat.reduceAdd, Nat.reduceMul, Nat.reduceEqDiff, Nat.reduceLeDiff, ne_eq, reduceCtorEq, reduceIte, forall_const, implies_true, Int.reduceToNat, Int.reduceLE, Int.reduceLT, bne, Int.reduceEq, Int.reduceNe, Int.reduceNeg, Int.reduceAdd, Int.reduceSub, Int.reduceMul, Int.reduceBEq, Int.reduceBNe, Nat.reduceLT, Nat.reduceSub, WLS, ty_ag_27, ty_sl_120, ty_sz_27]
    | (with_reducible refine drawK_id ?_); refine drawK_auto hmix (by kernel_rfl) ?_
    | (with_reducible refine draw_fin ?_ ?_); · kernel_rfl
    | (with_reducible refine draw_id ?_); kernel_rfl
    | (with_reducible refine loopK_id ?_); refine loopK_n 1 (by kernel_rfl) ?_
    | ((with_reducible refine callK_id (f := 116) ?_); refine callK_funW [] [0] (ci) (by simp [pullHW, roC, Function.comp_def, rows_pull, pullS, ix, w16_pull]) rfl rfl (by decide) (by simp) (by simp [pullI, pullS, ix]) ?_; rintro r Hn ⟨rfl, M9, hM9, hA9, rfl⟩ -; skip)
    | (refine ⟨_, _, (WkR.gc [0] rfl (by decide)).to ?_ ?_, by simp, rfl, M9, hM9, hA9, rfl⟩ <;> (first | (simp [gcI, pullI, pullS]; done) | (simp [Function.comp_def, get_gcT, get, put, gcI, pullI, pullS, gcH, patL, canL, canH, canTL, canT, rows_pull, ix, w16_pull, rwp1, w16_push]; done)))
    | (with_reducible refine And.intro ?_ ?_; · omega)
end Go.Ev
