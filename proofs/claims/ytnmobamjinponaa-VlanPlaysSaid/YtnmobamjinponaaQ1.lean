/- A part of the proof: contracts of the functions that the statement reaches. -/
import Derived.Test.YtnmobamjinponaaEvC
import Derived.Test.YtnmobamjinponaaV1e
namespace Go.Ev
open Go.Proofs
set_option maxRecDepth 100000
set_option linter.unusedSimpArgs false
set_option linter.unusedVariables false
set_option maxHeartbeats 4000000
def w16 (x : Int) : List SV := [.raw (.int .u16 x)]
theorem w16_pull (σ : List Nat) (x : Int) : (w16 x).map (pullS σ) = w16 x := rfl
theorem w16_push (σ : List Nat) (x : Int) : (w16 x).map (pushS σ) = w16 x := rfl
/-- The i-th number. -/
def gI (L : List Int) (i : Nat) : Int := L.getD i 0
theorem gI_at {L : List Int} {i : Nat} (h : i < L.length) : (L.map w16)[i]? = some (w16 (gI L i)) := by
  simp [gI, h]
theorem gI_set {L : List Int} {i : Nat} (v : Int) (h : i < L.length) (k : Nat) : gI (L.set i v) k = if k = i then v else gI L k := by
  unfold gI
  by_cases e : k = i
  · subst e; simp [h]
  · rw [if_neg e]; simp [List.getElem?_set, Ne.symm e]
def swp (L : List Int) (i j : Nat) : List Int := (L.set i (gI L j)).set j (gI L i)
theorem swp_at {L : List Int} {i j : Nat} (hi : i < L.length) (hj : j < L.length) (k : Nat) : gI (swp L i j) k = if k = j then gI L i else if k = i then gI L j else gI L k := by
  unfold swp
  rw [gI_set _ (by simpa using hj), gI_set _ hi]
theorem swp_perm {L : List Int} {i j : Nat} (hi : i < L.length) (hj : j < L.length) : (swp L i j).Perm L := by
  have h := Array.swap_perm (xs := L.toArray) (i := i) (j := j) (by simpa using hi) (by simpa using hj)
  have e : (L.toArray.swap i j (by simpa using hi) (by simpa using hj)).toList = swp L i j := by
    simp [Array.swap, swp, gI, hi, hj]
  have := h.toList
  rw [e] at this
  simpa using this
/-- The same numbers, and the same ones outside a to b. -/
structure Same (a b : Nat) (L M : List Int) : Prop where
  perm : M.Perm L
  out : ∀ k, k < a ∨ b ≤ k → gI M k = gI L k
theorem Same.len {a b : Nat} {L M : List Int} (h : Same a b L M) : M.length = L.length := h.perm.length_eq
theorem Same.refl (a b : Nat) (L : List Int) : Same a b L L := ⟨List.Perm.refl _, fun _ _ => rfl⟩
theorem Same.trans {a b : Nat} {L M K : List Int} (h : Same a b L M) (k : Same a b M K) : Same a b L K := ⟨k.perm.trans h.perm, fun i hi => (k.out i hi).trans (h.out i hi)⟩
theorem Same.swp {a b i j : Nat} {L M : List Int} (h : Same a b L M) (hi : i < M.length) (hj : j < M.length) (h1 : a ≤ i ∧ i < b) (h2 : a ≤ j ∧ j < b) : Same a b L (swp M i j) :=
  ⟨(swp_perm hi hj).trans h.perm, fun k hk => by rw [swp_at hi hj, if_neg (by omega), if_neg (by omega)]; exact h.out k hk⟩
theorem Same.wide {a b c d : Nat} {L M : List Int} (h : Same a b L M) (h1 : c ≤ a) (h2 : b ≤ d) : Same c d L M := ⟨h.perm, fun k hk => h.out k (by omega)⟩
/-- In order from a on, below b. -/
def Asc (L : List Int) (a b : Nat) : Prop := ∀ p q, a ≤ p → p < q → q < b → gI L p ≤ gI L q
theorem lessW (x y : Int) : Fun Try.prog 122 [.s (.raw (.int .u16 x)), .s (.raw (.int .u16 y))] (.s (.raw (.bool (decide (x < y))))) := by
  refine fun_of rfl fun X => ?_
  refine callK_inline (rs := [.tmp 4]) (n := 17) Try.func122 rfl rfl rfl (by kernel_rfl) (by kernel_rfl) (by simp only [List.length_cons, List.length_nil]; decide) ?_
  repeat' first
    | with_reducible rfl
    | simp only [bne, RS_, argsTM, stepE, stBuiltin, stBox, stAlloc, stLoad, stStore, stField, stExtract, stBin, stUn, stConv, stNilCheck, stFieldV, stIndex, stIndexAddr, stLen, stMin, stMax, stBuild, fillI, stBuildSlice, setRows, stMakeSlice, stAppend, srcR, segR, rdCells, stSlice, bnd, stArr, stCopy, stConv2, isIntV, cutR, byteRows, rowByte, binStr, Option.map_some, Option.map_none, eq_self, canTL, canT, canH, canL, patL, gcH, gcT, gcI, get_gcT, mapC, pullS, pullI, pushS, push1, pushI, pushC, pullHW, roC, ix, List.map_map, Function.comp_def, List.zip_cons_cons, List.zip_nil_left, List.zip_nil_right, List.range'_zero, List.range'_succ, rd, get, put, IV.cells, ofValue, seg, spl, ldIV, binInt, eqI, cellsEq, leafEq, resI, flat, isT, upd, up1, nextM, cR, ptrC, nAl, isAl, ST_, Nat.reduceAdd, Nat.reduceMul, Nat.reduceEqDiff, Nat.reduceLeDiff, ne_eq, reduceCtorEq, reduceIte, forall_const, implies_true, Int.reduceToNat, Int.reduceLE, Int.reduceLT, bne, Int.reduceEq, Int.reduceNe, Int.reduceNeg, Int.reduceAdd, Int.reduceSub, Int.reduceMul, Int.reduceBEq, Int.reduceBNe, Nat.reduceLT, Nat.reduceSub, WLS, ]
    | with_reducible refine gdb_split (fun h => ?_) (fun h => ?_)
    | (with_reducible refine drawK_id ?_); refine drawK_auto hmix (by kernel_rfl) ?_
    | (with_reducible refine draw_fin ?_ ?_); · kernel_rfl
    | (with_reducible refine draw_id ?_); kernel_rfl
    | (with_reducible refine callK_id (f := 85) ?_); refine callK_inline (rs := [.tmp 2]) (n := 6) Try.func85 rfl rfl rfl (by kernel_rfl) (by kernel_rfl) (by simp only [List.length_cons, List.length_nil]; decide) ?_
    | (with_reducible refine And.intro ?_ ?_; · omega)
end Go.Ev
