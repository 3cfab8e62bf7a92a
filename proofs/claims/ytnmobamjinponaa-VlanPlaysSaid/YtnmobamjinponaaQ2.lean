/- A part of the proof: contracts of the functions that the statement reaches. -/
import Derived.Test.YtnmobamjinponaaEvC
import Derived.Test.YtnmobamjinponaaQ1
namespace Go.Ev
open Go.Proofs
set_option maxRecDepth 100000
set_option linter.unusedSimpArgs false
set_option linter.unusedVariables false
set_option maxHeartbeats 4000000
/-- In order from a to i, but for what stands at j; that is at most what stands behind it. -/
def SP (K : List Int) (a i j : Nat) : Prop := ∀ p q, a ≤ p → p < q → q ≤ i → (p ≠ j → q ≠ j → gI K p ≤ gI K q) ∧ (p = j → gI K p ≤ gI K q)
theorem SP.start {K : List Int} {a i : Nat} (h : Asc K a i) : SP K a i i := fun p q h1 h2 h3 => ⟨fun _ hq => h p q h1 h2 (by omega), fun e => by omega⟩
theorem SP.done {K : List Int} {a i j : Nat} (h : SP K a i j) (hj : a ≤ j ∧ j ≤ i) (hx : j = a ∨ ¬ gI K j < gI K (j - 1)) : Asc K a (i + 1) := by
  intro p q h1 h2 h3
  by_cases e1 : p = j
  · exact (h p q h1 h2 (by omega)).2 e1
  by_cases e2 : q = j
  · subst e2
    rcases hx with hx | hx
    · omega
    · by_cases e3 : p = q - 1
      · subst e3; omega
      · have := (h p (q - 1) h1 (by omega) (by omega)).1 e1 (by omega)
        omega
  · exact (h p q h1 h2 (by omega)).1 e1 e2
theorem SP.step {K : List Int} {a i j : Nat} (h : SP K a i j) (hj : a < j ∧ j ≤ i) (hi : i < K.length) (hx : gI K j < gI K (j - 1)) : SP (swp K j (j - 1)) a i (j - 1) := by
  have hv := fun k => swp_at (L := K) (i := j) (j := j - 1) (by omega) (by omega) k
  intro p q h1 h2 h3
  constructor
  · intro e1 e2
    rw [hv p, hv q, if_neg e1, if_neg e2]
    by_cases e3 : p = j
    · rw [if_pos e3, if_neg (by omega)]
      exact (h (j - 1) q (by omega) (by omega) h3).1 (by omega) (by omega)
    · rw [if_neg e3]
      by_cases e4 : q = j
      · rw [if_pos e4]
        exact (h p (j - 1) h1 (by omega) (by omega)).1 e3 (by omega)
      · rw [if_neg e4]
        exact (h p q h1 h2 h3).1 e3 e4
  · intro e1
    rw [hv p, hv q, if_pos e1]
    by_cases e4 : q = j
    · rw [if_neg (by omega), if_pos e4]; omega
    · rw [if_neg (by omega), if_neg e4]
      exact (h j q (by omega) (by omega) h3).2 rfl
def IIo (L : List Int) (a b : Nat) (mm : Nat) (tm : TM) (H : Heap) : Prop := ∃ (i : Nat) (M : List Int), mm = b + 1 - i ∧ a + 1 ≤ i ∧ i ≤ b + 1 ∧ (i ≤ b ∨ i = a + 1) ∧ Same a b L M ∧ Asc M a i ∧ get tm 0 = .s (.slice 0 0 L.length) ∧ get tm 1 = .s (.raw (.int .i64 (a : Int))) ∧ get tm 2 = .s (.raw (.int .i64 (b : Int))) ∧ get tm 6 = .s (.raw (.int .i64 (i : Int))) ∧ H = [.rows true 1 (M.map w16)]
def IIi (L : List Int) (a b i : Nat) (mm : Nat) (tm : TM) (H : Heap) : Prop := ∃ (j : Nat) (K : List Int), j = mm ∧ a ≤ j ∧ j ≤ i ∧ Same a b L K ∧ SP K a i j ∧ get tm 0 = .s (.slice 0 0 L.length) ∧ get tm 1 = .s (.raw (.int .i64 (a : Int))) ∧ get tm 2 = .s (.raw (.int .i64 (b : Int))) ∧ get tm 6 = .s (.raw (.int .i64 (i : Int))) ∧ get tm 7 = .s (.raw (.int .i64 (j : Int))) ∧ H = [.rows true 1 (K.map w16)]
theorem insW (L : List Int) (a b : Nat) (hab : a ≤ b) (hb : b ≤ L.length) (hn : L.length ≤ 1000000) : FunW Try.prog 116 [] [.rows true 1 (L.map w16)] [.s (.slice 0 0 L.length), .s (.raw (.int .i64 (a : Int))), .s (.raw (.int .i64 (b : Int)))] fun r Hn => r = .t [] ∧ ∃ M, Same a b L M ∧ Asc M a b ∧ Hn = [.rows true 1 (M.map w16)] := by
  refine funW_of fun X => ?_
  have ha1 : IntKind.i64.wrap ((a : Int) + 1) = ((a + 1 : Nat) : Int) := by rw [wr_i64 (by omega) (by omega)]; rfl
  refine callK_inline (rs := []) (n := 49) Try.func116 rfl rfl rfl (by kernel_rfl) (by kernel_rfl) (by simp only [List.length_cons, List.length_nil]; decide) ?_
  repeat' first
    | with_reducible rfl
    | simp only [ha1, RS_, argsTM, stepE, stBuiltin, stBox, stAlloc, stLoad, stStore, stField, stExtract, stBin, stUn, stConv, stNilCheck, stFieldV, stIndex, stIndexAddr, stLen, stMin, stMax, stBuild, fillI, stBuildSlice, setRows, stMakeSlice, stAppend, srcR, segR, rdCells, stSlice, bnd, stArr, stCopy, stConv2, isIntV, cutR, byteRows, rowByte, binStr, Option.map_some, Option.map_none, eq_self, canTL, canT, canH, canL, patL, gcH, gcT, gcI, get_gcT, mapC, pullS, pullI, pushS, push1, pushI, pushC, pullHW, roC, ix, List.map_map, Function.comp_def, List.zip_cons_cons, List.zip_nil_left, List.zip_nil_right, List.range'_zero, List.range'_succ, rd, get, put, IV.cells, ofValue, seg, spl, ldIV, binInt, eqI, cellsEq, leafEq, resI, flat, isT, upd, up1, nextM, cR, ptrC, nAl, isAl, ST_, Nat.reduceAdd, Nat.reduceMul, Nat.reduceEqDiff, Nat.reduceLeDiff, ne_eq, reduceCtorEq, reduceIte, forall_const, implies_true, Int.reduceToNat, Int.reduceLE, Int.reduceLT, bne, Int.reduceEq, Int.reduceNe, Int.reduceNeg, Int.reduceAdd, Int.reduceSub, Int.reduceMul, Int.reduceBEq, Int.reduceBNe, Nat.reduceLT, Nat.reduceSub, WLS, ty_ag_27, ty_sl_120, ty_sz_27]
    | (with_reducible refine drawK_id ?_); refine drawK_auto hmix (by kernel_rfl) ?_
    | (with_reducible refine draw_fin ?_ ?_); · kernel_rfl
    | (with_reducible refine draw_id ?_); kernel_rfl
    | (with_reducible refine And.intro ?_ ?_; · omega)
  refine loopK_wk (by kernel_rfl) (IIo L a b) (b - a) ⟨_, _, Wk.gc [0] rfl (by decide), a + 1, L, by omega, by omega, by omega, by omega, Same.refl a b L, fun p q h1 h2 h3 => by omega, ?_, ?_, ?_, ?_, ?_⟩ ?_
  · simp [Function.comp_def, get_gcT, get, put, gcI, pullI, pullS, gcH, patL, canL, canH, canTL, canT, rows_pull, ix]
  · simp [Function.comp_def, get_gcT, get, put, gcI, pullI, pullS, gcH, patL, canL, canH, canTL, canT, rows_pull, ix]
  · simp [Function.comp_def, get_gcT, get, put, gcI, pullI, pullS, gcH, patL, canL, canH, canTL, canT, rows_pull, ix]
  · simp [Function.comp_def, get_gcT, get, put, gcI, pullI, pullS, gcH, patL, canL, canH, canTL, canT, rows_pull, ix]
  · simp [Function.comp_def, get_gcT, get, put, gcI, pullI, pullS, gcH, patL, canL, canH, canTL, canT, rows_pull, ix, w16_pull]
  rintro mm tm H ⟨i, M, rfl, h1, h2, h3, hM, hA, g0, g1, g2, g6, rfl⟩
  by_cases hq : i < b
  · have q1 : decide ((i : Int) < (b : Int)) = true := decide_eq_true (by omega)
    have hi1 : IntKind.i64.wrap ((i : Int) + 1) = ((i + 1 : Nat) : Int) := by rw [wr_i64 (by omega) (by omega)]; rfl
    repeat' first
      | with_reducible rfl
      | simp only [q1, g0, g1, g2, g6, Int.toNat_natCast, List.length_map, RS_, argsTM, stepE, stBuiltin, stBox, stAlloc, stLoad, stStore, stField, stExtract, stBin, stUn, stConv, stNilCheck, stFieldV, stIndex, stIndexAddr, stLen, stMin, stMax, stBuild, fillI, stBuildSlice, setRows, stMakeSlice, stAppend, srcR, segR, rdCells, stSlice, bnd, stArr, stCopy, stConv2, isIntV, cutR, byteRows, rowByte, binStr, Option.map_some, Option.map_none, eq_self, canTL, canT, canH, canL, patL, gcH, gcT, gcI, get_gcT, mapC, pullS, pullI, pushS, push1, pushI, pushC, pullHW, roC, ix, List.map_map, Function.comp_def, List.zip_cons_cons, List.zip_nil_left, List.zip_nil_right, List.range'_zero, List.range'_succ, rd, get, put, IV.cells, ofValue, seg, spl, ldIV, binInt, eqI, cellsEq, leafEq, resI, flat, isT, upd, up1, nextM, cR, ptrC, nAl, isAl, ST_, Nat.reduceAdd, Nat.reduceMul, Nat.reduceEqDiff, Nat.reduceLeDiff, ne_eq, reduceCtorEq, reduceIte, forall_const, implies_true, Int.reduceToNat, Int.reduceLE, Int.reduceLT, bne, Int.reduceEq, Int.reduceNe, Int.reduceNeg, Int.reduceAdd, Int.reduceSub, Int.reduceMul, Int.reduceBEq, Int.reduceBNe, Nat.reduceLT, Nat.reduceSub, WLS, ty_ag_27, ty_sl_120, ty_sz_27]
      | (with_reducible refine drawK_id ?_); refine drawK_auto hmix (by kernel_rfl) ?_
      | (with_reducible refine draw_fin ?_ ?_); · kernel_rfl
      | (with_reducible refine draw_id ?_); kernel_rfl
      | (with_reducible refine And.intro ?_ ?_; · omega)
    refine loopK_wk (by kernel_rfl) (IIi L a b i) i ⟨_, _, Wk.refl, i, M, rfl, by omega, by omega, hM, SP.start hA, ?_, ?_, ?_, ?_, ?_, rfl⟩ ?_
    · simp [get, g0, g1, g2, g6]
    · simp [get, g0, g1, g2, g6]
    · simp [get, g0, g1, g2, g6]
    · simp [get, g0, g1, g2, g6]
    · simp [get, g0, g1, g2, g6]
    clear g0 g1 g2 g6
    rintro mm tm H ⟨j, K, rfl, j1, j2, hK, hS, g0, g1, g2, g6, g7, rfl⟩
    have hKl := hK.len
    by_cases hja : a < j
    · have q3 : decide ((a : Int) < (j : Int)) = true := decide_eq_true (by omega)
      have hj1 : IntKind.i64.wrap ((j : Int) - 1) = ((j - 1 : Nat) : Int) := by rw [wr_i64 (by omega) (by omega)]; omega
      have z0 : (0 : Int) ≤ (j : Int) := by omega
      have z1 : (j : Int) < (L.length : Int) := by omega
      have z2 : (0 : Int) ≤ ((j - 1 : Nat) : Int) := by omega
      have z3 : ((j - 1 : Nat) : Int) < (L.length : Int) := by omega
      have e0 := gI_at (L := K) (i := j) (by omega)
      have e1 := gI_at (L := K) (i := j - 1) (by omega)
      cases q4 : decide (gI K j < gI K (j - 1)) with
      | true =>
        have hlt := of_decide_eq_true q4
        have e2 : ((K.map w16).set j [.raw (.int .u16 (gI K (j - 1)))])[j - 1]? = some (w16 (gI K (j - 1))) := by rw [List.getElem?_set_ne (by omega)]; exact e1
        repeat' first
          | with_reducible rfl
          | simp only [q3, q4, z0, z1, z2, z3, hj1, e0, e1, e2, w16, g0, g1, g2, g6, g7, Int.toNat_natCast, List.length_map, RS_, argsTM, stepE, stBuiltin, stBox, stAlloc, stLoad, stStore, stField, stExtract, stBin, stUn, stConv, stNilCheck, stFieldV, stIndex, stIndexAddr, stLen, stMin, stMax, stBuild, fillI, stBuildSlice, setRows, stMakeSlice, stAppend, srcR, segR, rdCells, stSlice, bnd, stArr, stCopy, stConv2, isIntV, cutR, byteRows, rowByte, binStr, Option.map_some, Option.map_none, eq_self, canTL, canT, canH, canL, patL, gcH, gcT, gcI, get_gcT, mapC, pullS, pullI, pushS, push1, pushI, pushC, pullHW, roC, ix, List.map_map, Function.comp_def, List.zip_cons_cons, List.zip_nil_left, List.zip_nil_right, List.range'_zero, List.range'_succ, rd, get, put, IV.cells, ofValue, seg, spl, ldIV, binInt, eqI, cellsEq, leafEq, resI, flat, isT, upd, up1, nextM, cR, ptrC, nAl, isAl, ST_, Nat.reduceAdd, Nat.reduceMul, Nat.reduceEqDiff, Nat.reduceLeDiff, ne_eq, reduceCtorEq, reduceIte, forall_const, implies_true, Int.reduceToNat, Int.reduceLE, Int.reduceLT, bne, Int.reduceEq, Int.reduceNe, Int.reduceNeg, Int.reduceAdd, Int.reduceSub, Int.reduceMul, Int.reduceBEq, Int.reduceBNe, Nat.reduceLT, Nat.reduceSub, WLS, ty_ag_27, ty_sl_120, ty_sz_27]
          | (with_reducible refine drawK_id ?_); refine drawK_auto hmix (by kernel_rfl) ?_
          | (with_reducible refine draw_fin ?_ ?_); · kernel_rfl
          | (with_reducible refine draw_id ?_); kernel_rfl
          | (with_reducible refine callD_id (f := 122) ?_); refine callD_of (lessW _ _) rfl rfl ?_
          | (with_reducible refine And.intro ?_ ?_; · omega)
        refine ⟨j - 1, _, _, by omega, Wk.gc [0] rfl (by decide), j - 1, swp K j (j - 1), rfl, by omega, by omega, hK.swp (by omega) (by omega) (by omega) (by omega), hS.step (by omega) (by omega) hlt, ?_, ?_, ?_, ?_, ?_, ?_⟩
        · simp [Function.comp_def, get_gcT, get, put, gcI, pullI, pullS, gcH, patL, canL, canH, canTL, canT, rows_pull, ix, g0, g1, g2, g6, g7]
        · simp [Function.comp_def, get_gcT, get, put, gcI, pullI, pullS, gcH, patL, canL, canH, canTL, canT, rows_pull, ix, g0, g1, g2, g6, g7]
        · simp [Function.comp_def, get_gcT, get, put, gcI, pullI, pullS, gcH, patL, canL, canH, canTL, canT, rows_pull, ix, g0, g1, g2, g6, g7]
        · simp [Function.comp_def, get_gcT, get, put, gcI, pullI, pullS, gcH, patL, canL, canH, canTL, canT, rows_pull, ix, g0, g1, g2, g6, g7]
        · simp [Function.comp_def, get_gcT, get, put, gcI, pullI, pullS, gcH, patL, canL, canH, canTL, canT, rows_pull, ix, g0, g1, g2, g6, g7]
        · simp [Function.comp_def, get_gcT, get, put, gcI, pullI, pullS, gcH, patL, canL, canH, canTL, canT, rows_pull, ix, w16_pull, swp, List.map_set, w16]; rfl
      | false =>
        have hA2 := hS.done (by omega) (.inr (of_decide_eq_false q4))
        repeat' first
          | with_reducible rfl
          | simp only [q3, q4, z0, z1, z2, z3, hj1, e0, e1, w16, hi1, g0, g1, g2, g6, g7, Int.toNat_natCast, List.length_map, RS_, argsTM, stepE, stBuiltin, stBox, stAlloc, stLoad, stStore, stField, stExtract, stBin, stUn, stConv, stNilCheck, stFieldV, stIndex, stIndexAddr, stLen, stMin, stMax, stBuild, fillI, stBuildSlice, setRows, stMakeSlice, stAppend, srcR, segR, rdCells, stSlice, bnd, stArr, stCopy, stConv2, isIntV, cutR, byteRows, rowByte, binStr, Option.map_some, Option.map_none, eq_self, canTL, canT, canH, canL, patL, gcH, gcT, gcI, get_gcT, mapC, pullS, pullI, pushS, push1, pushI, pushC, pullHW, roC, ix, List.map_map, Function.comp_def, List.zip_cons_cons, List.zip_nil_left, List.zip_nil_right, List.range'_zero, List.range'_succ, rd, get, put, IV.cells, ofValue, seg, spl, ldIV, binInt, eqI, cellsEq, leafEq, resI, flat, isT, upd, up1, nextM, cR, ptrC, nAl, isAl, ST_, Nat.reduceAdd, Nat.reduceMul, Nat.reduceEqDiff, Nat.reduceLeDiff, ne_eq, reduceCtorEq, reduceIte, forall_const, implies_true, Int.reduceToNat, Int.reduceLE, Int.reduceLT, bne, Int.reduceEq, Int.reduceNe, Int.reduceNeg, Int.reduceAdd, Int.reduceSub, Int.reduceMul, Int.reduceBEq, Int.reduceBNe, Nat.reduceLT, Nat.reduceSub, WLS, ty_ag_27, ty_sl_120, ty_sz_27]
          | (with_reducible refine drawK_id ?_); refine drawK_auto hmix (by kernel_rfl) ?_
          | (with_reducible refine draw_fin ?_ ?_); · kernel_rfl
          | (with_reducible refine draw_id ?_); kernel_rfl
          | (with_reducible refine callD_id (f := 122) ?_); refine callD_of (lessW _ _) rfl rfl ?_
          | (with_reducible refine And.intro ?_ ?_; · omega)
        refine ⟨b + 1 - (i + 1), _, _, by omega, Wk.gc [0] rfl (by decide), i + 1, K, rfl, by omega, by omega, by omega, hK, hA2, ?_, ?_, ?_, ?_, ?_⟩
        · simp [Function.comp_def, get_gcT, get, put, gcI, pullI, pullS, gcH, patL, canL, canH, canTL, canT, rows_pull, ix, g0, g1, g2, g6, g7]
        · simp [Function.comp_def, get_gcT, get, put, gcI, pullI, pullS, gcH, patL, canL, canH, canTL, canT, rows_pull, ix, g0, g1, g2, g6, g7]
        · simp [Function.comp_def, get_gcT, get, put, gcI, pullI, pullS, gcH, patL, canL, canH, canTL, canT, rows_pull, ix, g0, g1, g2, g6, g7]
        · simp [Function.comp_def, get_gcT, get, put, gcI, pullI, pullS, gcH, patL, canL, canH, canTL, canT, rows_pull, ix, g0, g1, g2, g6, g7]
        · simp [Function.comp_def, get_gcT, get, put, gcI, pullI, pullS, gcH, patL, canL, canH, canTL, canT, rows_pull, ix, w16_pull]
    · have q3 : decide ((a : Int) < (j : Int)) = false := decide_eq_false (by omega)
      have hA2 := hS.done (by omega) (.inl (by omega))
      repeat' first
        | with_reducible rfl
        | simp only [q3, hi1, g0, g1, g2, g6, g7, Int.toNat_natCast, List.length_map, RS_, argsTM, stepE, stBuiltin, stBox, stAlloc, stLoad, stStore, stField, stExtract, stBin, stUn, stConv, stNilCheck, stFieldV, stIndex, stIndexAddr, stLen, stMin, stMax, stBuild, fillI, stBuildSlice, setRows, stMakeSlice, stAppend, srcR, segR, rdCells, stSlice, bnd, stArr, stCopy, stConv2, isIntV, cutR, byteRows, rowByte, binStr, Option.map_some, Option.map_none, eq_self, canTL, canT, canH, canL, patL, gcH, gcT, gcI, get_gcT, mapC, pullS, pullI, pushS, push1, pushI, pushC, pullHW, roC, ix, List.map_map, Function.comp_def, List.zip_cons_cons, List.zip_nil_left, List.zip_nil_right, List.range'_zero, List.range'_succ, rd, get, put, IV.cells, ofValue, seg, spl, ldIV, binInt, eqI, cellsEq, leafEq, resI, flat, isT, upd, up1, nextM, cR, ptrC, nAl, isAl, ST_, Nat.reduceAdd, Nat.reduceMul, Nat.reduceEqDiff, Nat.reduceLeDiff, ne_eq, reduceCtorEq, reduceIte, forall_const, implies_true, Int.reduceToNat, Int.reduceLE, Int.reduceLT, bne, Int.reduceEq, Int.reduceNe, Int.reduceNeg, Int.reduceAdd, Int.reduceSub, Int.reduceMul, Int.reduceBEq, Int.reduceBNe, Nat.reduceLT, Nat.reduceSub, WLS, ty_ag_27, ty_sl_120, ty_sz_27]
        | (with_reducible refine drawK_id ?_); refine drawK_auto hmix (by kernel_rfl) ?_
        | (with_reducible refine draw_fin ?_ ?_); · kernel_rfl
        | (with_reducible refine draw_id ?_); kernel_rfl
        | (with_reducible refine And.intro ?_ ?_; · omega)
      refine ⟨b + 1 - (i + 1), _, _, by omega, Wk.gc [0] rfl (by decide), i + 1, K, rfl, by omega, by omega, by omega, hK, hA2, ?_, ?_, ?_, ?_, ?_⟩
      · simp [Function.comp_def, get_gcT, get, put, gcI, pullI, pullS, gcH, patL, canL, canH, canTL, canT, rows_pull, ix, g0, g1, g2, g6, g7]
      · simp [Function.comp_def, get_gcT, get, put, gcI, pullI, pullS, gcH, patL, canL, canH, canTL, canT, rows_pull, ix, g0, g1, g2, g6, g7]
      · simp [Function.comp_def, get_gcT, get, put, gcI, pullI, pullS, gcH, patL, canL, canH, canTL, canT, rows_pull, ix, g0, g1, g2, g6, g7]
      · simp [Function.comp_def, get_gcT, get, put, gcI, pullI, pullS, gcH, patL, canL, canH, canTL, canT, rows_pull, ix, g0, g1, g2, g6, g7]
      · simp [Function.comp_def, get_gcT, get, put, gcI, pullI, pullS, gcH, patL, canL, canH, canTL, canT, rows_pull, ix, w16_pull]
  · have q1 : decide ((i : Int) < (b : Int)) = false := decide_eq_false (by omega)
    repeat' first
      | with_reducible rfl
      | simp only [q1, g0, g1, g2, g6, Int.toNat_natCast, List.length_map, RS_, argsTM, stepE, stBuiltin, stBox, stAlloc, stLoad, stStore, stField, stExtract, stBin, stUn, stConv, stNilCheck, stFieldV, stIndex, stIndexAddr, stLen, stMin, stMax, stBuild, fillI, stBuildSlice, setRows, stMakeSlice, stAppend, srcR, segR, rdCells, stSlice, bnd, stArr, stCopy, stConv2, isIntV, cutR, byteRows, rowByte, binStr, Option.map_some, Option.map_none, eq_self, canTL, canT, canH, canL, patL, gcH, gcT, gcI, get_gcT, mapC, pullS, pullI, pushS, push1, pushI, pushC, pullHW, roC, ix, List.map_map, Function.comp_def, List.zip_cons_cons, List.zip_nil_left, List.zip_nil_right, List.range'_zero, List.range'_succ, rd, get, put, IV.cells, ofValue, seg, spl, ldIV, binInt, eqI, cellsEq, leafEq, resI, flat, isT, upd, up1, nextM, cR, ptrC, nAl, isAl, ST_, Nat.reduceAdd, Nat.reduceMul, Nat.reduceEqDiff, Nat.reduceLeDiff, ne_eq, reduceCtorEq, reduceIte, forall_const, implies_true, Int.reduceToNat, Int.reduceLE, Int.reduceLT, bne, Int.reduceEq, Int.reduceNe, Int.reduceNeg, Int.reduceAdd, Int.reduceSub, Int.reduceMul, Int.reduceBEq, Int.reduceBNe, Nat.reduceLT, Nat.reduceSub, WLS, ty_ag_27, ty_sl_120, ty_sz_27]
      | (with_reducible refine drawK_id ?_); refine drawK_auto hmix (by kernel_rfl) ?_
      | (with_reducible refine draw_fin ?_ ?_); · kernel_rfl
      | (with_reducible refine draw_id ?_); kernel_rfl
      | (with_reducible refine And.intro ?_ ?_; · omega)
    exact ⟨_, _, WkR.refl, by simp, rfl, M, hM, fun p q h1 h2 h3 => hA p q h1 h2 (by omega), rfl⟩
end Go.Ev
