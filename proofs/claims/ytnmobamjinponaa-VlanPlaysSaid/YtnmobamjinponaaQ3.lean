/- A part of the proof: contracts of the functions that the statement reaches. -/
import Derived.Test.YtnmobamjinponaaEvC
import Derived.Test.YtnmobamjinponaaQ2
namespace Go.Ev
open Go.Proofs
set_option maxRecDepth 100000
set_option linter.unusedSimpArgs false
set_option linter.unusedVariables false
set_option maxHeartbeats 4000000
def ord2 (L : List Int) (a b : Nat) (s : Int) : Nat × Nat × Int := if gI L b < gI L a then (b, a, s + 1) else (a, b, s)
theorem ord2W (L : List Int) (a b : Nat) (s : Int) (ha : a < L.length) (hb : b < L.length) (s0 : 0 ≤ s) (s1 : s ≤ 100) : FunW Try.prog 138 [.rows false 1 (L.map w16)] [.rows true 1 [[.raw (.int .i64 s)]]] [.s (.slice 0 0 L.length), .s (.raw (.int .i64 (a : Int))), .s (.raw (.int .i64 (b : Int))), .s (.ptr 1 0 0)]
    fun r Hn => r = .t [.s (.raw (.int .i64 ((ord2 L a b s).1 : Int))), .s (.raw (.int .i64 ((ord2 L a b s).2.1 : Int)))] ∧ Hn = [.rows true 1 [[.raw (.int .i64 (ord2 L a b s).2.2)]]] := by
  refine funW_of fun X => ?_
  have hs1 : IntKind.i64.wrap (s + 1) = s + 1 := wr_i64 (by omega) (by omega)
  have e0 := gI_at ha
  have e1 := gI_at hb
  have z0 : (0 : Int) ≤ (a : Int) := by omega
  have z1 : (a : Int) < (L.length : Int) := by omega
  have z2 : (0 : Int) ≤ (b : Int) := by omega
  have z3 : (b : Int) < (L.length : Int) := by omega
  unfold ord2
  cases q : decide (gI L b < gI L a) with
  | true =>
    rw [if_pos (of_decide_eq_true q)]
    refine callK_inline (rs := [.tmp 8, .tmp 9]) (n := 28) Try.func138 rfl rfl rfl (by kernel_rfl) (by kernel_rfl) (by simp only [List.length_cons, List.length_nil]; decide) ?_
    repeat' first
      | with_reducible rfl
      | simp only [q, hs1, e0, e1, z0, z1, z2, z3, w16, Int.toNat_natCast, List.length_map, RS_, argsTM, stepE, stBuiltin, stBox, stAlloc, stLoad, stStore, stField, stExtract, stBin, stUn, stConv, stNilCheck, stFieldV, stIndex, stIndexAddr, stLen, stMin, stMax, stBuild, fillI, stBuildSlice, setRows, stMakeSlice, stAppend, srcR, segR, rdCells, stSlice, bnd, stArr, stCopy, stConv2, isIntV, cutR, byteRows, rowByte, binStr, Option.map_some, Option.map_none, eq_self, canTL, canT, canH, canL, patL, gcH, gcT, gcI, get_gcT, mapC, pullS, pullI, pushS, push1, pushI, pushC, pullHW, roC, ix, List.map_map, Function.comp_def, List.zip_cons_cons, List.zip_nil_left, List.zip_nil_right, List.range'_zero, List.range'_succ, rd, get, put, IV.cells, ofValue, seg, spl, ldIV, binInt, eqI, cellsEq, leafEq, resI, flat, isT, upd, up1, nextM, cR, ptrC, nAl, isAl, ST_, Nat.reduceAdd, Nat.reduceMul, Nat.reduceEqDiff, Nat.reduceLeDiff, ne_eq, reduceCtorEq, reduceIte, forall_const, implies_true, Int.reduceToNat, Int.reduceLE, Int.reduceLT, bne, Int.reduceEq, Int.reduceNe, Int.reduceNeg, Int.reduceAdd, Int.reduceSub, Int.reduceMul, Int.reduceBEq, Int.reduceBNe, Nat.reduceLT, Nat.reduceSub, WLS, ty_ag_27, ty_ag_3, ty_sl_120, ty_sz_27, ty_sz_3]
      | (with_reducible refine drawK_id ?_); refine drawK_auto hmix (by kernel_rfl) ?_
      | (with_reducible refine draw_fin ?_ ?_); · kernel_rfl
      | (with_reducible refine draw_id ?_); kernel_rfl
      | (with_reducible refine callD_id (f := 122) ?_); refine callD_of (lessW _ _) rfl rfl ?_
      | (refine ⟨_, _, (WkR.gc [0, 1] rfl (by decide)).to ?_ ?_, by simp, rfl, rfl⟩ <;> (first | (simp [gcI, pullI, pullS]; done) | (simp [gcH, rows_pull, pullS, ix, w16_pull]; done)))
      | (with_reducible refine And.intro ?_ ?_; · omega)
  | false =>
    rw [if_neg (of_decide_eq_false q)]
    refine callK_inline (rs := [.tmp 8, .tmp 9]) (n := 28) Try.func138 rfl rfl rfl (by kernel_rfl) (by kernel_rfl) (by simp only [List.length_cons, List.length_nil]; decide) ?_
    repeat' first
      | with_reducible rfl
      | simp only [q, hs1, e0, e1, z0, z1, z2, z3, w16, Int.toNat_natCast, List.length_map, RS_, argsTM, stepE, stBuiltin, stBox, stAlloc, stLoad, stStore, stField, stExtract, stBin, stUn, stConv, stNilCheck, stFieldV, stIndex, stIndexAddr, stLen, stMin, stMax, stBuild, fillI, stBuildSlice, setRows, stMakeSlice, stAppend, srcR, segR, rdCells, stSlice, bnd, stArr, stCopy, stConv2, isIntV, cutR, byteRows, rowByte, binStr, Option.map_some, Option.map_none, eq_self, canTL, canT, canH, canL, patL, gcH, gcT, gcI, get_gcT, mapC, pullS, pullI, pushS, push1, pushI, pushC, pullHW, roC, ix, List.map_map, Function.comp_def, List.zip_cons_cons, List.zip_nil_left, List.zip_nil_right, List.range'_zero, List.range'_succ, rd, get, put, IV.cells, ofValue, seg, spl, ldIV, binInt, eqI, cellsEq, leafEq, resI, flat, isT, upd, up1, nextM, cR, ptrC, nAl, isAl, ST_, Nat.reduceAdd, Nat.reduceMul, Nat.reduceEqDiff, Nat.reduceLeDiff, ne_eq, reduceCtorEq, reduceIte, forall_const, implies_true, Int.reduceToNat, Int.reduceLE, Int.reduceLT, bne, Int.reduceEq, Int.reduceNe, Int.reduceNeg, Int.reduceAdd, Int.reduceSub, Int.reduceMul, Int.reduceBEq, Int.reduceBNe, Nat.reduceLT, Nat.reduceSub, WLS, ty_ag_27, ty_ag_3, ty_sl_120, ty_sz_27, ty_sz_3]
      | (with_reducible refine drawK_id ?_); refine drawK_auto hmix (by kernel_rfl) ?_
      | (with_reducible refine draw_fin ?_ ?_); · kernel_rfl
      | (with_reducible refine draw_id ?_); kernel_rfl
      | (with_reducible refine callD_id (f := 122) ?_); refine callD_of (lessW _ _) rfl rfl ?_
      | (refine ⟨_, _, (WkR.gc [0, 1] rfl (by decide)).to ?_ ?_, by simp, rfl, rfl⟩ <;> (first | (simp [gcI, pullI, pullS]; done) | (simp [gcH, rows_pull, pullS, ix, w16_pull]; done)))
      | (with_reducible refine And.intro ?_ ?_; · omega)
theorem ord2_or (L : List Int) (a b : Nat) (s : Int) : (((ord2 L a b s).1 = a ∧ (ord2 L a b s).2.1 = b) ∨ ((ord2 L a b s).1 = b ∧ (ord2 L a b s).2.1 = a)) ∧ s ≤ (ord2 L a b s).2.2 ∧ (ord2 L a b s).2.2 ≤ s + 1 := by
  unfold ord2
  split <;> simp <;> omega
def med3 (L : List Int) (a b c : Nat) (s : Int) : Nat × Int :=
  let A := ord2 L a b s
  let B := ord2 L A.2.1 c A.2.2
  let C := ord2 L A.1 B.1 B.2.2
  (C.2.1, C.2.2)
theorem med3_or (L : List Int) (a b c : Nat) (s : Int) : ((med3 L a b c s).1 = a ∨ (med3 L a b c s).1 = b ∨ (med3 L a b c s).1 = c) ∧ s ≤ (med3 L a b c s).2 ∧ (med3 L a b c s).2 ≤ s + 3 := by
  unfold med3
  have h1 := ord2_or L a b s
  generalize ord2 L a b s = A at *
  have h2 := ord2_or L A.2.1 c A.2.2
  simp only
  generalize ord2 L A.2.1 c A.2.2 = B at *
  have h3 := ord2_or L A.1 B.1 B.2.2
  generalize ord2 L A.1 B.1 B.2.2 = C at *
  obtain ⟨h1, h1a, h1b⟩ := h1
  obtain ⟨h2, h2a, h2b⟩ := h2
  obtain ⟨h3, h3a, h3b⟩ := h3
  refine ⟨?_, by omega, by omega⟩
  omega
theorem med3W (L : List Int) (a b c : Nat) (s : Int) (ha : a < L.length) (hb : b < L.length) (hc : c < L.length) (s0 : 0 ≤ s) (s1 : s ≤ 50) : FunW Try.prog 135 [.rows false 1 (L.map w16)] [.rows true 1 [[.raw (.int .i64 s)]]] [.s (.slice 0 0 L.length), .s (.raw (.int .i64 (a : Int))), .s (.raw (.int .i64 (b : Int))), .s (.raw (.int .i64 (c : Int))), .s (.ptr 1 0 0)]
    fun r Hn => r = .s (.raw (.int .i64 ((med3 L a b c s).1 : Int))) ∧ Hn = [.rows true 1 [[.raw (.int .i64 (med3 L a b c s).2)]]] := by
  refine funW_of fun X => ?_
  unfold med3
  have c1 := ord2W L a b s ha hb s0 (by omega)
  have h1 := ord2_or L a b s
  generalize ord2 L a b s = A at *
  have c2 := ord2W L A.2.1 c A.2.2 (by omega) hc (by omega) (by omega)
  have h2 := ord2_or L A.2.1 c A.2.2
  simp only
  generalize ord2 L A.2.1 c A.2.2 = B at *
  have c3 := ord2W L A.1 B.1 B.2.2 (by omega) (by omega) (by omega) (by omega)
  generalize ord2 L A.1 B.1 B.2.2 = C at *
  obtain ⟨A1, A2, A3⟩ := A
  obtain ⟨B1, B2, B3⟩ := B
  obtain ⟨C1, C2, C3⟩ := C
  simp only at c1 c2 c3
  refine callK_inline (rs := [.tmp 10]) (n := 36) Try.func135 rfl rfl rfl (by kernel_rfl) (by kernel_rfl) (by simp only [List.length_cons, List.length_nil]; decide) ?_
  repeat' first
    | with_reducible rfl
    | simp only [Int.toNat_natCast, List.length_map, RS_, argsTM, stepE, stBuiltin, stBox, stAlloc, stLoad, stStore, stField, stExtract, stBin, stUn, stConv, stNilCheck, stFieldV, stIndex, stIndexAddr, stLen, stMin, stMax, stBuild, fillI, stBuildSlice, setRows, stMakeSlice, stAppend, srcR, segR, rdCells, stSlice, bnd, stArr, stCopy, stConv2, isIntV, cutR, byteRows, rowByte, binStr, Option.map_some, Option.map_none, eq_self, canTL, canT, canH, canL, patL, gcH, gcT, gcI, get_gcT, mapC, pullS, pullI, pushS, push1, pushI, pushC, pullHW, roC, ix, List.map_map, Function.comp_def, List.zip_cons_cons, List.zip_nil_left, List.zip_nil_right, List.range'_zero, List.range'_succ, rd, get, put, IV.cells, ofValue, seg, spl, ldIV, binInt, eqI, cellsEq, leafEq, resI, flat, isT, upd, up1, nextM, cR, ptrC, nAl, isAl, ST_, Nat.reduceAdd, Nat.reduceMul, Nat.reduceEqDiff, Nat.reduceLeDiff, ne_eq, reduceCtorEq, reduceIte, forall_const, implies_true, Int.reduceToNat, Int.reduceLE, Int.reduceLT, bne, Int.reduceEq, Int.reduceNe, Int.reduceNeg, Int.reduceAdd, Int.reduceSub, Int.reduceMul, Int.reduceBEq, Int.reduceBNe, Nat.reduceLT, Nat.reduceSub, WLS, ]
    | (with_reducible refine drawK_id ?_); refine drawK_auto hmix (by kernel_rfl) ?_
    | (with_reducible refine draw_fin ?_ ?_); · kernel_rfl
    | (with_reducible refine draw_id ?_); kernel_rfl
    | ((with_reducible refine callK_id (f := 138) (args := [_, .s (.raw (.int .i64 ((a : Nat) : Int))), .s (.raw (.int .i64 ((b : Nat) : Int))), _]) ?_); refine callK_funW [0] [1] (c1) (by simp [pullHW, roC, Function.comp_def, rows_pull, pullS, ix, w16_pull]) rfl rfl (by decide) (by simp) (by simp [pullI, pullS, ix]) ?_; rintro r Hn ⟨rfl, rfl⟩ -; skip)
    | ((with_reducible refine callK_id (f := 138) (args := [_, .s (.raw (.int .i64 ((A2 : Nat) : Int))), .s (.raw (.int .i64 ((c : Nat) : Int))), _]) ?_); refine callK_funW [0] [1] (c2) (by simp [pullHW, roC, Function.comp_def, rows_pull, pullS, ix, w16_pull]) rfl rfl (by decide) (by simp) (by simp [pullI, pullS, ix]) ?_; rintro r Hn ⟨rfl, rfl⟩ -; skip)
    | ((with_reducible refine callK_id (f := 138) (args := [_, .s (.raw (.int .i64 ((A1 : Nat) : Int))), .s (.raw (.int .i64 ((B1 : Nat) : Int))), _]) ?_); refine callK_funW [0] [1] (c3) (by simp [pullHW, roC, Function.comp_def, rows_pull, pullS, ix, w16_pull]) rfl rfl (by decide) (by simp) (by simp [pullI, pullS, ix]) ?_; rintro r Hn ⟨rfl, rfl⟩ -; skip)
    | (refine ⟨_, _, (WkR.gc [0, 1] rfl (by decide)).to ?_ ?_, by simp, rfl, rfl⟩ <;> (first | (simp [gcI, pullI, pullS]; done) | (simp [gcH, rows_pull, pullS, ix, w16_pull]; done)))
    | (with_reducible refine And.intro ?_ ?_; · omega)
end Go.Ev
