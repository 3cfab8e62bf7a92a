/- A part of the proof: contracts of the functions that the statement reaches. -/
import Derived.Test.YtpjgbfddlagcaaaDoorEvC
import Derived.Test.YtpjgbfddlagcaaaDoorS1
namespace Go.Ev
open Go.Proofs
set_option maxRecDepth 100000
set_option linter.unusedSimpArgs false
set_option linter.unusedVariables false
set_option maxHeartbeats 4000000
open Srt Go.RowKit Go.Sort
def setS (clock : Nat) (L : List SEN) (k : KEY) (q : Int) : Int × Nat × List SEN :=
  if goodS k q = 0 then if (lookS L k).isSome = false ∧ 16 ≤ L.length then (13, clock, L) else (0, putS clock L k q) else (goodS k q, clock, L)
theorem f26 (clock : Nat) (L : List SEN) (hn : NDkS L) (e : SEN) : FunW Tryd.prog 26 [] [tabC, mpS clock L] [.s (.ptr 0 0 0), .a (eS e)] fun r Hn => r = .s (.raw (.int .i64 (setS clock L e.k e.q).1)) ∧ Hn = [tabC, mpS (setS clock L e.k e.q).2.1 (setS clock L e.k e.q).2.2] := by
  refine funW_of fun X => ?_
  have c53 := f53 e
  refine callK_inline (rs := [.tmp 4]) (n := 43) Tryd.func26 rfl rfl rfl (by kernel_rfl) (by kernel_rfl) (by simp only [List.length_cons, List.length_nil]; decide) ?_
  by_cases hg : goodS e.k e.q = 0
  · rw [hg] at c53
    rcases lookS_cases L hn e.k with ⟨h1, h0⟩ | ⟨l1, x, l2, rfl, hk, h1, h0⟩
    · by_cases hl : 16 ≤ L.length
      · have hs : setS clock L e.k e.q = (13, clock, L) := by simp [setS, hg, h1, hl]
        have hl2 : decide ((16 : Int) ≤ (L.length : Int)) = true := decide_eq_true (by omega)
        rw [hs]
        unfold tabC mpS
        repeat' first
          | with_reducible rfl
          | simp only [eS_take, eS_7, List.length_map, List.map_append, kC_push, kC_pull, sE_k, sE_v, sE_fold, kC_len, eS_len, eS_pull, eS_push, hl2, RS_, argsTM, stepE, stBuiltin, stBox, stAlloc, stLoad, stStore, stField, stExtract, stBin, stUn, stConv, stNilCheck, stFieldV, stIndex, stIndexAddr, stLen, stMin, stMax, stBuild, fillI, stBuildSlice, setRows, stMakeSlice, stAppend, srcR, segR, rdCells, stSlice, bnd, stArr, stCopy, stConv2, isIntV, cutR, byteRows, rowByte, binStr, Option.map_some, Option.map_none, eq_self, canTL, canT, canH, canL, patL, gcH, gcT, gcI, get_gcT, mapC, pullS, pullI, pushS, push1, pushI, pushC, pullHW, roC, ix, List.map_map, Function.comp_def, List.zip_cons_cons, List.zip_nil_left, List.zip_nil_right, List.range'_zero, List.range'_succ, rd, get, put, IV.cells, ofValue, seg, spl, ldIV, binInt, eqI, cellsEq, leafEq, resI, flat, isT, upd, up1, nextM, cR, ptrC, nAl, isAl, ST_, Nat.reduceAdd, Nat.reduceMul, Nat.reduceEqDiff, Nat.reduceLeDiff, ne_eq, reduceCtorEq, reduceIte, forall_const, implies_true, Int.reduceToNat, Int.reduceLE, Int.reduceLT, bne, Int.reduceEq, Int.reduceNe, Int.reduceNeg, Int.reduceAdd, Int.reduceSub, Int.reduceMul, Int.reduceBEq, Int.reduceBNe, Nat.reduceLT, Nat.reduceSub, WLS, Tryd.underlying122, Tryd.underlying32, ty_ag_122, ty_ag_70, ty_ag_63, ty_ag_95, ty_of_124_0, ty_of_95_0, ty_of_95_1, ty_sz_122, ty_sz_70, ty_sz_63, ty_sz_95]
          | (with_reducible refine drawK_id ?_); refine drawK_auto hmix (by kernel_rfl) ?_
          | (with_reducible refine draw_fin ?_ ?_); · kernel_rfl
          | (with_reducible refine draw_id ?_); kernel_rfl
          | ((with_reducible refine callK_id (f := 43) ?_); refine callK_fun c53 rfl rfl ?_)
          | ((with_reducible refine genD_id ?_); refine lookupD_miss (z := .int .u32 0) (zi := .s (.raw (.int .u32 0))) ty_mpS ty_lk rfl rfl (sh_k _) rfl rfl (shpS L) (noKS _ L h0) zv35 (fun ρ => ⟨rfl, rfl⟩) ?_)
          | ((with_reducible refine genK_id ?_); refine len_map ty_mpS rfl rfl ?_)
          | exact ⟨_, _, WkR.gc [0, 1] rfl (by decide), by simp [gcH], by simp [gcI, pullI, pullS], by (simp [gcH, Function.comp_def, rows_pull, pullS, ix, mapC, pullI, kC_pull, sE_k, sE_v, sE_fold]; try rfl)⟩
          | (with_reducible refine And.intro ?_ ?_; · omega)
      · have hs : setS clock L e.k e.q = (0, clock + 1, L ++ [⟨e.k, e.q, clock⟩]) := by simp [setS, hg, h1, hl, putS_miss clock L e.k e.q h1]
        have hl2 : decide ((16 : Int) ≤ (L.length : Int)) = false := decide_eq_false (by omega)
        rw [hs]
        unfold tabC mpS
        repeat' first
          | with_reducible rfl
          | simp only [eS_take, eS_7, List.length_map, List.map_append, kC_push, kC_pull, sE_k, sE_v, sE_fold, kC_len, eS_len, eS_pull, eS_push, hl2, RS_, argsTM, stepE, stBuiltin, stBox, stAlloc, stLoad, stStore, stField, stExtract, stBin, stUn, stConv, stNilCheck, stFieldV, stIndex, stIndexAddr, stLen, stMin, stMax, stBuild, fillI, stBuildSlice, setRows, stMakeSlice, stAppend, srcR, segR, rdCells, stSlice, bnd, stArr, stCopy, stConv2, isIntV, cutR, byteRows, rowByte, binStr, Option.map_some, Option.map_none, eq_self, canTL, canT, canH, canL, patL, gcH, gcT, gcI, get_gcT, mapC, pullS, pullI, pushS, push1, pushI, pushC, pullHW, roC, ix, List.map_map, Function.comp_def, List.zip_cons_cons, List.zip_nil_left, List.zip_nil_right, List.range'_zero, List.range'_succ, rd, get, put, IV.cells, ofValue, seg, spl, ldIV, binInt, eqI, cellsEq, leafEq, resI, flat, isT, upd, up1, nextM, cR, ptrC, nAl, isAl, ST_, Nat.reduceAdd, Nat.reduceMul, Nat.reduceEqDiff, Nat.reduceLeDiff, ne_eq, reduceCtorEq, reduceIte, forall_const, implies_true, Int.reduceToNat, Int.reduceLE, Int.reduceLT, bne, Int.reduceEq, Int.reduceNe, Int.reduceNeg, Int.reduceAdd, Int.reduceSub, Int.reduceMul, Int.reduceBEq, Int.reduceBNe, Nat.reduceLT, Nat.reduceSub, WLS, Tryd.underlying122, Tryd.underlying32, ty_ag_122, ty_ag_70, ty_ag_63, ty_ag_95, ty_of_124_0, ty_of_95_0, ty_of_95_1, ty_sz_122, ty_sz_70, ty_sz_63, ty_sz_95]
          | (with_reducible refine drawK_id ?_); refine drawK_auto hmix (by kernel_rfl) ?_
          | (with_reducible refine draw_fin ?_ ?_); · kernel_rfl
          | (with_reducible refine draw_id ?_); kernel_rfl
          | ((with_reducible refine callK_id (f := 43) ?_); refine callK_fun c53 rfl rfl ?_)
          | ((with_reducible refine genD_id ?_); refine lookupD_miss (z := .int .u32 0) (zi := .s (.raw (.int .u32 0))) ty_mpS ty_lk rfl rfl (sh_k _) rfl rfl (shpS L) (noKS _ L h0) zv35 (fun ρ => ⟨rfl, rfl⟩) ?_)
          | ((with_reducible refine genK_id ?_); refine len_map ty_mpS rfl rfl ?_)
          | ((with_reducible refine genD_id ?_); refine updD_new ty_mpS ty_lk rfl rfl (sh_k _) rfl rfl (fun _ h => by cases h) rfl (shpS L) (noKS _ L h0) ?_)
          | exact ⟨_, _, WkR.gc [0, 1] rfl (by decide), by simp [gcH], by simp [gcI, pullI, pullS], by (simp [gcH, Function.comp_def, rows_pull, pullS, ix, mapC, pullI, kC_pull, sE_k, sE_v, sE_fold]; try rfl)⟩
          | (with_reducible refine And.intro ?_ ?_; · omega)
    · have h1' : lookS (l1 ++ x :: l2) x.k = some x := by rw [hk]; exact h1
      have h0' : ∀ y ∈ l1 ++ l2, y.k ≠ x.k := fun y hy => by rw [hk]; exact h0 y hy
      have hs : setS clock (l1 ++ x :: l2) e.k e.q = (0, clock, l1 ++ ⟨x.k, e.q, x.s⟩ :: l2) := by
        have := putS_hit clock l1 x l2 e.q h1' h0'
        rw [hk] at this
        simp [setS, hg, h1, this, hk]
      rw [hs]
      have hsh := shpS (l1 ++ x :: l2)
      have h2 := noKS e.k _ h0
      have hh : cellsEq lsK (IV.a (kC e.k)).cells (sE x).1.cells = some true := by rw [← hk]; exact hitK x.k
      rw [List.map_append, List.map_cons] at hsh
      rw [List.map_append] at h2
      unfold tabC mpS
      simp only [List.map_append, List.map_cons]
      repeat' first
        | with_reducible rfl
        | simp only [eS_take, eS_7, List.length_map, List.map_append, kC_push, kC_pull, sE_k, sE_v, sE_fold, kC_len, eS_len, eS_pull, eS_push, sE_v, RS_, argsTM, stepE, stBuiltin, stBox, stAlloc, stLoad, stStore, stField, stExtract, stBin, stUn, stConv, stNilCheck, stFieldV, stIndex, stIndexAddr, stLen, stMin, stMax, stBuild, fillI, stBuildSlice, setRows, stMakeSlice, stAppend, srcR, segR, rdCells, stSlice, bnd, stArr, stCopy, stConv2, isIntV, cutR, byteRows, rowByte, binStr, Option.map_some, Option.map_none, eq_self, canTL, canT, canH, canL, patL, gcH, gcT, gcI, get_gcT, mapC, pullS, pullI, pushS, push1, pushI, pushC, pullHW, roC, ix, List.map_map, Function.comp_def, List.zip_cons_cons, List.zip_nil_left, List.zip_nil_right, List.range'_zero, List.range'_succ, rd, get, put, IV.cells, ofValue, seg, spl, ldIV, binInt, eqI, cellsEq, leafEq, resI, flat, isT, upd, up1, nextM, cR, ptrC, nAl, isAl, ST_, Nat.reduceAdd, Nat.reduceMul, Nat.reduceEqDiff, Nat.reduceLeDiff, ne_eq, reduceCtorEq, reduceIte, forall_const, implies_true, Int.reduceToNat, Int.reduceLE, Int.reduceLT, bne, Int.reduceEq, Int.reduceNe, Int.reduceNeg, Int.reduceAdd, Int.reduceSub, Int.reduceMul, Int.reduceBEq, Int.reduceBNe, Nat.reduceLT, Nat.reduceSub, WLS, Tryd.underlying122, Tryd.underlying32, ty_ag_122, ty_ag_70, ty_ag_63, ty_ag_95, ty_of_124_0, ty_of_95_0, ty_of_95_1, ty_sz_122, ty_sz_70, ty_sz_63, ty_sz_95]
        | (with_reducible refine drawK_id ?_); refine drawK_auto hmix (by kernel_rfl) ?_
        | (with_reducible refine draw_fin ?_ ?_); · kernel_rfl
        | (with_reducible refine draw_id ?_); kernel_rfl
        | ((with_reducible refine callK_id (f := 43) ?_); refine callK_fun c53 rfl rfl ?_)
        | ((with_reducible refine genD_id ?_); refine lookupD_miss (z := .int .u32 0) (zi := .s (.raw (.int .u32 0))) ty_mpS ty_lk rfl rfl (sh_k _) rfl rfl (shpS L) (noKS _ L h0) zv35 (fun ρ => ⟨rfl, rfl⟩) ?_)
        | ((with_reducible refine genK_id ?_); refine len_map ty_mpS rfl rfl ?_)
        | ((with_reducible refine genD_id ?_); refine lookupD_hit ty_mpS ty_lk rfl rfl (sh_k _) rfl hsh hh h2 ?_)
        | ((with_reducible refine genD_id ?_); refine updD_old ty_mpS ty_lk rfl rfl (sh_k _) rfl (fun _ h => by cases h) rfl hsh hh h2 ?_)
        | exact ⟨_, _, WkR.gc [0, 1] rfl (by decide), by simp [gcH], by simp [gcI, pullI, pullS], by (simp [gcH, Function.comp_def, rows_pull, pullS, ix, mapC, pullI, kC_pull, sE_k, sE_v, sE_fold]; try rfl)⟩
        | (with_reducible refine And.intro ?_ ?_; · omega)
  · have hg2 : (goodS e.k e.q == 0) = false := by simpa using hg
    have hs : setS clock L e.k e.q = (goodS e.k e.q, clock, L) := by simp [setS, hg]
    rw [hs]
    unfold tabC mpS
    repeat' first
      | with_reducible rfl
      | simp only [eS_take, eS_7, List.length_map, List.map_append, kC_push, kC_pull, sE_k, sE_v, sE_fold, kC_len, eS_len, eS_pull, eS_push, hg2, RS_, argsTM, stepE, stBuiltin, stBox, stAlloc, stLoad, stStore, stField, stExtract, stBin, stUn, stConv, stNilCheck, stFieldV, stIndex, stIndexAddr, stLen, stMin, stMax, stBuild, fillI, stBuildSlice, setRows, stMakeSlice, stAppend, srcR, segR, rdCells, stSlice, bnd, stArr, stCopy, stConv2, isIntV, cutR, byteRows, rowByte, binStr, Option.map_some, Option.map_none, eq_self, canTL, canT, canH, canL, patL, gcH, gcT, gcI, get_gcT, mapC, pullS, pullI, pushS, push1, pushI, pushC, pullHW, roC, ix, List.map_map, Function.comp_def, List.zip_cons_cons, List.zip_nil_left, List.zip_nil_right, List.range'_zero, List.range'_succ, rd, get, put, IV.cells, ofValue, seg, spl, ldIV, binInt, eqI, cellsEq, leafEq, resI, flat, isT, upd, up1, nextM, cR, ptrC, nAl, isAl, ST_, Nat.reduceAdd, Nat.reduceMul, Nat.reduceEqDiff, Nat.reduceLeDiff, ne_eq, reduceCtorEq, reduceIte, forall_const, implies_true, Int.reduceToNat, Int.reduceLE, Int.reduceLT, bne, Int.reduceEq, Int.reduceNe, Int.reduceNeg, Int.reduceAdd, Int.reduceSub, Int.reduceMul, Int.reduceBEq, Int.reduceBNe, Nat.reduceLT, Nat.reduceSub, WLS, Tryd.underlying122, Tryd.underlying32, ty_ag_122, ty_ag_70, ty_ag_63, ty_ag_95, ty_of_124_0, ty_of_95_0, ty_of_95_1, ty_sz_122, ty_sz_70, ty_sz_63, ty_sz_95]
      | (with_reducible refine drawK_id ?_); refine drawK_auto hmix (by kernel_rfl) ?_
      | (with_reducible refine draw_fin ?_ ?_); · kernel_rfl
      | (with_reducible refine draw_id ?_); kernel_rfl
      | ((with_reducible refine callK_id (f := 43) ?_); refine callK_fun c53 rfl rfl ?_)
      | ((with_reducible refine genD_id ?_); refine lookupD_miss (z := .int .u32 0) (zi := .s (.raw (.int .u32 0))) ty_mpS ty_lk rfl rfl (sh_k _) rfl rfl (shpS L) (noKS _ L h0) zv35 (fun ρ => ⟨rfl, rfl⟩) ?_)
      | ((with_reducible refine genK_id ?_); refine len_map ty_mpS rfl rfl ?_)
      | exact ⟨_, _, WkR.gc [0, 1] rfl (by decide), by simp [gcH], by simp [gcI, pullI, pullS], by (simp [gcH, Function.comp_def, rows_pull, pullS, ix, mapC, pullI, kC_pull, sE_k, sE_v, sE_fold]; try rfl)⟩
      | (with_reducible refine And.intro ?_ ?_; · omega)
end Go.Ev
