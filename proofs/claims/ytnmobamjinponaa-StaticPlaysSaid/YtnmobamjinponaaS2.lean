/- A part of the proof: contracts of the functions that the statement reaches. -/
import Derived.Test.YtnmobamjinponaaS1
import Derived.Test.YtnmobamjinponaaJtE
namespace Go.Ev
open Go.Proofs
set_option maxRecDepth 100000
set_option linter.unusedSimpArgs false
set_option linter.unusedVariables false
set_option maxHeartbeats 4000000
open Srt Go.RowKit Go.Sort
def setS (clock : Nat) (L : List SEN) (k : KEY) (q : Int) : Int × Nat × List SEN :=
  if goodS k q = 0 then if (lookS L k).isSome = false ∧ 16 ≤ L.length then (13, clock, L) else (0, putS clock L k q) else (goodS k q, clock, L)
theorem f26 (clock : Nat) (L : List SEN) (hn : NDkS L) (e : SEN) : FunW Try.prog 26 [] [tabC, mpS clock L] [.s (.ptr 0 0 0), .a (eS e)] fun r Hn => r = .s (.raw (.int .i64 (setS clock L e.k e.q).1)) ∧ Hn = [tabC, mpS (setS clock L e.k e.q).2.1 (setS clock L e.k e.q).2.2] := by
  refine funW_of fun X => ?_
  have c53 := f53 e
  refine callK_inline (rs := [.tmp 4]) (n := 43) Try.func26 rfl rfl rfl (by kernel_rfl) (by kernel_rfl) (by simp only [List.length_cons, List.length_nil]; decide) ?_
  by_cases hg : goodS e.k e.q = 0
  · rw [hg] at c53
    rcases lookS_cases L hn e.k with ⟨h1, h0⟩ | ⟨l1, x, l2, rfl, hk, h1, h0⟩
    · by_cases hl : 16 ≤ L.length
      · have hs : setS clock L e.k e.q = (13, clock, L) := by simp [setS, hg, h1, hl]
        have hl2 : decide ((16 : Int) ≤ (L.length : Int)) = true := decide_eq_true (by omega)
        rw [hs]
        unfold tabC mpS
        repeat' first
          | with_reducible rfl
          | simp only [eS_take, eS_7, List.length_map, List.map_append, kC_push, kC_pull, sE_k, sE_v, sE_fold, kC_len, eS_len, eS_pull, eS_push, hl2, e_nil, e_cons, e_gd, e_gdt, e_gdf, e_g0, e_g1, e_op, e_step, e_stepG, e_stepN, e_clo, e_cloF, e_ret, e_put, e_junk, e_skip, e_reg, e_draw, e_seq, e_cond, e_block, e_exit, e_r, e_label, e_loop, q_sn, q_sr, q_se, q_bn, q_br, q_be, q_rr, q_rn, e_res0, e_res1, e_res2, e_b, d_nil, d_cons, d_op, d_step, d_stepG, d_stepN, d_clo, d_cloF, d_ret, d_put, d_junk, d_inf, d_fin, g_not, g_and, argsTM, stepE, stBuiltin, stBox, stAlloc, stLoad, stStore, stField, stExtract, stBin, stUn, stConv, stNilCheck, stFieldV, stIndex, stIndexAddr, stLen, stMin, stMax, stBuild, fillI, stBuildSlice, setRows, stMakeSlice, stAppend, srcR, segR, rdCells, stSlice, bnd, stArr, stCopy, stConv2, isIntV, cutR, byteRows, rowByte, binStr, Option.map_some, Option.map_none, eq_self, canTL, canT, canH, canL, patL, gcH, gcT, gcI, get_gcT, mapC, pullS, pullI, pushS, push1, pushI, pushC, pullHW, roC, ix, List.map_map, Function.comp_def, List.zip_cons_cons, List.zip_nil_left, List.zip_nil_right, List.range'_zero, List.range'_succ, rd, get, put, IV.cells, ofValue, seg, spl, ldIV, binInt, eqI, cellsEq, leafEq, resI, flat, isT, upd, up1, nextM, cR, ptrC, nAl, isAl, List.length_cons, List.length_nil, List.length_append, List.length_replicate, List.length_set, Nat.reduceAdd, Nat.reduceMul, Nat.reduceEqDiff, Nat.reduceLeDiff, Nat.zero_add, Nat.add_zero, ne_eq, reduceCtorEq, not_false_eq_true, not_true_eq_false, reduceIte, true_and, and_true, and_false, false_and, and_self, List.nil_append, List.cons_append, List.append_nil, List.getElem?_cons_zero, List.getElem?_cons_succ, List.drop_succ_cons, List.drop_zero, List.take_succ_cons, List.take_zero, List.set_cons_zero, List.set_cons_succ, List.getElem?_toArray, Option.bind_some, Bool.false_eq_true, Nat.add_one_ne_zero, Nat.succ_ne_self, List.map_cons, List.map_nil, Bool.not_true, Bool.not_false, List.replicate_succ, List.replicate_zero, List.mem_cons, List.not_mem_nil, or_false, false_or, or_true, true_or, forall_const, false_implies, implies_true, true_implies, Int.reduceToNat, Int.reduceLE, Int.reduceLT, Int.cast_ofNat_Int, bne, Int.reduceEq, Int.reduceNe, Int.reduceNeg, Int.reduceAdd, Int.reduceSub, Int.reduceMul, beq_self_eq_true, Int.reduceBEq, Int.reduceBNe, Bool.true_and, Bool.false_and, Bool.and_true, Bool.and_false, Bool.true_or, Bool.false_or, Bool.or_true, Bool.or_false, Nat.reduceLT, Nat.reduceSub, Nat.zero_min, Nat.min_zero, Nat.min_self, List.flatMap_cons, List.flatMap_nil, Int.toNat_natCast, strEq_self, Bool.not_eq_true', decide_true, decide_false, WLS, Try.underlying127, Try.underlying51, ty_ag_127, ty_ag_35, ty_ag_59, ty_ag_70, ty_of_129_0, ty_of_70_0, ty_of_70_1, ty_sz_127, ty_sz_35, ty_sz_59, ty_sz_70]
          | (with_reducible refine drawK_id ?_); refine drawK_auto hmix (by kernel_rfl) ?_
          | (with_reducible refine draw_fin ?_ ?_); · kernel_rfl
          | (with_reducible refine draw_id ?_); kernel_rfl
          | ((with_reducible refine callK_id (f := 53) ?_); refine callK_fun c53 rfl rfl ?_)
          | ((with_reducible refine genD_id ?_); refine lookupD_miss (z := .int .u32 0) (zi := .s (.raw (.int .u32 0))) ty_mpS ty_lk rfl rfl (sh_k _) rfl rfl (shpS L) (noKS _ L h0) zv35 (fun ρ => ⟨rfl, rfl⟩) ?_)
          | ((with_reducible refine genK_id ?_); refine len_map ty_mpS rfl rfl ?_)
          | exact ⟨_, _, WkR.gc [0, 1] rfl (by decide), by simp [gcH], by simp [gcI, pullI, pullS], by (simp [gcH, Function.comp_def, rows_pull, pullS, ix, mapC, pullI, kC_pull, sE_k, sE_v, sE_fold]; try rfl)⟩
          | (with_reducible refine And.intro ?_ ?_; · omega)
      · have hs : setS clock L e.k e.q = (0, clock + 1, L ++ [⟨e.k, e.q, clock⟩]) := by simp [setS, hg, h1, hl, putS_miss clock L e.k e.q h1]
        have hl2 : decide ((16 : Int) ≤ (L.length : Int)) = false := decide_eq_false (by omega)
        rw [hs]
        unfold tabC mpS
        repeat' first
          | with_reducible rfl
          | simp only [eS_take, eS_7, List.length_map, List.map_append, kC_push, kC_pull, sE_k, sE_v, sE_fold, kC_len, eS_len, eS_pull, eS_push, hl2, e_nil, e_cons, e_gd, e_gdt, e_gdf, e_g0, e_g1, e_op, e_step, e_stepG, e_stepN, e_clo, e_cloF, e_ret, e_put, e_junk, e_skip, e_reg, e_draw, e_seq, e_cond, e_block, e_exit, e_r, e_label, e_loop, q_sn, q_sr, q_se, q_bn, q_br, q_be, q_rr, q_rn, e_res0, e_res1, e_res2, e_b, d_nil, d_cons, d_op, d_step, d_stepG, d_stepN, d_clo, d_cloF, d_ret, d_put, d_junk, d_inf, d_fin, g_not, g_and, argsTM, stepE, stBuiltin, stBox, stAlloc, stLoad, stStore, stField, stExtract, stBin, stUn, stConv, stNilCheck, stFieldV, stIndex, stIndexAddr, stLen, stMin, stMax, stBuild, fillI, stBuildSlice, setRows, stMakeSlice, stAppend, srcR, segR, rdCells, stSlice, bnd, stArr, stCopy, stConv2, isIntV, cutR, byteRows, rowByte, binStr, Option.map_some, Option.map_none, eq_self, canTL, canT, canH, canL, patL, gcH, gcT, gcI, get_gcT, mapC, pullS, pullI, pushS, push1, pushI, pushC, pullHW, roC, ix, List.map_map, Function.comp_def, List.zip_cons_cons, List.zip_nil_left, List.zip_nil_right, List.range'_zero, List.range'_succ, rd, get, put, IV.cells, ofValue, seg, spl, ldIV, binInt, eqI, cellsEq, leafEq, resI, flat, isT, upd, up1, nextM, cR, ptrC, nAl, isAl, List.length_cons, List.length_nil, List.length_append, List.length_replicate, List.length_set, Nat.reduceAdd, Nat.reduceMul, Nat.reduceEqDiff, Nat.reduceLeDiff, Nat.zero_add, Nat.add_zero, ne_eq, reduceCtorEq, not_false_eq_true, not_true_eq_false, reduceIte, true_and, and_true, and_false, false_and, and_self, List.nil_append, List.cons_append, List.append_nil, List.getElem?_cons_zero, List.getElem?_cons_succ, List.drop_succ_cons, List.drop_zero, List.take_succ_cons, List.take_zero, List.set_cons_zero, List.set_cons_succ, List.getElem?_toArray, Option.bind_some, Bool.false_eq_true, Nat.add_one_ne_zero, Nat.succ_ne_self, List.map_cons, List.map_nil, Bool.not_true, Bool.not_false, List.replicate_succ, List.replicate_zero, List.mem_cons, List.not_mem_nil, or_false, false_or, or_true, true_or, forall_const, false_implies, implies_true, true_implies, Int.reduceToNat, Int.reduceLE, Int.reduceLT, Int.cast_ofNat_Int, bne, Int.reduceEq, Int.reduceNe, Int.reduceNeg, Int.reduceAdd, Int.reduceSub, Int.reduceMul, beq_self_eq_true, Int.reduceBEq, Int.reduceBNe, Bool.true_and, Bool.false_and, Bool.and_true, Bool.and_false, Bool.true_or, Bool.false_or, Bool.or_true, Bool.or_false, Nat.reduceLT, Nat.reduceSub, Nat.zero_min, Nat.min_zero, Nat.min_self, List.flatMap_cons, List.flatMap_nil, Int.toNat_natCast, strEq_self, Bool.not_eq_true', decide_true, decide_false, WLS, Try.underlying127, Try.underlying51, ty_ag_127, ty_ag_35, ty_ag_59, ty_ag_70, ty_of_129_0, ty_of_70_0, ty_of_70_1, ty_sz_127, ty_sz_35, ty_sz_59, ty_sz_70]
          | (with_reducible refine drawK_id ?_); refine drawK_auto hmix (by kernel_rfl) ?_
          | (with_reducible refine draw_fin ?_ ?_); · kernel_rfl
          | (with_reducible refine draw_id ?_); kernel_rfl
          | ((with_reducible refine callK_id (f := 53) ?_); refine callK_fun c53 rfl rfl ?_)
          | ((with_reducible refine genD_id ?_); refine lookupD_miss (z := .int .u32 0) (zi := .s (.raw (.int .u32 0))) ty_mpS ty_lk rfl rfl (sh_k _) rfl rfl (shpS L) (noKS _ L h0) zv35 (fun ρ => ⟨rfl, rfl⟩) ?_)
          | ((with_reducible refine genK_id ?_); refine len_map ty_mpS rfl rfl ?_)
          | ((with_reducible refine genD_id ?_); refine updD_new ty_mpS ty_lk rfl rfl (sh_k _) rfl rfl (fun _ h => by cases h) rfl (shpS L) (noKS _ L h0) ?_)
          | exact ⟨_, _, WkR.gc [0, 1] rfl (by decide), by simp [gcH], by simp [gcI, pullI, pullS], by (simp [gcH, Function.comp_def, rows_pull, pullS, ix, mapC, pullI, kC_pull, sE_k, sE_v, sE_fold]; try rfl)⟩
          | (with_reducible refine And.intro ?_ ?_; · omega)
    · have h1' : lookS (l1 ++ x :: l2) x.k = some x := by rw [hk]; exact h1
      have h0' : ∀ y ∈ l1 ++ l2, y.k ≠ x.k := fun y hy => by rw [hk]; exact h0 y hy
      have hs : setS clock (l1 ++ x :: l2) e.k e.q = (0, clock, l1 ++ ⟨x.k, e.q, x.s⟩ :: l2) := by
        have := putS_hit clock l1 x l2 e.q h1' h0'
        rw [hk] at this
        simp [setS, hg, h1, this, hk]
      rw [hs]
      have hsh := shpS (l1 ++ x :: l2)
      have h2 := noKS e.k _ h0
      have hh : cellsEq lsK (IV.a (kC e.k)).cells (sE x).1.cells = some true := by rw [← hk]; exact hitK x.k
      rw [List.map_append, List.map_cons] at hsh
      rw [List.map_append] at h2
      unfold tabC mpS
      simp only [List.map_append, List.map_cons]
      repeat' first
        | with_reducible rfl
        | simp only [eS_take, eS_7, List.length_map, List.map_append, kC_push, kC_pull, sE_k, sE_v, sE_fold, kC_len, eS_len, eS_pull, eS_push, sE_v, e_nil, e_cons, e_gd, e_gdt, e_gdf, e_g0, e_g1, e_op, e_step, e_stepG, e_stepN, e_clo, e_cloF, e_ret, e_put, e_junk, e_skip, e_reg, e_draw, e_seq, e_cond, e_block, e_exit, e_r, e_label, e_loop, q_sn, q_sr, q_se, q_bn, q_br, q_be, q_rr, q_rn, e_res0, e_res1, e_res2, e_b, d_nil, d_cons, d_op, d_step, d_stepG, d_stepN, d_clo, d_cloF, d_ret, d_put, d_junk, d_inf, d_fin, g_not, g_and, argsTM, stepE, stBuiltin, stBox, stAlloc, stLoad, stStore, stField, stExtract, stBin, stUn, stConv, stNilCheck, stFieldV, stIndex, stIndexAddr, stLen, stMin, stMax, stBuild, fillI, stBuildSlice, setRows, stMakeSlice, stAppend, srcR, segR, rdCells, stSlice, bnd, stArr, stCopy, stConv2, isIntV, cutR, byteRows, rowByte, binStr, Option.map_some, Option.map_none, eq_self, canTL, canT, canH, canL, patL, gcH, gcT, gcI, get_gcT, mapC, pullS, pullI, pushS, push1, pushI, pushC, pullHW, roC, ix, List.map_map, Function.comp_def, List.zip_cons_cons, List.zip_nil_left, List.zip_nil_right, List.range'_zero, List.range'_succ, rd, get, put, IV.cells, ofValue, seg, spl, ldIV, binInt, eqI, cellsEq, leafEq, resI, flat, isT, upd, up1, nextM, cR, ptrC, nAl, isAl, List.length_cons, List.length_nil, List.length_append, List.length_replicate, List.length_set, Nat.reduceAdd, Nat.reduceMul, Nat.reduceEqDiff, Nat.reduceLeDiff, Nat.zero_add, Nat.add_zero, ne_eq, reduceCtorEq, not_false_eq_true, not_true_eq_false, reduceIte, true_and, and_true, and_false, false_and, and_self, List.nil_append, List.cons_append, List.append_nil, List.getElem?_cons_zero, List.getElem?_cons_succ, List.drop_succ_cons, List.drop_zero, List.take_succ_cons, List.take_zero, List.set_cons_zero, List.set_cons_succ, List.getElem?_toArray, Option.bind_some, Bool.false_eq_true, Nat.add_one_ne_zero, Nat.succ_ne_self, List.map_cons, List.map_nil, Bool.not_true, Bool.not_false, List.replicate_succ, List.replicate_zero, List.mem_cons, List.not_mem_nil, or_false, false_or, or_true, true_or, forall_const, false_implies, implies_true, true_implies, Int.reduceToNat, Int.reduceLE, Int.reduceLT, Int.cast_ofNat_Int, bne, Int.reduceEq, Int.reduceNe, Int.reduceNeg, Int.reduceAdd, Int.reduceSub, Int.reduceMul, beq_self_eq_true, Int.reduceBEq, Int.reduceBNe, Bool.true_and, Bool.false_and, Bool.and_true, Bool.and_false, Bool.true_or, Bool.false_or, Bool.or_true, Bool.or_false, Nat.reduceLT, Nat.reduceSub, Nat.zero_min, Nat.min_zero, Nat.min_self, List.flatMap_cons, List.flatMap_nil, Int.toNat_natCast, strEq_self, Bool.not_eq_true', decide_true, decide_false, WLS, Try.underlying127, Try.underlying51, ty_ag_127, ty_ag_35, ty_ag_59, ty_ag_70, ty_of_129_0, ty_of_70_0, ty_of_70_1, ty_sz_127, ty_sz_35, ty_sz_59, ty_sz_70]
        | (with_reducible refine drawK_id ?_); refine drawK_auto hmix (by kernel_rfl) ?_
        | (with_reducible refine draw_fin ?_ ?_); · kernel_rfl
        | (with_reducible refine draw_id ?_); kernel_rfl
        | ((with_reducible refine callK_id (f := 53) ?_); refine callK_fun c53 rfl rfl ?_)
        | ((with_reducible refine genD_id ?_); refine lookupD_miss (z := .int .u32 0) (zi := .s (.raw (.int .u32 0))) ty_mpS ty_lk rfl rfl (sh_k _) rfl rfl (shpS L) (noKS _ L h0) zv35 (fun ρ => ⟨rfl, rfl⟩) ?_)
        | ((with_reducible refine genK_id ?_); refine len_map ty_mpS rfl rfl ?_)
        | ((with_reducible refine genD_id ?_); refine lookupD_hit ty_mpS ty_lk rfl rfl (sh_k _) rfl hsh hh h2 ?_)
        | ((with_reducible refine genD_id ?_); refine updD_old ty_mpS ty_lk rfl rfl (sh_k _) rfl (fun _ h => by cases h) rfl hsh hh h2 ?_)
        | exact ⟨_, _, WkR.gc [0, 1] rfl (by decide), by simp [gcH], by simp [gcI, pullI, pullS], by (simp [gcH, Function.comp_def, rows_pull, pullS, ix, mapC, pullI, kC_pull, sE_k, sE_v, sE_fold]; try rfl)⟩
        | (with_reducible refine And.intro ?_ ?_; · omega)
  · have hg2 : (goodS e.k e.q == 0) = false := by simpa using hg
    have hs : setS clock L e.k e.q = (goodS e.k e.q, clock, L) := by simp [setS, hg]
    rw [hs]
    unfold tabC mpS
    repeat' first
      | with_reducible rfl
      | simp only [eS_take, eS_7, List.length_map, List.map_append, kC_push, kC_pull, sE_k, sE_v, sE_fold, kC_len, eS_len, eS_pull, eS_push, hg2, e_nil, e_cons, e_gd, e_gdt, e_gdf, e_g0, e_g1, e_op, e_step, e_stepG, e_stepN, e_clo, e_cloF, e_ret, e_put, e_junk, e_skip, e_reg, e_draw, e_seq, e_cond, e_block, e_exit, e_r, e_label, e_loop, q_sn, q_sr, q_se, q_bn, q_br, q_be, q_rr, q_rn, e_res0, e_res1, e_res2, e_b, d_nil, d_cons, d_op, d_step, d_stepG, d_stepN, d_clo, d_cloF, d_ret, d_put, d_junk, d_inf, d_fin, g_not, g_and, argsTM, stepE, stBuiltin, stBox, stAlloc, stLoad, stStore, stField, stExtract, stBin, stUn, stConv, stNilCheck, stFieldV, stIndex, stIndexAddr, stLen, stMin, stMax, stBuild, fillI, stBuildSlice, setRows, stMakeSlice, stAppend, srcR, segR, rdCells, stSlice, bnd, stArr, stCopy, stConv2, isIntV, cutR, byteRows, rowByte, binStr, Option.map_some, Option.map_none, eq_self, canTL, canT, canH, canL, patL, gcH, gcT, gcI, get_gcT, mapC, pullS, pullI, pushS, push1, pushI, pushC, pullHW, roC, ix, List.map_map, Function.comp_def, List.zip_cons_cons, List.zip_nil_left, List.zip_nil_right, List.range'_zero, List.range'_succ, rd, get, put, IV.cells, ofValue, seg, spl, ldIV, binInt, eqI, cellsEq, leafEq, resI, flat, isT, upd, up1, nextM, cR, ptrC, nAl, isAl, List.length_cons, List.length_nil, List.length_append, List.length_replicate, List.length_set, Nat.reduceAdd, Nat.reduceMul, Nat.reduceEqDiff, Nat.reduceLeDiff, Nat.zero_add, Nat.add_zero, ne_eq, reduceCtorEq, not_false_eq_true, not_true_eq_false, reduceIte, true_and, and_true, and_false, false_and, and_self, List.nil_append, List.cons_append, List.append_nil, List.getElem?_cons_zero, List.getElem?_cons_succ, List.drop_succ_cons, List.drop_zero, List.take_succ_cons, List.take_zero, List.set_cons_zero, List.set_cons_succ, List.getElem?_toArray, Option.bind_some, Bool.false_eq_true, Nat.add_one_ne_zero, Nat.succ_ne_self, List.map_cons, List.map_nil, Bool.not_true, Bool.not_false, List.replicate_succ, List.replicate_zero, List.mem_cons, List.not_mem_nil, or_false, false_or, or_true, true_or, forall_const, false_implies, implies_true, true_implies, Int.reduceToNat, Int.reduceLE, Int.reduceLT, Int.cast_ofNat_Int, bne, Int.reduceEq, Int.reduceNe, Int.reduceNeg, Int.reduceAdd, Int.reduceSub, Int.reduceMul, beq_self_eq_true, Int.reduceBEq, Int.reduceBNe, Bool.true_and, Bool.false_and, Bool.and_true, Bool.and_false, Bool.true_or, Bool.false_or, Bool.or_true, Bool.or_false, Nat.reduceLT, Nat.reduceSub, Nat.zero_min, Nat.min_zero, Nat.min_self, List.flatMap_cons, List.flatMap_nil, Int.toNat_natCast, strEq_self, Bool.not_eq_true', decide_true, decide_false, WLS, Try.underlying127, Try.underlying51, ty_ag_127, ty_ag_35, ty_ag_59, ty_ag_70, ty_of_129_0, ty_of_70_0, ty_of_70_1, ty_sz_127, ty_sz_35, ty_sz_59, ty_sz_70]
      | (with_reducible refine drawK_id ?_); refine drawK_auto hmix (by kernel_rfl) ?_
      | (with_reducible refine draw_fin ?_ ?_); · kernel_rfl
      | (with_reducible refine draw_id ?_); kernel_rfl
      | ((with_reducible refine callK_id (f := 53) ?_); refine callK_fun c53 rfl rfl ?_)
      | ((with_reducible refine genD_id ?_); refine lookupD_miss (z := .int .u32 0) (zi := .s (.raw (.int .u32 0))) ty_mpS ty_lk rfl rfl (sh_k _) rfl rfl (shpS L) (noKS _ L h0) zv35 (fun ρ => ⟨rfl, rfl⟩) ?_)
      | ((with_reducible refine genK_id ?_); refine len_map ty_mpS rfl rfl ?_)
      | exact ⟨_, _, WkR.gc [0, 1] rfl (by decide), by simp [gcH], by simp [gcI, pullI, pullS], by (simp [gcH, Function.comp_def, rows_pull, pullS, ix, mapC, pullI, kC_pull, sE_k, sE_v, sE_fold]; try rfl)⟩
      | (with_reducible refine And.intro ?_ ?_; · omega)
theorem f56 (a b : SEN) : Fun Try.prog 56 [.a (eS a), .a (eS b)] (.s (.raw (.int .i64 (cmpK a.k b.k)))) := by
  refine fun_of rfl fun X => ?_
  refine callK_inline (rs := [.tmp 4]) (n := 23) Try.func56 rfl rfl rfl (by kernel_rfl) (by kernel_rfl) (by simp only [List.length_cons, List.length_nil]; decide) ?_
  repeat' first
    | with_reducible rfl
    | simp only [eS_def, cmpK, kI, e_nil, e_cons, e_gd, e_gdt, e_gdf, e_g0, e_g1, e_op, e_step, e_stepG, e_stepN, e_clo, e_cloF, e_ret, e_put, e_junk, e_skip, e_reg, e_draw, e_seq, e_cond, e_block, e_exit, e_r, e_label, e_loop, q_sn, q_sr, q_se, q_bn, q_br, q_be, q_rr, q_rn, e_res0, e_res1, e_res2, e_b, d_nil, d_cons, d_op, d_step, d_stepG, d_stepN, d_clo, d_cloF, d_ret, d_put, d_junk, d_inf, d_fin, g_not, g_and, argsTM, stepE, stBuiltin, stBox, stAlloc, stLoad, stStore, stField, stExtract, stBin, stUn, stConv, stNilCheck, stFieldV, stIndex, stIndexAddr, stLen, stMin, stMax, stBuild, fillI, stBuildSlice, setRows, stMakeSlice, stAppend, srcR, segR, rdCells, stSlice, bnd, stArr, stCopy, stConv2, isIntV, cutR, byteRows, rowByte, binStr, Option.map_some, Option.map_none, eq_self, canTL, canT, canH, canL, patL, gcH, gcT, gcI, get_gcT, mapC, pullS, pullI, pushS, push1, pushI, pushC, pullHW, roC, ix, List.map_map, Function.comp_def, List.zip_cons_cons, List.zip_nil_left, List.zip_nil_right, List.range'_zero, List.range'_succ, rd, get, put, IV.cells, ofValue, seg, spl, ldIV, binInt, eqI, cellsEq, leafEq, resI, flat, isT, upd, up1, nextM, cR, ptrC, nAl, isAl, List.length_cons, List.length_nil, List.length_append, List.length_replicate, List.length_set, Nat.reduceAdd, Nat.reduceMul, Nat.reduceEqDiff, Nat.reduceLeDiff, Nat.zero_add, Nat.add_zero, ne_eq, reduceCtorEq, not_false_eq_true, not_true_eq_false, reduceIte, true_and, and_true, and_false, false_and, and_self, List.nil_append, List.cons_append, List.append_nil, List.getElem?_cons_zero, List.getElem?_cons_succ, List.drop_succ_cons, List.drop_zero, List.take_succ_cons, List.take_zero, List.set_cons_zero, List.set_cons_succ, List.getElem?_toArray, Option.bind_some, Bool.false_eq_true, Nat.add_one_ne_zero, Nat.succ_ne_self, List.map_cons, List.map_nil, Bool.not_true, Bool.not_false, List.replicate_succ, List.replicate_zero, List.mem_cons, List.not_mem_nil, or_false, false_or, or_true, true_or, forall_const, false_implies, implies_true, true_implies, Int.reduceToNat, Int.reduceLE, Int.reduceLT, Int.cast_ofNat_Int, bne, Int.reduceEq, Int.reduceNe, Int.reduceNeg, Int.reduceAdd, Int.reduceSub, Int.reduceMul, beq_self_eq_true, Int.reduceBEq, Int.reduceBNe, Bool.true_and, Bool.false_and, Bool.and_true, Bool.and_false, Bool.true_or, Bool.false_or, Bool.or_true, Bool.or_false, Nat.reduceLT, Nat.reduceSub, Nat.zero_min, Nat.min_zero, Nat.min_self, List.flatMap_cons, List.flatMap_nil, Int.toNat_natCast, strEq_self, Bool.not_eq_true', decide_true, decide_false, WLS, ty_ag_27, ty_ag_57, ty_of_59_0, ty_of_59_1, ty_of_70_0, ty_sz_27, ty_sz_57, ty_zs_125]
    | with_reducible refine gdb_split (fun h => ?_) (fun h => ?_)
    | (with_reducible refine drawK_id ?_); refine drawK_auto hmix (by kernel_rfl) ?_
    | (with_reducible refine draw_fin ?_ ?_); · kernel_rfl
    | (with_reducible refine draw_id ?_); kernel_rfl
    | (with_reducible refine callD_id (f := 58) ?_); refine callD_of (f58 _ _) rfl rfl ?_
    | (with_reducible refine callD_id (f := 60) ?_); refine callD_of (f60 _ _ _ _ _ _) rfl rfl ?_
    | (with_reducible refine callD_id (f := 59) ?_); refine callD_of (f59 _ _) rfl rfl ?_
    | (with_reducible refine callD_id (f := 57) ?_); refine callD_read [2] (f57 _ _) rfl rfl rfl ?_
    | (with_reducible refine And.intro ?_ ?_; · omega)
def leS (a b : SEN) : Bool := decide (cmpK a.k b.k ≤ 0)
def srtS (L : List SEN) : List SEN := L.mergeSort leS
theorem srtS_len (L : List SEN) : (srtS L).length = L.length := by simp [srtS]
theorem srtS_mem {L : List SEN} {e : SEN} : e ∈ srtS L ↔ e ∈ L := (List.mergeSort_perm L leS).mem_iff
def SortS (L : List SEN) : Prop := ∀ (X : Ctx) (k : IV → Heap → Prop) (H : Heap) (c : Nat) (M : List SEN), H[c]? = some (.rows true 8 (M.map eS)) → M.Perm L → k (.t []) (H.set c (.rows true 8 ((srtS L).map eS))) →
  callK Try.prog X 55 [.s (.slice c 0 M.length), .s (.raw (.func (.func 56) #[] #[]))] k H
theorem mapS_pull (σ : List Nat) (clock : Nat) (L : List SEN) : mapC (pullS σ) (pullI σ) (.map clock (L.map sE)) = .map clock (L.map sE) := by
  simp only [mapC, List.map_map]
  congr 1
theorem pull_eS (σ : List Nat) (L : List SEN) : (L.map eS).map (fun r => r.map (pullS σ)) = L.map eS := by rw [List.map_map]; rfl
def cfS (a b : SEN) : Int := cmpK a.k b.k
def encSE (e : SEN) : List Value := [.int .u16 e.k.v, .int .u8 e.k.m.m0, .int .u8 e.k.m.m1, .int .u8 e.k.m.m2, .int .u8 e.k.m.m3, .int .u8 e.k.m.m4, .int .u8 e.k.m.m5, .int .u32 e.q]
theorem swoS : SWO (ltOf cfS) where
  irrefl x := by simp only [ltOf, cfS, decide_eq_false_iff_not, cmpK_lt]; omega
  trans x y z h1 h2 := by
    simp only [ltOf, cfS, decide_eq_true_eq, cmpK_lt] at *; omega
  ntrans x y z h1 h2 := by
    simp only [ltOf, cfS, decide_eq_false_iff_not, cmpK_lt] at *; omega
theorem leS_iff (a b : SEN) : leS a b = true ↔ (a.k.v < b.k.v ∨ a.k.v = b.k.v ∧ kI a.k ≤ kI b.k) := by simp only [leS, decide_eq_true_eq, cmpK_le]
theorem nkS_eq {L : List SEN} (hn : NDkS L) {a b : SEN} (ha : a ∈ L) (hb : b ∈ L) (h : a.k = b.k) : a = b := by
  obtain ⟨l1, l2, rfl, h0⟩ := mem_splitS hn ha
  rcases List.mem_append.1 hb with h1 | h1
  · exact absurd h.symm (h0 b (by simp [h1]))
  · rcases List.mem_cons.1 h1 with rfl | h1
    · rfl
    · exact absurd h.symm (h0 b (by simp [h1]))
theorem sort_okS (L : List SEN) (hn : NDkS L) (hv : ∀ e ∈ L, KOK e.k) (hb : L.length ≤ 100000) : SortS L := by
  intro X k H c M hc hp hk
  have aE : ∀ w, (isAgg (Try.sortS_ren.t 24)).run Try.prog w = .ok true w := fun w => Try.isAgg70 w
  have zE : ∀ w, (Go.sizeOf (Try.sortS_ren.t 24)).run Try.prog w = .ok 8 w := fun w => Try.sizeOf70 w
  have := sort_call (X := X) (H := H) (c := c) (d := M) (kk := k) Try.sortS 8 (by decide) aE zE encSE (fun _ => rfl) (fun x v hv => by simp [encSE] at hv; rcases hv with rfl | rfl | rfl | rfl | rfl | rfl | rfl | rfl <;> rfl) cfS swoS 56 (fun a b => f56 a b) (by kernel_rfl)
    (by rw [show M.map (encS encSE) = M.map eS from rfl]; exact hc) (by rw [hp.length_eq]; omega) (fun d' hd hs => by
      have e : d' = srtS L := by
        refine List.Perm.eq_of_pairwise (le := fun a b => leS a b = true) (fun a b ha hb h1 h2 => ?_) ?_ ?_ ((hd.trans hp).trans (List.mergeSort_perm L leS).symm)
        · have ha' : a ∈ L := (hd.trans hp).mem_iff.1 ha
          have hb' : b ∈ L := (List.mergeSort_perm L leS).mem_iff.1 hb
          rw [leS_iff] at h1 h2
          exact nkS_eq hn ha' hb' (kI_inj (hv a ha') (hv b hb') (by omega) (by omega))
        · rw [List.pairwise_iff_getElem]
          intro i j hi hj hij
          have := hs i j hj hij
          simp only [ltOf, cfS, decide_eq_false_iff_not, cmpK_lt] at this
          rw [leS_iff]; omega
        · refine List.pairwise_mergeSort (fun a b c h1 h2 => ?_) (fun a b => ?_) L
          · rw [leS_iff] at *; omega
          · rw [Bool.or_eq_true, leS_iff, leS_iff]; omega
      rw [e]
      exact hk)
  exact this
def I28 (clock : Nat) (L : List SEN) (mm : Nat) (tm : TM) (H : Heap) : Prop := ∃ (seen : List Nat) (M R : List SEN), mm = R.length ∧ (M ++ R).Perm L ∧ M.map (·.s) = seen ∧
  get tm 12 = .s (.ref 2) ∧ get tm 3 = .s (.slice 3 0 M.length) ∧ H = [tabC, mpS clock L, .iter (.ref 1) clock seen clock, .rows true 8 (M.map eS)]
theorem f28 (clock : Nat) (L : List SEN) (hs : NDsS L) (hc : ∀ e ∈ L, e.s < clock) (hb : L.length ≤ 100000) (hS : SortS L) : FunW Try.prog 28 [] [tabC, mpS clock L] [.s (.ptr 0 0 0)] fun r Hn => r = .s (.slice 2 0 L.length) ∧ Hn = [tabC, mpS clock L, .rows true 8 ((srtS L).map eS)] := by
  refine funW_of fun X => ?_
  refine callK_inline (rs := [.tmp 2]) (n := 27) Try.func28 rfl rfl rfl (by kernel_rfl) (by kernel_rfl) (by simp only [List.length_cons, List.length_nil]; decide) ?_
  unfold tabC mpS
  repeat' first
    | with_reducible rfl
    | simp only [*, e_nil, e_cons, e_gd, e_gdt, e_gdf, e_g0, e_g1, e_op, e_step, e_stepG, e_stepN, e_clo, e_cloF, e_ret, e_put, e_junk, e_skip, e_reg, e_draw, e_seq, e_cond, e_block, e_exit, e_r, e_label, e_loop, q_sn, q_sr, q_se, q_bn, q_br, q_be, q_rr, q_rn, e_res0, e_res1, e_res2, e_b, d_nil, d_cons, d_op, d_step, d_stepG, d_stepN, d_clo, d_cloF, d_ret, d_put, d_junk, d_inf, d_fin, g_not, g_and, argsTM, stepE, stBuiltin, stBox, stAlloc, stLoad, stStore, stField, stExtract, stBin, stUn, stConv, stNilCheck, stFieldV, stIndex, stIndexAddr, stLen, stMin, stMax, stBuild, fillI, stBuildSlice, setRows, stMakeSlice, stAppend, srcR, segR, rdCells, stSlice, bnd, stArr, stCopy, stConv2, isIntV, cutR, byteRows, rowByte, binStr, Option.map_some, Option.map_none, eq_self, canTL, canT, canH, canL, patL, gcH, gcT, gcI, get_gcT, mapC, pullS, pullI, pushS, push1, pushI, pushC, pullHW, roC, ix, List.map_map, Function.comp_def, List.zip_cons_cons, List.zip_nil_left, List.zip_nil_right, List.range'_zero, List.range'_succ, rd, get, put, IV.cells, ofValue, seg, spl, ldIV, binInt, eqI, cellsEq, leafEq, resI, flat, isT, upd, up1, nextM, cR, ptrC, nAl, isAl, List.length_cons, List.length_nil, List.length_append, List.length_replicate, List.length_set, Nat.reduceAdd, Nat.reduceMul, Nat.reduceEqDiff, Nat.reduceLeDiff, Nat.zero_add, Nat.add_zero, ne_eq, reduceCtorEq, not_false_eq_true, not_true_eq_false, reduceIte, true_and, and_true, and_false, false_and, and_self, List.nil_append, List.cons_append, List.append_nil, List.getElem?_cons_zero, List.getElem?_cons_succ, List.drop_succ_cons, List.drop_zero, List.take_succ_cons, List.take_zero, List.set_cons_zero, List.set_cons_succ, List.getElem?_toArray, Option.bind_some, Bool.false_eq_true, Nat.add_one_ne_zero, Nat.succ_ne_self, List.map_cons, List.map_nil, Bool.not_true, Bool.not_false, List.replicate_succ, List.replicate_zero, List.mem_cons, List.not_mem_nil, or_false, false_or, or_true, true_or, forall_const, false_implies, implies_true, true_implies, Int.reduceToNat, Int.reduceLE, Int.reduceLT, Int.cast_ofNat_Int, bne, Int.reduceEq, Int.reduceNe, Int.reduceNeg, Int.reduceAdd, Int.reduceSub, Int.reduceMul, beq_self_eq_true, Int.reduceBEq, Int.reduceBNe, Bool.true_and, Bool.false_and, Bool.and_true, Bool.and_false, Bool.true_or, Bool.false_or, Bool.or_true, Bool.or_false, Nat.reduceLT, Nat.reduceSub, Nat.zero_min, Nat.min_zero, Nat.min_self, List.flatMap_cons, List.flatMap_nil, Int.toNat_natCast, strEq_self, Bool.not_eq_true', decide_true, decide_false, WLS, Try.underlying51, ty_ag_127, ty_ag_59, ty_by_72, ty_of_129_0, ty_ok_70, ty_pl_70_0, ty_pl_70_1, ty_sr_72, ty_sz_127, ty_sz_59, ty_ze_59, ty_ze_70, ty_zs_72]
    | with_reducible refine gdb_split (fun h => ?_) (fun h => ?_)
    | (with_reducible refine drawK_id ?_); refine drawK_auto hmix (by kernel_rfl) ?_
    | (with_reducible refine draw_fin ?_ ?_); · kernel_rfl
    | (with_reducible refine draw_id ?_); kernel_rfl
    | ((with_reducible refine genK_id ?_); refine range_gen ty_mpS rfl rfl ?_)
    | (with_reducible refine And.intro ?_ ?_; · omega)
  refine loopK_wk (by kernel_rfl) (I28 clock L) L.length ⟨_, _, Wk.can2 [(8, 3)] [] [.inl 0, .inl 1, .inl 2, .inr 0] rfl (by simp [patL]), [], [], L, rfl, by simp, rfl, ?_, ?_, ?_⟩ ?_
  · simp [Function.comp_def, get_gcT, get, put, gcI, pullI, pullS, gcH, patL, canL, canH, canTL, canT, segR, rows_pull, iter_pull, mapS_pull, pull_eS, ix]
  · simp [Function.comp_def, get_gcT, get, put, gcI, pullI, pullS, gcH, patL, canL, canH, canTL, canT, segR, rows_pull, iter_pull, mapS_pull, pull_eS, ix]
  · simp [Function.comp_def, get_gcT, get, put, gcI, pullI, pullS, gcH, patL, canL, canH, canTL, canT, segR, rows_pull, iter_pull, mapS_pull, pull_eS, ix, tabC, mpS]
  rintro mm tm H ⟨seen, M, R, rfl, hp, rfl, g12, g3, rfl⟩
  unfold tabC mpS
  repeat' first
    | with_reducible rfl
    | simp only [g12, g3, e_nil, e_cons, e_gd, e_gdt, e_gdf, e_g0, e_g1, e_op, e_step, e_stepG, e_stepN, e_clo, e_cloF, e_ret, e_put, e_junk, e_skip, e_reg, e_draw, e_seq, e_cond, e_block, e_exit, e_r, e_label, e_loop, q_sn, q_sr, q_se, q_bn, q_br, q_be, q_rr, q_rn, e_res0, e_res1, e_res2, e_b, d_nil, d_cons, d_op, d_step, d_stepG, d_stepN, d_clo, d_cloF, d_ret, d_put, d_junk, d_inf, d_fin, g_not, g_and, argsTM, stepE, stBuiltin, stBox, stAlloc, stLoad, stStore, stField, stExtract, stBin, stUn, stConv, stNilCheck, stFieldV, stIndex, stIndexAddr, stLen, stMin, stMax, stBuild, fillI, stBuildSlice, setRows, stMakeSlice, stAppend, srcR, segR, rdCells, stSlice, bnd, stArr, stCopy, stConv2, isIntV, cutR, byteRows, rowByte, binStr, Option.map_some, Option.map_none, eq_self, canTL, canT, canH, canL, patL, gcH, gcT, gcI, get_gcT, mapC, pullS, pullI, pushS, push1, pushI, pushC, pullHW, roC, ix, List.map_map, Function.comp_def, List.zip_cons_cons, List.zip_nil_left, List.zip_nil_right, List.range'_zero, List.range'_succ, rd, get, put, IV.cells, ofValue, seg, spl, ldIV, binInt, eqI, cellsEq, leafEq, resI, flat, isT, upd, up1, nextM, cR, ptrC, nAl, isAl, List.length_cons, List.length_nil, List.length_append, List.length_replicate, List.length_set, Nat.reduceAdd, Nat.reduceMul, Nat.reduceEqDiff, Nat.reduceLeDiff, Nat.zero_add, Nat.add_zero, ne_eq, reduceCtorEq, not_false_eq_true, not_true_eq_false, reduceIte, true_and, and_true, and_false, false_and, and_self, List.nil_append, List.cons_append, List.append_nil, List.getElem?_cons_zero, List.getElem?_cons_succ, List.drop_succ_cons, List.drop_zero, List.take_succ_cons, List.take_zero, List.set_cons_zero, List.set_cons_succ, List.getElem?_toArray, Option.bind_some, Bool.false_eq_true, Nat.add_one_ne_zero, Nat.succ_ne_self, List.map_cons, List.map_nil, Bool.not_true, Bool.not_false, List.replicate_succ, List.replicate_zero, List.mem_cons, List.not_mem_nil, or_false, false_or, or_true, true_or, forall_const, false_implies, implies_true, true_implies, Int.reduceToNat, Int.reduceLE, Int.reduceLT, Int.cast_ofNat_Int, bne, Int.reduceEq, Int.reduceNe, Int.reduceNeg, Int.reduceAdd, Int.reduceSub, Int.reduceMul, beq_self_eq_true, Int.reduceBEq, Int.reduceBNe, Bool.true_and, Bool.false_and, Bool.and_true, Bool.and_false, Bool.true_or, Bool.false_or, Bool.or_true, Bool.or_false, Nat.reduceLT, Nat.reduceSub, Nat.zero_min, Nat.min_zero, Nat.min_self, List.flatMap_cons, List.flatMap_nil, Int.toNat_natCast, strEq_self, Bool.not_eq_true', decide_true, decide_false, WLS, Try.underlying51, ty_ag_127, ty_ag_59, ty_by_72, ty_of_129_0, ty_ok_70, ty_pl_70_0, ty_pl_70_1, ty_sr_72, ty_sz_127, ty_sz_59, ty_ze_59, ty_ze_70, ty_zs_72]
    | with_reducible refine gdb_split (fun h => ?_) (fun h => ?_)
    | (with_reducible refine drawK_id ?_); refine drawK_auto hmix (by kernel_rfl) ?_
    | (with_reducible refine draw_fin ?_ ?_); · kernel_rfl
    | (with_reducible refine draw_id ?_); kernel_rfl
    | (with_reducible refine And.intro ?_ ?_; · omega)
  refine next_gen (c := 2) (m := 1) (seen := M.map (·.s)) (by simp only [rd, g12]) rfl rfl (fun x hx => by obtain ⟨e, he, rfl⟩ := List.mem_map.1 hx; exact hc e he) (Nat.le_refl _) (fun hall => ?_) (fun x hx hns => ?_)
  · have hR : R = [] := by
      cases R with
      | nil => rfl
      | cons x R' =>
        exfalso
        have h1 := hall (sE x) (List.mem_map.2 ⟨x, hp.mem_iff.1 (by simp), rfl⟩)
        have h2 : ((M ++ x :: R').map (·.s)).Nodup := (hp.map fun e : SEN => e.s).nodup_iff.2 (show (L.map fun e : SEN => e.s).Nodup from hs)
        rw [List.map_append, List.nodup_append] at h2
        exact h2.2.2 _ h1 _ (List.mem_map.2 ⟨x, by simp, rfl⟩) rfl
    subst hR
    rw [List.append_nil] at hp
    have hlen := hp.length_eq
    repeat' first
      | with_reducible rfl
      | simp only [g12, g3, e_nil, e_cons, e_gd, e_gdt, e_gdf, e_g0, e_g1, e_op, e_step, e_stepG, e_stepN, e_clo, e_cloF, e_ret, e_put, e_junk, e_skip, e_reg, e_draw, e_seq, e_cond, e_block, e_exit, e_r, e_label, e_loop, q_sn, q_sr, q_se, q_bn, q_br, q_be, q_rr, q_rn, e_res0, e_res1, e_res2, e_b, d_nil, d_cons, d_op, d_step, d_stepG, d_stepN, d_clo, d_cloF, d_ret, d_put, d_junk, d_inf, d_fin, g_not, g_and, argsTM, stepE, stBuiltin, stBox, stAlloc, stLoad, stStore, stField, stExtract, stBin, stUn, stConv, stNilCheck, stFieldV, stIndex, stIndexAddr, stLen, stMin, stMax, stBuild, fillI, stBuildSlice, setRows, stMakeSlice, stAppend, srcR, segR, rdCells, stSlice, bnd, stArr, stCopy, stConv2, isIntV, cutR, byteRows, rowByte, binStr, Option.map_some, Option.map_none, eq_self, canTL, canT, canH, canL, patL, gcH, gcT, gcI, get_gcT, mapC, pullS, pullI, pushS, push1, pushI, pushC, pullHW, roC, ix, List.map_map, Function.comp_def, List.zip_cons_cons, List.zip_nil_left, List.zip_nil_right, List.range'_zero, List.range'_succ, rd, get, put, IV.cells, ofValue, seg, spl, ldIV, binInt, eqI, cellsEq, leafEq, resI, flat, isT, upd, up1, nextM, cR, ptrC, nAl, isAl, List.length_cons, List.length_nil, List.length_append, List.length_replicate, List.length_set, Nat.reduceAdd, Nat.reduceMul, Nat.reduceEqDiff, Nat.reduceLeDiff, Nat.zero_add, Nat.add_zero, ne_eq, reduceCtorEq, not_false_eq_true, not_true_eq_false, reduceIte, true_and, and_true, and_false, false_and, and_self, List.nil_append, List.cons_append, List.append_nil, List.getElem?_cons_zero, List.getElem?_cons_succ, List.drop_succ_cons, List.drop_zero, List.take_succ_cons, List.take_zero, List.set_cons_zero, List.set_cons_succ, List.getElem?_toArray, Option.bind_some, Bool.false_eq_true, Nat.add_one_ne_zero, Nat.succ_ne_self, List.map_cons, List.map_nil, Bool.not_true, Bool.not_false, List.replicate_succ, List.replicate_zero, List.mem_cons, List.not_mem_nil, or_false, false_or, or_true, true_or, forall_const, false_implies, implies_true, true_implies, Int.reduceToNat, Int.reduceLE, Int.reduceLT, Int.cast_ofNat_Int, bne, Int.reduceEq, Int.reduceNe, Int.reduceNeg, Int.reduceAdd, Int.reduceSub, Int.reduceMul, beq_self_eq_true, Int.reduceBEq, Int.reduceBNe, Bool.true_and, Bool.false_and, Bool.and_true, Bool.and_false, Bool.true_or, Bool.false_or, Bool.or_true, Bool.or_false, Nat.reduceLT, Nat.reduceSub, Nat.zero_min, Nat.min_zero, Nat.min_self, List.flatMap_cons, List.flatMap_nil, Int.toNat_natCast, strEq_self, Bool.not_eq_true', decide_true, decide_false, WLS, Try.underlying51, ty_ag_127, ty_ag_59, ty_by_72, ty_of_129_0, ty_ok_70, ty_pl_70_0, ty_pl_70_1, ty_sr_72, ty_sz_127, ty_sz_59, ty_ze_59, ty_ze_70, ty_zs_72]
      | with_reducible refine gdb_split (fun h => ?_) (fun h => ?_)
      | (with_reducible refine drawK_id ?_); refine drawK_auto hmix (by kernel_rfl) ?_
      | (with_reducible refine draw_fin ?_ ?_); · kernel_rfl
      | (with_reducible refine draw_id ?_); kernel_rfl
      | ((with_reducible refine callK_id (f := 55) ?_); refine hS _ _ _ 3 M rfl hp ?_)
      | exact ⟨_, _, WkR.gc [0, 1, 3] rfl (by decide), by simp [gcH], by simp [gcI, pullI, pullS, ix, hlen], by (simp [gcH, mapS_pull, rows_pull, pull_eS, pullS, ix]; intros; rfl)⟩
      | (with_reducible refine And.intro ?_ ?_; · omega)
  · obtain ⟨e, he, rfl⟩ := List.mem_map.1 hx
    have heR : e ∈ R := by
      rcases List.mem_append.1 (hp.mem_iff.2 he) with h | h
      · exact absurd (List.mem_map.2 ⟨e, h, rfl⟩) hns
      · exact h
    obtain ⟨R1, R2, rfl⟩ := List.append_of_mem heR
    have hlen := hp.length_eq
    simp only [List.length_append, List.length_cons] at hlen
    have hM : M.length + 1 ≤ 100000 := by omega
    simp only [List.set_cons_succ, List.set_cons_zero]
    repeat' first
      | with_reducible rfl
      | simp only [g12, g3, sE_v, sE_k, kC, List.length_map, e_nil, e_cons, e_gd, e_gdt, e_gdf, e_g0, e_g1, e_op, e_step, e_stepG, e_stepN, e_clo, e_cloF, e_ret, e_put, e_junk, e_skip, e_reg, e_draw, e_seq, e_cond, e_block, e_exit, e_r, e_label, e_loop, q_sn, q_sr, q_se, q_bn, q_br, q_be, q_rr, q_rn, e_res0, e_res1, e_res2, e_b, d_nil, d_cons, d_op, d_step, d_stepG, d_stepN, d_clo, d_cloF, d_ret, d_put, d_junk, d_inf, d_fin, g_not, g_and, argsTM, stepE, stBuiltin, stBox, stAlloc, stLoad, stStore, stField, stExtract, stBin, stUn, stConv, stNilCheck, stFieldV, stIndex, stIndexAddr, stLen, stMin, stMax, stBuild, fillI, stBuildSlice, setRows, stMakeSlice, stAppend, srcR, segR, rdCells, stSlice, bnd, stArr, stCopy, stConv2, isIntV, cutR, byteRows, rowByte, binStr, Option.map_some, Option.map_none, eq_self, canTL, canT, canH, canL, patL, gcH, gcT, gcI, get_gcT, mapC, pullS, pullI, pushS, push1, pushI, pushC, pullHW, roC, ix, List.map_map, Function.comp_def, List.zip_cons_cons, List.zip_nil_left, List.zip_nil_right, List.range'_zero, List.range'_succ, rd, get, put, IV.cells, ofValue, seg, spl, ldIV, binInt, eqI, cellsEq, leafEq, resI, flat, isT, upd, up1, nextM, cR, ptrC, nAl, isAl, List.length_cons, List.length_nil, List.length_append, List.length_replicate, List.length_set, Nat.reduceAdd, Nat.reduceMul, Nat.reduceEqDiff, Nat.reduceLeDiff, Nat.zero_add, Nat.add_zero, ne_eq, reduceCtorEq, not_false_eq_true, not_true_eq_false, reduceIte, true_and, and_true, and_false, false_and, and_self, List.nil_append, List.cons_append, List.append_nil, List.getElem?_cons_zero, List.getElem?_cons_succ, List.drop_succ_cons, List.drop_zero, List.take_succ_cons, List.take_zero, List.set_cons_zero, List.set_cons_succ, List.getElem?_toArray, Option.bind_some, Bool.false_eq_true, Nat.add_one_ne_zero, Nat.succ_ne_self, List.map_cons, List.map_nil, Bool.not_true, Bool.not_false, List.replicate_succ, List.replicate_zero, List.mem_cons, List.not_mem_nil, or_false, false_or, or_true, true_or, forall_const, false_implies, implies_true, true_implies, Int.reduceToNat, Int.reduceLE, Int.reduceLT, Int.cast_ofNat_Int, bne, Int.reduceEq, Int.reduceNe, Int.reduceNeg, Int.reduceAdd, Int.reduceSub, Int.reduceMul, beq_self_eq_true, Int.reduceBEq, Int.reduceBNe, Bool.true_and, Bool.false_and, Bool.and_true, Bool.and_false, Bool.true_or, Bool.false_or, Bool.or_true, Bool.or_false, Nat.reduceLT, Nat.reduceSub, Nat.zero_min, Nat.min_zero, Nat.min_self, List.flatMap_cons, List.flatMap_nil, Int.toNat_natCast, strEq_self, Bool.not_eq_true', decide_true, decide_false, WLS, Try.underlying51, ty_ag_127, ty_ag_59, ty_by_72, ty_of_129_0, ty_ok_70, ty_pl_70_0, ty_pl_70_1, ty_sr_72, ty_sz_127, ty_sz_59, ty_ze_59, ty_ze_70, ty_zs_72]
      | with_reducible refine gdb_split (fun h => ?_) (fun h => ?_)
      | (with_reducible refine drawK_id ?_); refine drawK_auto hmix (by kernel_rfl) ?_
      | (with_reducible refine draw_fin ?_ ?_); · kernel_rfl
      | (with_reducible refine draw_id ?_); kernel_rfl
      | ((with_reducible refine genK_id ?_); refine entry_gen (c := 2) (m := 1) (e := sE e) (st := (sE e).2.2) (by simp [rd, put, get, g12]) rfl rfl (List.mem_map.2 ⟨e, he, rfl⟩) rfl ?_)
      | (with_reducible refine And.intro ?_ ?_; · omega)
    refine ⟨R1.length + R2.length, _, _, by simp, Wk.gc [0, 1, 2, 6] rfl (by decide), M.map (·.s) ++ [e.s], M ++ [e], R1 ++ R2, by simp, ?_, by simp, ?_, ?_, ?_⟩
    · refine List.Perm.trans ?_ hp
      rw [List.append_assoc]
      exact List.Perm.append_left _ (show (e :: (R1 ++ R2)).Perm (R1 ++ e :: R2) from List.perm_middle.symm)
    · simp [Function.comp_def, get_gcT, get, put, gcI, pullI, pullS, gcH, patL, canL, canH, canTL, canT, segR, rows_pull, iter_pull, mapS_pull, pull_eS, ix, g12]
    · simp [Function.comp_def, get_gcT, get, put, gcI, pullI, pullS, gcH, patL, canL, canH, canTL, canT, segR, rows_pull, iter_pull, mapS_pull, pull_eS, ix]
    · simp [Function.comp_def, get_gcT, get, put, gcI, pullI, pullS, gcH, patL, canL, canH, canTL, canT, segR, rows_pull, iter_pull, mapS_pull, pull_eS, ix, tabC, mpS]
      exact ⟨rfl, fun _ _ => rfl, rfl⟩
end Go.Ev
