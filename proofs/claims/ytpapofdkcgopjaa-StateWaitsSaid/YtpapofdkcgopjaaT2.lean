/- A part of the proof: contracts of the functions that the statement reaches. -/
import Derived.Test.YtpapofdkcgopjaaT1
namespace Go.Ev
open Go.Proofs
set_option maxRecDepth 100000
set_option linter.unusedSimpArgs false
set_option linter.unusedVariables false
set_option maxHeartbeats 4000000
theorem wrap_u8_0 : IntKind.u8.wrap 0 = 0 := rfl
theorem wrap_u8_1 : IntKind.u8.wrap 1 = 1 := rfl
theorem wrap_u8_2 : IntKind.u8.wrap 2 = 2 := rfl
theorem wrap_u8_3 : IntKind.u8.wrap 3 = 3 := rfl
theorem wrap_u8_4 : IntKind.u8.wrap 4 = 4 := rfl
theorem wrap_u8_5 : IntKind.u8.wrap 5 = 5 := rfl
theorem wrap_u8_6 : IntKind.u8.wrap 6 = 6 := rfl
theorem wrap_u8_7 : IntKind.u8.wrap 7 = 7 := rfl
theorem wrap_u8_8 : IntKind.u8.wrap 8 = 8 := rfl
theorem wrap_u8_9 : IntKind.u8.wrap 9 = 9 := rfl
theorem wrap_u16_0 : IntKind.u16.wrap 0 = 0 := rfl
theorem wrap_u16_1 : IntKind.u16.wrap 1 = 1 := rfl
theorem wrap_u16_2 : IntKind.u16.wrap 2 = 2 := rfl
theorem wrap_u16_3 : IntKind.u16.wrap 3 = 3 := rfl
theorem wrap_u16_4 : IntKind.u16.wrap 4 = 4 := rfl
theorem wrap_u16_5 : IntKind.u16.wrap 5 = 5 := rfl
theorem wrap_u16_6 : IntKind.u16.wrap 6 = 6 := rfl
theorem wrap_u16_7 : IntKind.u16.wrap 7 = 7 := rfl
theorem wrap_u16_8 : IntKind.u16.wrap 8 = 8 := rfl
theorem wrap_u16_9 : IntKind.u16.wrap 9 = 9 := rfl
theorem wrap_u32_0 : IntKind.u32.wrap 0 = 0 := rfl
theorem wrap_u32_1 : IntKind.u32.wrap 1 = 1 := rfl
theorem wrap_u32_2 : IntKind.u32.wrap 2 = 2 := rfl
theorem wrap_u32_3 : IntKind.u32.wrap 3 = 3 := rfl
theorem wrap_u32_4 : IntKind.u32.wrap 4 = 4 := rfl
theorem wrap_u32_5 : IntKind.u32.wrap 5 = 5 := rfl
theorem wrap_u32_6 : IntKind.u32.wrap 6 = 6 := rfl
theorem wrap_u32_7 : IntKind.u32.wrap 7 = 7 := rfl
theorem wrap_u32_8 : IntKind.u32.wrap 8 = 8 := rfl
theorem wrap_u32_9 : IntKind.u32.wrap 9 = 9 := rfl
theorem wrap_u64_0 : IntKind.u64.wrap 0 = 0 := rfl
theorem wrap_u64_1 : IntKind.u64.wrap 1 = 1 := rfl
theorem wrap_u64_2 : IntKind.u64.wrap 2 = 2 := rfl
theorem wrap_u64_3 : IntKind.u64.wrap 3 = 3 := rfl
theorem wrap_u64_4 : IntKind.u64.wrap 4 = 4 := rfl
theorem wrap_u64_5 : IntKind.u64.wrap 5 = 5 := rfl
theorem wrap_u64_6 : IntKind.u64.wrap 6 = 6 := rfl
theorem wrap_u64_7 : IntKind.u64.wrap 7 = 7 := rfl
theorem wrap_u64_8 : IntKind.u64.wrap 8 = 8 := rfl
theorem wrap_u64_9 : IntKind.u64.wrap 9 = 9 := rfl
theorem wrap_i64_0 : IntKind.i64.wrap 0 = 0 := rfl
theorem wrap_i64_1 : IntKind.i64.wrap 1 = 1 := rfl
theorem wrap_i64_2 : IntKind.i64.wrap 2 = 2 := rfl
theorem wrap_i64_3 : IntKind.i64.wrap 3 = 3 := rfl
theorem wrap_i64_4 : IntKind.i64.wrap 4 = 4 := rfl
theorem wrap_i64_5 : IntKind.i64.wrap 5 = 5 := rfl
theorem wrap_i64_6 : IntKind.i64.wrap 6 = 6 := rfl
theorem wrap_i64_7 : IntKind.i64.wrap 7 = 7 := rfl
theorem wrap_i64_8 : IntKind.i64.wrap 8 = 8 := rfl
theorem wrap_i64_9 : IntKind.i64.wrap 9 = 9 := rfl
theorem f18c  : Fun Try.prog 18 [.a [.raw (.int .u16 0), .raw (.int .i64 0), .raw (.bool false), .raw (.int .u32 0), .raw (.int .i64 0), .raw (.bool false), .raw (.bool false), .raw (.bool false), .raw (.bool false), .raw (.bool false), .raw (.int .i64 0), .raw (.int .i64 0), .raw (.int .i64 0), .raw (.int .u64 0), .raw (.int .u32 0), .raw (.int .u64 0), .raw (.int .u16 0), .raw (.int .i64 0), .raw (.int .i64 0), .raw (.int .i64 0), .raw (.int .i64 0)], .s (.raw (.int .i64 4)), .a [.raw (.int .u64 1), .raw (.int .u32 2), .raw (.int .u64 3), .raw (.int .u16 0)], .a [.raw (.int .u64 0), .raw (.int .i64 0), .raw (.int .i64 0), .raw (.int .i64 2), .raw (.int .i64 0), .raw (.int .i64 0)]] (.t [.a [.raw (.int .u16 0), .raw (.int .i64 0), .raw (.bool false), .raw (.int .u32 0), .raw (.int .i64 0), .raw (.bool false), .raw (.bool false), .raw (.bool false), .raw (.bool false), .raw (.bool false), .raw (.int .i64 4), .raw (.int .i64 0), .raw (.int .i64 1), .raw (.int .u64 1), .raw (.int .u32 2), .raw (.int .u64 3), .raw (.int .u16 0), .raw (.int .i64 0), .raw (.int .i64 0), .raw (.int .i64 2), .raw (.int .i64 0)], .s (.raw (.bool true)), .s (.raw (.bool false))]) := by
  refine fun_of rfl fun X => ?_
  refine callK_inline (rs := [.cell 8 42, .tmp 9, .tmp 10]) (n := 47) Try.func18 rfl rfl rfl (by kernel_rfl) (by kernel_rfl) (by simp only [List.length_cons, List.length_nil]; decide) ?_
  repeat' first
    | with_reducible rfl
    | simp only [*, e_nil, e_cons, e_gd, e_gdt, e_gdf, e_g0, e_g1, e_op, e_step, e_ret, e_put, e_junk, e_skip, e_reg, e_draw, e_seq, e_cond, e_block, e_exit, e_r, e_label, e_loop, q_sn, q_sr, q_se, q_bn, q_br, q_be, q_rr, q_rn, e_res0, e_res1, e_res2, e_b, d_nil, d_cons, d_op, d_step, d_ret, d_put, d_junk, d_inf, d_fin, g_not, g_and, argsTM, stepE, stBuiltin, stBox, stAlloc, stLoad, stStore, stField, stExtract, stBin, stUn, stConv, stNilCheck, stFieldV, stIndex, stIndexAddr, stLen, stMin, stMax, stBuild, fillI, stBuildSlice, setRows, stMakeSlice, rd, get, put, IV.cells, ofValue, seg, spl, ldIV, binInt, eqI, cellsEq, leafEq, resI, flat, isT, upd, up1, nextM, cR, ptrC, nAl, isAl, List.length_cons, List.length_nil, List.length_append, List.length_replicate, List.length_set, Nat.reduceAdd, Nat.reduceMul, Nat.reduceEqDiff, Nat.reduceLeDiff, Nat.zero_add, Nat.add_zero, ne_eq, reduceCtorEq, not_false_eq_true, not_true_eq_false, reduceIte, true_and, and_true, and_false, false_and, and_self, List.nil_append, List.cons_append, List.append_nil, List.getElem?_cons_zero, List.getElem?_cons_succ, List.drop_succ_cons, List.drop_zero, List.take_succ_cons, List.take_zero, List.set_cons_zero, List.set_cons_succ, List.getElem?_toArray, Option.bind_some, Bool.false_eq_true, Nat.add_one_ne_zero, Nat.succ_ne_self, List.map_cons, List.map_nil, Bool.not_true, Bool.not_false, List.replicate_succ, List.replicate_zero, List.mem_cons, List.not_mem_nil, or_false, false_or, or_true, true_or, forall_const, false_implies, implies_true, true_implies, Int.reduceToNat, Int.reduceLE, Int.reduceLT, Int.cast_ofNat_Int, bne, Int.reduceEq, Int.reduceNe, Int.reduceNeg, Int.reduceAdd, Int.reduceSub, Int.reduceMul, beq_self_eq_true, Int.reduceBEq, Int.reduceBNe, Bool.true_and, Bool.false_and, Bool.and_true, Bool.and_false, Bool.true_or, Bool.false_or, Bool.or_true, Bool.or_false, Nat.reduceLT, Nat.reduceSub, Bool.not_eq_true', decide_true, decide_false, wl_u8_0, wl_u8_1, wl_u8_2, wl_u8_3, wl_u8_4, wl_u8_5, wl_u8_6, wl_u8_7, wl_u8_8, wl_u8_9, wl_u8_10, wl_u8_11, wl_u8_12, wl_u8_13, wl_u8_14, wl_u8_15, wl_u8_16, wl_u16_0, wl_u16_1, wl_u16_2, wl_u16_3, wl_u16_4, wl_u16_5, wl_u16_6, wl_u16_7, wl_u16_8, wl_u16_9, wl_u16_10, wl_u16_11, wl_u16_12, wl_u16_13, wl_u16_14, wl_u16_15, wl_u16_16, wl_u32_0, wl_u32_1, wl_u32_2, wl_u32_3, wl_u32_4, wl_u32_5, wl_u32_6, wl_u32_7, wl_u32_8, wl_u32_9, wl_u32_10, wl_u32_11, wl_u32_12, wl_u32_13, wl_u32_14, wl_u32_15, wl_u32_16, wl_u64_0, wl_u64_1, wl_u64_2, wl_u64_3, wl_u64_4, wl_u64_5, wl_u64_6, wl_u64_7, wl_u64_8, wl_u64_9, wl_u64_10, wl_u64_11, wl_u64_12, wl_u64_13, wl_u64_14, wl_u64_15, wl_u64_16, wl_i32_0, wl_i32_1, wl_i32_2, wl_i32_3, wl_i32_4, wl_i32_5, wl_i32_6, wl_i32_7, wl_i32_8, wl_i32_9, wl_i32_10, wl_i32_11, wl_i32_12, wl_i32_13, wl_i32_14, wl_i32_15, wl_i32_16, wl_i64_0, wl_i64_1, wl_i64_2, wl_i64_3, wl_i64_4, wl_i64_5, wl_i64_6, wl_i64_7, wl_i64_8, wl_i64_9, wl_i64_10, wl_i64_11, wl_i64_12, wl_i64_13, wl_i64_14, wl_i64_15, wl_i64_16, ty_ag_3, ty_ag_35, ty_ag_38, ty_ag_42, ty_eg_35, ty_lv_35, ty_of_38_3, ty_of_42_10, ty_of_42_11, ty_of_42_12, ty_of_42_13, ty_of_42_14, ty_of_42_7, ty_of_42_8, ty_of_42_9, ty_sz_3, ty_sz_35, ty_sz_38, ty_sz_4, ty_sz_42, ty_ze_42]
    | with_reducible refine g_eq (fun h => ?_) (fun h => ?_)
    | with_reducible refine gdb_split (fun h => ?_) (fun h => ?_)
    | (with_reducible refine drawK_id ?_); refine drawK_auto hmix (by kernel_rfl) ?_
    | (with_reducible refine draw_fin ?_ ?_); · kernel_rfl
    | (with_reducible refine draw_id ?_); kernel_rfl
    | (with_reducible refine callD_id (f := 45) ?_); refine callD_of (f45 _ _ _ _ _ _ _ _ _ _ _ _ _ _ _ _ _ _ _ _ _ _ _ _ _ _ _ _ _ _ _ _ _ _ _ _ _ _ _ _ _ _) rfl rfl ?_
    | (with_reducible refine callK_id (f := 37) ?_); refine callK_fun (f37 _ _ _ _ _ _ _ _ _ _ _ _ _ _ _ _ _ _ _ _ _) rfl rfl ?_
    | (with_reducible refine callK_id (f := 44) ?_); refine callK_inline (rs := [.cell 8 42, .tmp 9]) (n := 43) Try.func44 rfl rfl rfl (by kernel_rfl) (by kernel_rfl) (by simp only [List.length_cons, List.length_nil]; decide) ?_
theorem f15  : Fun Try.prog 15 [] (.s (.raw (.bool true))) := by
  refine fun_of rfl fun X => ?_
  refine callK_inline (rs := [.tmp 0]) (n := 49) Try.func15 rfl rfl rfl (by kernel_rfl) (by kernel_rfl) (by simp only [List.length_cons, List.length_nil]; decide) ?_
  repeat' first
    | with_reducible rfl
    | simp only [*, e_nil, e_cons, e_gd, e_gdt, e_gdf, e_g0, e_g1, e_op, e_step, e_ret, e_put, e_junk, e_skip, e_reg, e_draw, e_seq, e_cond, e_block, e_exit, e_r, e_label, e_loop, q_sn, q_sr, q_se, q_bn, q_br, q_be, q_rr, q_rn, e_res0, e_res1, e_res2, e_b, d_nil, d_cons, d_op, d_step, d_ret, d_put, d_junk, d_inf, d_fin, g_not, g_and, argsTM, stepE, stBuiltin, stBox, stAlloc, stLoad, stStore, stField, stExtract, stBin, stUn, stConv, stNilCheck, stFieldV, stIndex, stIndexAddr, stLen, stMin, stMax, stBuild, fillI, stBuildSlice, setRows, stMakeSlice, rd, get, put, IV.cells, ofValue, seg, spl, ldIV, binInt, eqI, cellsEq, leafEq, resI, flat, isT, upd, up1, nextM, cR, ptrC, nAl, isAl, List.length_cons, List.length_nil, List.length_append, List.length_replicate, List.length_set, Nat.reduceAdd, Nat.reduceMul, Nat.reduceEqDiff, Nat.reduceLeDiff, Nat.zero_add, Nat.add_zero, ne_eq, reduceCtorEq, not_false_eq_true, not_true_eq_false, reduceIte, true_and, and_true, and_false, false_and, and_self, List.nil_append, List.cons_append, List.append_nil, List.getElem?_cons_zero, List.getElem?_cons_succ, List.drop_succ_cons, List.drop_zero, List.take_succ_cons, List.take_zero, List.set_cons_zero, List.set_cons_succ, List.getElem?_toArray, Option.bind_some, Bool.false_eq_true, Nat.add_one_ne_zero, Nat.succ_ne_self, List.map_cons, List.map_nil, Bool.not_true, Bool.not_false, List.replicate_succ, List.replicate_zero, List.mem_cons, List.not_mem_nil, or_false, false_or, or_true, true_or, forall_const, false_implies, implies_true, true_implies, Int.reduceToNat, Int.reduceLE, Int.reduceLT, Int.cast_ofNat_Int, bne, Int.reduceEq, Int.reduceNe, Int.reduceNeg, Int.reduceAdd, Int.reduceSub, Int.reduceMul, beq_self_eq_true, Int.reduceBEq, Int.reduceBNe, Bool.true_and, Bool.false_and, Bool.and_true, Bool.and_false, Bool.true_or, Bool.false_or, Bool.or_true, Bool.or_false, Nat.reduceLT, Nat.reduceSub, Bool.not_eq_true', decide_true, decide_false, wl_u8_0, wl_u8_1, wl_u8_2, wl_u8_3, wl_u8_4, wl_u8_5, wl_u8_6, wl_u8_7, wl_u8_8, wl_u8_9, wl_u8_10, wl_u8_11, wl_u8_12, wl_u8_13, wl_u8_14, wl_u8_15, wl_u8_16, wl_u16_0, wl_u16_1, wl_u16_2, wl_u16_3, wl_u16_4, wl_u16_5, wl_u16_6, wl_u16_7, wl_u16_8, wl_u16_9, wl_u16_10, wl_u16_11, wl_u16_12, wl_u16_13, wl_u16_14, wl_u16_15, wl_u16_16, wl_u32_0, wl_u32_1, wl_u32_2, wl_u32_3, wl_u32_4, wl_u32_5, wl_u32_6, wl_u32_7, wl_u32_8, wl_u32_9, wl_u32_10, wl_u32_11, wl_u32_12, wl_u32_13, wl_u32_14, wl_u32_15, wl_u32_16, wl_u64_0, wl_u64_1, wl_u64_2, wl_u64_3, wl_u64_4, wl_u64_5, wl_u64_6, wl_u64_7, wl_u64_8, wl_u64_9, wl_u64_10, wl_u64_11, wl_u64_12, wl_u64_13, wl_u64_14, wl_u64_15, wl_u64_16, wl_i32_0, wl_i32_1, wl_i32_2, wl_i32_3, wl_i32_4, wl_i32_5, wl_i32_6, wl_i32_7, wl_i32_8, wl_i32_9, wl_i32_10, wl_i32_11, wl_i32_12, wl_i32_13, wl_i32_14, wl_i32_15, wl_i32_16, wl_i64_0, wl_i64_1, wl_i64_2, wl_i64_3, wl_i64_4, wl_i64_5, wl_i64_6, wl_i64_7, wl_i64_8, wl_i64_9, wl_i64_10, wl_i64_11, wl_i64_12, wl_i64_13, wl_i64_14, wl_i64_15, wl_i64_16, ty_ag_3, ty_ag_38, ty_ag_4, ty_ag_42, ty_of_42_10, ty_of_42_14, ty_of_42_7, ty_of_42_8, ty_of_42_9, ty_ok_23, ty_ok_38, ty_ok_42, ty_pl_23_0, ty_pl_23_1, ty_pl_23_2, ty_pl_38_3, ty_sz_3, ty_sz_38, ty_sz_4, ty_sz_42, ty_ze_23, ty_ze_38, ty_ze_42]
    | with_reducible refine g_eq (fun h => ?_) (fun h => ?_)
    | with_reducible refine gdb_split (fun h => ?_) (fun h => ?_)
    | (with_reducible refine drawK_id ?_); refine drawK_auto hmix (by kernel_rfl) ?_
    | (with_reducible refine draw_fin ?_ ?_); · kernel_rfl
    | (with_reducible refine draw_id ?_); kernel_rfl
    | (with_reducible refine callD_id (f := 45) ?_); refine callD_of (f45 _ _ _ _ _ _ _ _ _ _ _ _ _ _ _ _ _ _ _ _ _ _ _ _ _ _ _ _ _ _ _ _ _ _ _ _ _ _ _ _ _ _) rfl rfl ?_
    | (with_reducible refine callD_id (f := 16) ?_); refine callD_of (f16 _ _ _) rfl rfl ?_
    | (with_reducible refine callD_id (f := 18) ?_); refine callD_of (f18c) rfl rfl ?_
    | (with_reducible refine callK_id (f := 35) ?_); refine callK_inline (rs := [.cell 2 42, .tmp 3]) (n := 17) Try.func35 rfl rfl rfl (by kernel_rfl) (by kernel_rfl) (by simp only [List.length_cons, List.length_nil]; decide) ?_
end Go.Ev
