/- A part of the proof: contracts of the functions that the statement reaches. -/
import Derived.Test.YtpapofdkcgopjaaT2
namespace Go.Ev
open Go.Proofs
set_option maxRecDepth 100000
set_option linter.unusedSimpArgs false
set_option maxHeartbeats 4000000
theorem law3 (x0 : Bool) (x1 : Bool) (x2 : Bool) (x3 : Bool) (x4 : Bool) (x5 : Int) (x6 : Int) (x7 : Int) (x8 : Int) (x9 : Int) (x10 : Int) (x11 : Int) (x12 : Int) (x13 : Int) (x14 : Int) (x15 : Int) (x16 : Int) (x17 : Int) (x18 : Int) (x19 : Int) : Fun Try.prog 3 [.a [.raw (.bool x0), .raw (.bool x1), .raw (.bool x2), .raw (.bool x3), .raw (.bool x4), .raw (.int .u8 x5), .raw (.int .u8 x6), .raw (.int .u8 x7), .raw (.int .u8 x8), .raw (.int .u8 x9), .raw (.int .u8 x10), .raw (.int .i32 x11), .raw (.int .i32 x12), .raw (.int .i32 x13), .raw (.int .i32 x14), .raw (.int .u8 x15), .raw (.int .u8 x16), .raw (.int .u8 x17), .raw (.int .u8 x18), .raw (.int .i64 x19)]] (.s (.raw (.bool true))) := by
  refine fun_of rfl fun X => ?_
  refine callK_inline (rs := [.tmp 2]) (n := 116) Try.func3 rfl rfl rfl (by kernel_rfl) (by kernel_rfl) (by simp only [List.length_cons, List.length_nil]; decide) ?_
  repeat' first
    | with_reducible rfl
    | simp only [*, e_nil, e_cons, e_gd, e_gdt, e_gdf, e_g0, e_g1, e_op, e_step, e_ret, e_put, e_junk, e_skip, e_reg, e_draw, e_seq, e_cond, e_block, e_exit, e_r, e_label, e_loop, q_sn, q_sr, q_se, q_bn, q_br, q_be, q_rr, q_rn, e_res0, e_res1, e_res2, e_b, d_nil, d_cons, d_op, d_step, d_ret, d_put, d_junk, d_inf, d_fin, g_not, g_and, argsTM, stepE, stBuiltin, stBox, stAlloc, stLoad, stStore, stField, stExtract, stBin, stUn, stConv, stNilCheck, stFieldV, stIndex, stIndexAddr, stLen, stMin, stMax, stBuild, fillI, stBuildSlice, setRows, stMakeSlice, rd, get, put, IV.cells, ofValue, seg, spl, ldIV, binInt, eqI, cellsEq, leafEq, resI, flat, isT, upd, up1, nextM, cR, ptrC, nAl, isAl, List.length_cons, List.length_nil, List.length_append, List.length_replicate, List.length_set, Nat.reduceAdd, Nat.reduceMul, Nat.reduceEqDiff, Nat.reduceLeDiff, Nat.zero_add, Nat.add_zero, ne_eq, reduceCtorEq, not_false_eq_true, not_true_eq_false, reduceIte, true_and, and_true, and_false, false_and, and_self, List.nil_append, List.cons_append, List.append_nil, List.getElem?_cons_zero, List.getElem?_cons_succ, List.drop_succ_cons, List.drop_zero, List.take_succ_cons, List.take_zero, List.set_cons_zero, List.set_cons_succ, List.getElem?_toArray, Option.bind_some, Bool.false_eq_true, Nat.add_one_ne_zero, Nat.succ_ne_self, List.map_cons, List.map_nil, Bool.not_true, Bool.not_false, List.replicate_succ, List.replicate_zero, List.mem_cons, List.not_mem_nil, or_false, false_or, or_true, true_or, forall_const, false_implies, implies_true, true_implies, Int.reduceToNat, Int.reduceLE, Int.reduceLT, Int.cast_ofNat_Int, bne, Int.reduceEq, Int.reduceNe, Int.reduceNeg, Int.reduceAdd, Int.reduceSub, Int.reduceMul, beq_self_eq_true, Int.reduceBEq, Int.reduceBNe, Bool.true_and, Bool.false_and, Bool.and_true, Bool.and_false, Bool.true_or, Bool.false_or, Bool.or_true, Bool.or_false, Nat.reduceLT, Nat.reduceSub, Bool.not_eq_true', Try.underlying3, Try.underlying4, Try.underlying5, ty_ag_23, ty_ag_26, ty_ag_3, ty_ag_35, ty_ag_38, ty_ag_4, ty_ag_42, ty_ag_5, ty_eg_35, ty_eg_42, ty_lv_35, ty_lv_42, ty_of_28_0, ty_of_28_1, ty_of_28_2, ty_of_28_3, ty_of_38_3, ty_of_42_10, ty_of_42_11, ty_of_42_12, ty_of_42_13, ty_of_42_14, ty_of_42_3, ty_of_42_6, ty_of_42_7, ty_of_42_8, ty_of_42_9, ty_ok_38, ty_pl_38_3, ty_sz_23, ty_sz_26, ty_sz_3, ty_sz_35, ty_sz_38, ty_sz_4, ty_sz_42, ty_sz_5, ty_ze_35, ty_ze_38, ty_ze_42]
    | with_reducible refine g_eq (fun h => ?_) (fun h => ?_)
    | with_reducible refine gdb_split (fun h => ?_) (fun h => ?_)
    | (with_reducible refine drawK_id ?_); refine drawK_auto hmix (by kernel_rfl) ?_
    | (with_reducible refine draw_fin ?_ ?_); · kernel_rfl
    | (with_reducible refine draw_id ?_); kernel_rfl
    | (with_reducible refine callD_id (f := 16) ?_); refine callD_of (f16 _ _ _) rfl rfl ?_
    | (with_reducible refine callD_id (f := 45) ?_); refine callD_of (f45 _ _ _ _ _ _ _ _ _ _ _ _ _ _ _ _ _ _ _ _ _ _ _ _ _ _ _ _ _ _ _ _ _ _ _ _ _ _ _ _ _ _) rfl rfl ?_
    | (with_reducible refine callK_id (f := 37) ?_); refine callK_fun (f37 _ _ _ _ _ _ _ _ _ _ _ _ _ _ _ _ _ _ _ _ _) rfl rfl ?_
    | (with_reducible refine callK_id (f := 15) ?_); refine callK_fun (f15) rfl rfl ?_
    | (with_reducible refine callK_id (f := 17) ?_); refine callK_fun (f17 _ _ _ _ _ _ _ _ _ _ _ _ _ _ _) rfl rfl ?_
    | (with_reducible refine callK_id (f := 18) ?_); refine callK_inline (rs := [.cell 8 42, .tmp 9, .tmp 10]) (n := 47) Try.func18 rfl rfl rfl (by kernel_rfl) (by kernel_rfl) (by simp only [List.length_cons, List.length_nil]; decide) ?_
    | (with_reducible refine callK_id (f := 44) ?_); refine callK_inline (rs := [.cell 8 42, .tmp 9]) (n := 43) Try.func44 rfl rfl rfl (by kernel_rfl) (by kernel_rfl) (by simp only [List.length_cons, List.length_nil]; decide) ?_
end Go.Ev
