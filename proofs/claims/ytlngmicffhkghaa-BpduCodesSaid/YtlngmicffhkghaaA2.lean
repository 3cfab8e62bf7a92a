/- A part of the proof: contracts of the functions that the statement reaches. -/
import Derived.Test.YtlngmicffhkghaaA1
namespace Go.Ev
open Go.Proofs
set_option maxRecDepth 100000
set_option linter.unusedSimpArgs false
set_option linter.unusedVariables false
set_option maxHeartbeats 4000000
def makeI (p : Int) (m0 m1 m2 m3 m4 m5 : Int) : Int := bOr .u64 (shL .u64 (IntKind.u64.wrap p) 48) (intM m0 m1 m2 m3 m4 m5)
theorem f32 (p : Int) (m0 m1 m2 m3 m4 m5 : Int) : Fun Try.prog 32 [.s (.raw (.int .u16 p)), .a [.raw (.int .u8 m0), .raw (.int .u8 m1), .raw (.int .u8 m2), .raw (.int .u8 m3), .raw (.int .u8 m4), .raw (.int .u8 m5)]] (.s (.raw (.int .u64 (makeI p m0 m1 m2 m3 m4 m5)))) := by
  refine fun_of rfl fun X => ?_
  refine callK_inline (rs := [.tmp 4]) (n := 11) Try.func32 rfl rfl rfl (by kernel_rfl) (by kernel_rfl) (by simp only [List.length_cons, List.length_nil]; decide) ?_
  repeat' first
    | with_reducible rfl
    | simp only [makeI, e_nil, e_cons, e_gd, e_gdt, e_gdf, e_g0, e_g1, e_op, e_step, e_ret, e_put, e_junk, e_skip, e_reg, e_draw, e_seq, e_cond, e_block, e_exit, e_r, e_label, e_loop, q_sn, q_sr, q_se, q_bn, q_br, q_be, q_rr, q_rn, e_res0, e_res1, e_res2, e_b, d_nil, d_cons, d_op, d_step, d_ret, d_put, d_junk, d_inf, d_fin, g_not, g_and, argsTM, stepE, stBuiltin, stBox, stAlloc, stLoad, stStore, stField, stExtract, stBin, stUn, stConv, stNilCheck, stFieldV, stIndex, stIndexAddr, stLen, stMin, stMax, stBuild, fillI, stBuildSlice, setRows, stMakeSlice, stAppend, srcR, segR, rdCells, stSlice, bnd, stArr, stCopy, stConv2, isIntV, cutR, byteRows, rowByte, binStr, Option.map_some, Option.map_none, eq_self, canTL, canT, canH, canL, patL, gcH, gcT, gcI, get_gcT, mapC, pullS, pullI, pushS, push1, pushI, pushC, pullHW, roC, ix, List.map_map, Function.comp_def, List.zip_cons_cons, List.zip_nil_left, List.zip_nil_right, List.range'_zero, List.range'_succ, rd, get, put, IV.cells, ofValue, seg, spl, ldIV, binInt, eqI, cellsEq, leafEq, resI, flat, isT, upd, up1, nextM, cR, ptrC, nAl, isAl, List.length_cons, List.length_nil, List.length_append, List.length_replicate, List.length_set, Nat.reduceAdd, Nat.reduceMul, Nat.reduceEqDiff, Nat.reduceLeDiff, Nat.zero_add, Nat.add_zero, ne_eq, reduceCtorEq, not_false_eq_true, not_true_eq_false, reduceIte, true_and, and_true, and_false, false_and, and_self, List.nil_append, List.cons_append, List.append_nil, List.getElem?_cons_zero, List.getElem?_cons_succ, List.drop_succ_cons, List.drop_zero, List.take_succ_cons, List.take_zero, List.set_cons_zero, List.set_cons_succ, List.getElem?_toArray, Option.bind_some, Bool.false_eq_true, Nat.add_one_ne_zero, Nat.succ_ne_self, List.map_cons, List.map_nil, Bool.not_true, Bool.not_false, List.replicate_succ, List.replicate_zero, List.mem_cons, List.not_mem_nil, or_false, false_or, or_true, true_or, forall_const, false_implies, implies_true, true_implies, Int.reduceToNat, Int.reduceLE, Int.reduceLT, Int.cast_ofNat_Int, bne, Int.reduceEq, Int.reduceNe, Int.reduceNeg, Int.reduceAdd, Int.reduceSub, Int.reduceMul, beq_self_eq_true, Int.reduceBEq, Int.reduceBNe, Bool.true_and, Bool.false_and, Bool.and_true, Bool.and_false, Bool.true_or, Bool.false_or, Bool.or_true, Bool.or_false, Nat.reduceLT, Nat.reduceSub, Nat.zero_min, Nat.min_zero, Nat.min_self, List.flatMap_cons, List.flatMap_nil, Int.toNat_natCast, strEq_self, Bool.not_eq_true', decide_true, decide_false, wl_u8_0, wl_u8_1, wl_u8_2, wl_u8_3, wl_u8_4, wl_u8_5, wl_u8_6, wl_u8_7, wl_u8_8, wl_u8_9, wl_u8_10, wl_u8_11, wl_u8_12, wl_u8_13, wl_u8_14, wl_u8_15, wl_u8_16, wl_u16_0, wl_u16_1, wl_u16_2, wl_u16_3, wl_u16_4, wl_u16_5, wl_u16_6, wl_u16_7, wl_u16_8, wl_u16_9, wl_u16_10, wl_u16_11, wl_u16_12, wl_u16_13, wl_u16_14, wl_u16_15, wl_u16_16, wl_u32_0, wl_u32_1, wl_u32_2, wl_u32_3, wl_u32_4, wl_u32_5, wl_u32_6, wl_u32_7, wl_u32_8, wl_u32_9, wl_u32_10, wl_u32_11, wl_u32_12, wl_u32_13, wl_u32_14, wl_u32_15, wl_u32_16, wl_u64_0, wl_u64_1, wl_u64_2, wl_u64_3, wl_u64_4, wl_u64_5, wl_u64_6, wl_u64_7, wl_u64_8, wl_u64_9, wl_u64_10, wl_u64_11, wl_u64_12, wl_u64_13, wl_u64_14, wl_u64_15, wl_u64_16, wl_i32_0, wl_i32_1, wl_i32_2, wl_i32_3, wl_i32_4, wl_i32_5, wl_i32_6, wl_i32_7, wl_i32_8, wl_i32_9, wl_i32_10, wl_i32_11, wl_i32_12, wl_i32_13, wl_i32_14, wl_i32_15, wl_i32_16, wl_i64_0, wl_i64_1, wl_i64_2, wl_i64_3, wl_i64_4, wl_i64_5, wl_i64_6, wl_i64_7, wl_i64_8, wl_i64_9, wl_i64_10, wl_i64_11, wl_i64_12, wl_i64_13, wl_i64_14, wl_i64_15, wl_i64_16, Try.underlying22, Try.underlying40, ty_ag_50, ty_sz_50]
    | with_reducible refine gdb_split (fun h => ?_) (fun h => ?_)
    | (with_reducible refine drawK_id ?_); refine drawK_auto hmix (by kernel_rfl) ?_
    | (with_reducible refine draw_fin ?_ ?_); · kernel_rfl
    | (with_reducible refine draw_id ?_); kernel_rfl
    | (with_reducible refine callK_id (f := 24) ?_); refine callK_fun (f24 m0 m1 m2 m3 m4 m5) rfl rfl ?_
    | (with_reducible refine And.intro ?_ ?_; · omega)
def hexS : ByteArray := ⟨#[48, 49, 50, 51, 52, 53, 54, 55, 56, 57, 97, 98, 99, 100, 101, 102]⟩
theorem hex_fold : (⟨#[48, 49, 50, 51, 52, 53, 54, 55, 56, 57, 97, 98, 99, 100, 101, 102]⟩ : ByteArray) = hexS := rfl
theorem hex_size : hexS.size = 16 := rfl
def hs2 (m : Int) : ByteArray := ⟨#[UInt8.ofNat ((byteAt hexS (shR .u8 m 4).toNat)).toNat, UInt8.ofNat ((byteAt hexS (bAnd .u8 m 15).toNat)).toNat]⟩
theorem hs2_fold (m : Int) : (⟨#[UInt8.ofNat ((byteAt hexS (shR .u8 m 4).toNat)).toNat, UInt8.ofNat ((byteAt hexS (bAnd .u8 m 15).toNat)).toNat]⟩ : ByteArray) = hs2 m := rfl
def showC (m0 m1 m2 m3 m4 m5 : Int) : ByteArray := joinB [hs2 m0, hs2 m1, hs2 m2, hs2 m3, hs2 m4, hs2 m5] ⟨#[58]⟩
theorem and15 (m : Int) (h0 : 0 ≤ m) (h1 : m ≤ 255) : bAnd .u8 m 15 = m % 16 := by
  have key : ∀ k : Fin 256, bAnd .u8 ((k.val : Nat) : Int) 15 = ((k.val : Nat) : Int) % 16 := by decide +kernel
  have := key ⟨m.toNat, by omega⟩
  simpa [Int.toNat_of_nonneg h0] using this
theorem shr4 (m : Int) (h0 : 0 ≤ m) (h1 : m ≤ 255) : shR .u8 m 4 = m / 16 := by
  unfold shR
  rw [show (2 : Int) ^ (min (4 : Int).toNat IntKind.u8.bits) = 16 from by decide]
  exact Int.fdiv_eq_ediv_of_nonneg _ (by decide)
theorem f23 (m0 m1 m2 m3 m4 m5 : Int) (l0 : 0 ≤ m0) (u0 : m0 ≤ 255) (l1 : 0 ≤ m1) (u1 : m1 ≤ 255) (l2 : 0 ≤ m2) (u2 : m2 ≤ 255) (l3 : 0 ≤ m3) (u3 : m3 ≤ 255) (l4 : 0 ≤ m4) (u4 : m4 ≤ 255) (l5 : 0 ≤ m5) (u5 : m5 ≤ 255) : Fun Try.prog 23 [.a [.raw (.int .u8 m0), .raw (.int .u8 m1), .raw (.int .u8 m2), .raw (.int .u8 m3), .raw (.int .u8 m4), .raw (.int .u8 m5)]] (.s (.raw (.string (showC m0 m1 m2 m3 m4 m5)))) := by
  refine fun_of rfl fun X => ?_
  have fJ := f62 [hs2 m0, hs2 m1, hs2 m2, hs2 m3, hs2 m4, hs2 m5] ⟨#[58]⟩ (by simp) (by simp [Lib.join, List.intercalate, hs2])
  have a0 : 0 ≤ shR .u8 m0 4 := by rw [shr4 _ l0 u0]; omega
  have b0 : shR .u8 m0 4 < 16 := by rw [shr4 _ l0 u0]; omega
  have c0 : 0 ≤ bAnd .u8 m0 15 := by rw [and15 _ l0 u0]; omega
  have d0 : bAnd .u8 m0 15 < 16 := by rw [and15 _ l0 u0]; omega
  have a1 : 0 ≤ shR .u8 m1 4 := by rw [shr4 _ l1 u1]; omega
  have b1 : shR .u8 m1 4 < 16 := by rw [shr4 _ l1 u1]; omega
  have c1 : 0 ≤ bAnd .u8 m1 15 := by rw [and15 _ l1 u1]; omega
  have d1 : bAnd .u8 m1 15 < 16 := by rw [and15 _ l1 u1]; omega
  have a2 : 0 ≤ shR .u8 m2 4 := by rw [shr4 _ l2 u2]; omega
  have b2 : shR .u8 m2 4 < 16 := by rw [shr4 _ l2 u2]; omega
  have c2 : 0 ≤ bAnd .u8 m2 15 := by rw [and15 _ l2 u2]; omega
  have d2 : bAnd .u8 m2 15 < 16 := by rw [and15 _ l2 u2]; omega
  have a3 : 0 ≤ shR .u8 m3 4 := by rw [shr4 _ l3 u3]; omega
  have b3 : shR .u8 m3 4 < 16 := by rw [shr4 _ l3 u3]; omega
  have c3 : 0 ≤ bAnd .u8 m3 15 := by rw [and15 _ l3 u3]; omega
  have d3 : bAnd .u8 m3 15 < 16 := by rw [and15 _ l3 u3]; omega
  have a4 : 0 ≤ shR .u8 m4 4 := by rw [shr4 _ l4 u4]; omega
  have b4 : shR .u8 m4 4 < 16 := by rw [shr4 _ l4 u4]; omega
  have c4 : 0 ≤ bAnd .u8 m4 15 := by rw [and15 _ l4 u4]; omega
  have d4 : bAnd .u8 m4 15 < 16 := by rw [and15 _ l4 u4]; omega
  have a5 : 0 ≤ shR .u8 m5 4 := by rw [shr4 _ l5 u5]; omega
  have b5 : shR .u8 m5 4 < 16 := by rw [shr4 _ l5 u5]; omega
  have c5 : 0 ≤ bAnd .u8 m5 15 := by rw [and15 _ l5 u5]; omega
  have d5 : bAnd .u8 m5 15 < 16 := by rw [and15 _ l5 u5]; omega
  refine callK_inline (rs := [.tmp 2]) (n := 24) Try.func23 rfl rfl rfl (by kernel_rfl) (by kernel_rfl) (by simp only [List.length_cons, List.length_nil]; decide) ?_
  repeat' first
    | with_reducible rfl
    | simp only [e_loopN, hex_fold, hex_size, hs2_fold, a0, b0, c0, d0, a1, b1, c1, d1, a2, b2, c2, d2, a3, b3, c3, d3, a4, b4, c4, d4, a5, b5, c5, d5, e_nil, e_cons, e_gd, e_gdt, e_gdf, e_g0, e_g1, e_op, e_step, e_ret, e_put, e_junk, e_skip, e_reg, e_draw, e_seq, e_cond, e_block, e_exit, e_r, e_label, e_loop, q_sn, q_sr, q_se, q_bn, q_br, q_be, q_rr, q_rn, e_res0, e_res1, e_res2, e_b, d_nil, d_cons, d_op, d_step, d_ret, d_put, d_junk, d_inf, d_fin, g_not, g_and, argsTM, stepE, stBuiltin, stBox, stAlloc, stLoad, stStore, stField, stExtract, stBin, stUn, stConv, stNilCheck, stFieldV, stIndex, stIndexAddr, stLen, stMin, stMax, stBuild, fillI, stBuildSlice, setRows, stMakeSlice, stAppend, srcR, segR, rdCells, stSlice, bnd, stArr, stCopy, stConv2, isIntV, cutR, byteRows, rowByte, binStr, Option.map_some, Option.map_none, eq_self, canTL, canT, canH, canL, patL, gcH, gcT, gcI, get_gcT, mapC, pullS, pullI, pushS, push1, pushI, pushC, pullHW, roC, ix, List.map_map, Function.comp_def, List.zip_cons_cons, List.zip_nil_left, List.zip_nil_right, List.range'_zero, List.range'_succ, rd, get, put, IV.cells, ofValue, seg, spl, ldIV, binInt, eqI, cellsEq, leafEq, resI, flat, isT, upd, up1, nextM, cR, ptrC, nAl, isAl, List.length_cons, List.length_nil, List.length_append, List.length_replicate, List.length_set, Nat.reduceAdd, Nat.reduceMul, Nat.reduceEqDiff, Nat.reduceLeDiff, Nat.zero_add, Nat.add_zero, ne_eq, reduceCtorEq, not_false_eq_true, not_true_eq_false, reduceIte, true_and, and_true, and_false, false_and, and_self, List.nil_append, List.cons_append, List.append_nil, List.getElem?_cons_zero, List.getElem?_cons_succ, List.drop_succ_cons, List.drop_zero, List.take_succ_cons, List.take_zero, List.set_cons_zero, List.set_cons_succ, List.getElem?_toArray, Option.bind_some, Bool.false_eq_true, Nat.add_one_ne_zero, Nat.succ_ne_self, List.map_cons, List.map_nil, Bool.not_true, Bool.not_false, List.replicate_succ, List.replicate_zero, List.mem_cons, List.not_mem_nil, or_false, false_or, or_true, true_or, forall_const, false_implies, implies_true, true_implies, Int.reduceToNat, Int.reduceLE, Int.reduceLT, Int.cast_ofNat_Int, bne, Int.reduceEq, Int.reduceNe, Int.reduceNeg, Int.reduceAdd, Int.reduceSub, Int.reduceMul, beq_self_eq_true, Int.reduceBEq, Int.reduceBNe, Bool.true_and, Bool.false_and, Bool.and_true, Bool.and_false, Bool.true_or, Bool.false_or, Bool.or_true, Bool.or_false, Nat.reduceLT, Nat.reduceSub, Nat.zero_min, Nat.min_zero, Nat.min_self, List.flatMap_cons, List.flatMap_nil, Int.toNat_natCast, strEq_self, Bool.not_eq_true', decide_true, decide_false, wl_u8_0, wl_u8_1, wl_u8_2, wl_u8_3, wl_u8_4, wl_u8_5, wl_u8_6, wl_u8_7, wl_u8_8, wl_u8_9, wl_u8_10, wl_u8_11, wl_u8_12, wl_u8_13, wl_u8_14, wl_u8_15, wl_u8_16, wl_u16_0, wl_u16_1, wl_u16_2, wl_u16_3, wl_u16_4, wl_u16_5, wl_u16_6, wl_u16_7, wl_u16_8, wl_u16_9, wl_u16_10, wl_u16_11, wl_u16_12, wl_u16_13, wl_u16_14, wl_u16_15, wl_u16_16, wl_u32_0, wl_u32_1, wl_u32_2, wl_u32_3, wl_u32_4, wl_u32_5, wl_u32_6, wl_u32_7, wl_u32_8, wl_u32_9, wl_u32_10, wl_u32_11, wl_u32_12, wl_u32_13, wl_u32_14, wl_u32_15, wl_u32_16, wl_u64_0, wl_u64_1, wl_u64_2, wl_u64_3, wl_u64_4, wl_u64_5, wl_u64_6, wl_u64_7, wl_u64_8, wl_u64_9, wl_u64_10, wl_u64_11, wl_u64_12, wl_u64_13, wl_u64_14, wl_u64_15, wl_u64_16, wl_i32_0, wl_i32_1, wl_i32_2, wl_i32_3, wl_i32_4, wl_i32_5, wl_i32_6, wl_i32_7, wl_i32_8, wl_i32_9, wl_i32_10, wl_i32_11, wl_i32_12, wl_i32_13, wl_i32_14, wl_i32_15, wl_i32_16, wl_i64_0, wl_i64_1, wl_i64_2, wl_i64_3, wl_i64_4, wl_i64_5, wl_i64_6, wl_i64_7, wl_i64_8, wl_i64_9, wl_i64_10, wl_i64_11, wl_i64_12, wl_i64_13, wl_i64_14, wl_i64_15, wl_i64_16, ty_ag_50, ty_ar_50, ty_by_124, ty_ib_114, ty_sr_124, ty_st_9, ty_sz_50, ty_zs_114, ty_zs_124]
    | with_reducible refine gdb_split (fun h => ?_) (fun h => ?_)
    | (with_reducible refine drawK_id ?_); refine drawK_auto hmix (by kernel_rfl) ?_
    | (with_reducible refine draw_fin ?_ ?_); · kernel_rfl
    | (with_reducible refine draw_id ?_); kernel_rfl
    | (with_reducible refine loopK_id ?_); refine loopK_n 8 (by kernel_rfl) ?_
    | ((with_reducible refine callK_id (f := 62) ?_); refine callK_funR [23] (r := .s (.raw (.string (showC m0 m1 m2 m3 m4 m5)))) (by simpa [pullH, roC, pullS, pullI, ix, sC, showC] using fJ) rfl ?_)
    | (with_reducible refine And.intro ?_ ?_; · omega)
end Go.Ev
