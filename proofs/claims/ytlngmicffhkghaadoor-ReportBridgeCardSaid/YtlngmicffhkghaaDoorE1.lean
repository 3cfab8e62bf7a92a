/- A part of the proof: contracts of the functions that the statement reaches. -/
import Derived.Test.YtlngmicffhkghaaDoorD6
import Derived.Test.YtlngmicffhkghaaDoorEvTab2
namespace Go.Ev
open Go.Proofs
set_option maxRecDepth 100000
set_option linter.unusedSimpArgs false
set_option linter.unusedVariables false
set_option maxHeartbeats 4000000
theorem size_l (l : List UInt8) : (⟨l.toArray⟩ : ByteArray).size = l.length := by simp [ByteArray.size]
def dig (n : Int) : Int := if decide (n < 10) then IntKind.u8.wrap (48 + n) else IntKind.u8.wrap (87 + n)
theorem f21 (n : Int) : Fun Tryd.prog 21 [.s (.raw (.int .u8 n))] (.s (.raw (.int .u8 (dig n)))) := by
  refine fun_of rfl fun X => ?_
  refine callK_inline (rs := [.tmp 2]) (n := 9) Tryd.func21 rfl rfl rfl (by kernel_rfl) (by kernel_rfl) (by simp only [List.length_cons, List.length_nil]; decide) ?_
  repeat' first
    | with_reducible rfl
    | simp only [*, dig, e_nil, e_cons, e_gd, e_gdt, e_gdf, e_g0, e_g1, e_op, e_step, e_ret, e_put, e_junk, e_skip, e_reg, e_draw, e_seq, e_cond, e_block, e_exit, e_r, e_label, e_loop, q_sn, q_sr, q_se, q_bn, q_br, q_be, q_rr, q_rn, e_res0, e_res1, e_res2, e_b, d_nil, d_cons, d_op, d_step, d_ret, d_put, d_junk, d_inf, d_fin, g_not, g_and, argsTM, stepE, stBuiltin, stBox, stAlloc, stLoad, stStore, stField, stExtract, stBin, stUn, stConv, stNilCheck, stFieldV, stIndex, stIndexAddr, stLen, stMin, stMax, stBuild, fillI, stBuildSlice, setRows, stMakeSlice, stAppend, srcR, segR, rdCells, stSlice, bnd, stArr, stCopy, stConv2, isIntV, cutR, byteRows, rowByte, binStr, Option.map_some, Option.map_none, eq_self, canTL, canT, canH, canL, patL, gcH, gcT, gcI, get_gcT, mapC, pullS, pullI, pushS, push1, pushI, pushC, pullHW, roC, ix, List.map_map, Function.comp_def, List.zip_cons_cons, List.zip_nil_left, List.zip_nil_right, List.range'_zero, List.range'_succ, rd, get, put, IV.cells, ofValue, seg, spl, ldIV, binInt, eqI, cellsEq, leafEq, resI, flat, isT, upd, up1, nextM, cR, ptrC, nAl, isAl, List.length_cons, List.length_nil, List.length_append, List.length_replicate, List.length_set, Nat.reduceAdd, Nat.reduceMul, Nat.reduceEqDiff, Nat.reduceLeDiff, Nat.zero_add, Nat.add_zero, ne_eq, reduceCtorEq, not_false_eq_true, not_true_eq_false, reduceIte, true_and, and_true, and_false, false_and, and_self, List.nil_append, List.cons_append, List.append_nil, List.getElem?_cons_zero, List.getElem?_cons_succ, List.drop_succ_cons, List.drop_zero, List.take_succ_cons, List.take_zero, List.set_cons_zero, List.set_cons_succ, List.getElem?_toArray, Option.bind_some, Bool.false_eq_true, Nat.add_one_ne_zero, Nat.succ_ne_self, List.map_cons, List.map_nil, Bool.not_true, Bool.not_false, List.replicate_succ, List.replicate_zero, List.mem_cons, List.not_mem_nil, or_false, false_or, or_true, true_or, forall_const, false_implies, implies_true, true_implies, Int.reduceToNat, Int.reduceLE, Int.reduceLT, Int.cast_ofNat_Int, bne, Int.reduceEq, Int.reduceNe, Int.reduceNeg, Int.reduceAdd, Int.reduceSub, Int.reduceMul, beq_self_eq_true, Int.reduceBEq, Int.reduceBNe, Bool.true_and, Bool.false_and, Bool.and_true, Bool.and_false, Bool.true_or, Bool.false_or, Bool.or_true, Bool.or_false, Nat.reduceLT, Nat.reduceSub, Nat.zero_min, Nat.min_zero, Nat.min_self, List.flatMap_cons, List.flatMap_nil, Int.toNat_natCast, strEq_self, Bool.not_eq_true', decide_true, decide_false, wl_u8_0, wl_u8_1, wl_u8_2, wl_u8_3, wl_u8_4, wl_u8_5, wl_u8_6, wl_u8_7, wl_u8_8, wl_u8_9, wl_u8_10, wl_u8_11, wl_u8_12, wl_u8_13, wl_u8_14, wl_u8_15, wl_u8_16, wl_u16_0, wl_u16_1, wl_u16_2, wl_u16_3, wl_u16_4, wl_u16_5, wl_u16_6, wl_u16_7, wl_u16_8, wl_u16_9, wl_u16_10, wl_u16_11, wl_u16_12, wl_u16_13, wl_u16_14, wl_u16_15, wl_u16_16, wl_u32_0, wl_u32_1, wl_u32_2, wl_u32_3, wl_u32_4, wl_u32_5, wl_u32_6, wl_u32_7, wl_u32_8, wl_u32_9, wl_u32_10, wl_u32_11, wl_u32_12, wl_u32_13, wl_u32_14, wl_u32_15, wl_u32_16, wl_u64_0, wl_u64_1, wl_u64_2, wl_u64_3, wl_u64_4, wl_u64_5, wl_u64_6, wl_u64_7, wl_u64_8, wl_u64_9, wl_u64_10, wl_u64_11, wl_u64_12, wl_u64_13, wl_u64_14, wl_u64_15, wl_u64_16, wl_i32_0, wl_i32_1, wl_i32_2, wl_i32_3, wl_i32_4, wl_i32_5, wl_i32_6, wl_i32_7, wl_i32_8, wl_i32_9, wl_i32_10, wl_i32_11, wl_i32_12, wl_i32_13, wl_i32_14, wl_i32_15, wl_i32_16, wl_i64_0, wl_i64_1, wl_i64_2, wl_i64_3, wl_i64_4, wl_i64_5, wl_i64_6, wl_i64_7, wl_i64_8, wl_i64_9, wl_i64_10, wl_i64_11, wl_i64_12, wl_i64_13, wl_i64_14, wl_i64_15, wl_i64_16, ]
    | with_reducible refine g_eq (fun h => ?_) (fun h => ?_)
    | with_reducible refine gdb_split (fun h => ?_) (fun h => ?_)
    | (with_reducible refine drawK_id ?_); refine drawK_auto hmix (by kernel_rfl) ?_
    | (with_reducible refine draw_fin ?_ ?_); · kernel_rfl
    | (with_reducible refine draw_id ?_); kernel_rfl
    | (with_reducible refine And.intro ?_ ?_; · omega)
def prioI (d : Int) : Int := IntKind.u16.wrap (shR .u64 d 48)
theorem f24 (d : Int) : Fun Tryd.prog 24 [.s (.raw (.int .u64 d))] (.s (.raw (.int .u16 (prioI d)))) := by
  refine fun_of rfl fun X => ?_
  refine callK_inline (rs := [.tmp 2]) (n := 6) Tryd.func24 rfl rfl rfl (by kernel_rfl) (by kernel_rfl) (by simp only [List.length_cons, List.length_nil]; decide) ?_
  repeat' first
    | with_reducible rfl
    | simp only [prioI, e_nil, e_cons, e_gd, e_gdt, e_gdf, e_g0, e_g1, e_op, e_step, e_ret, e_put, e_junk, e_skip, e_reg, e_draw, e_seq, e_cond, e_block, e_exit, e_r, e_label, e_loop, q_sn, q_sr, q_se, q_bn, q_br, q_be, q_rr, q_rn, e_res0, e_res1, e_res2, e_b, d_nil, d_cons, d_op, d_step, d_ret, d_put, d_junk, d_inf, d_fin, g_not, g_and, argsTM, stepE, stBuiltin, stBox, stAlloc, stLoad, stStore, stField, stExtract, stBin, stUn, stConv, stNilCheck, stFieldV, stIndex, stIndexAddr, stLen, stMin, stMax, stBuild, fillI, stBuildSlice, setRows, stMakeSlice, stAppend, srcR, segR, rdCells, stSlice, bnd, stArr, stCopy, stConv2, isIntV, cutR, byteRows, rowByte, binStr, Option.map_some, Option.map_none, eq_self, canTL, canT, canH, canL, patL, gcH, gcT, gcI, get_gcT, mapC, pullS, pullI, pushS, push1, pushI, pushC, pullHW, roC, ix, List.map_map, Function.comp_def, List.zip_cons_cons, List.zip_nil_left, List.zip_nil_right, List.range'_zero, List.range'_succ, rd, get, put, IV.cells, ofValue, seg, spl, ldIV, binInt, eqI, cellsEq, leafEq, resI, flat, isT, upd, up1, nextM, cR, ptrC, nAl, isAl, List.length_cons, List.length_nil, List.length_append, List.length_replicate, List.length_set, Nat.reduceAdd, Nat.reduceMul, Nat.reduceEqDiff, Nat.reduceLeDiff, Nat.zero_add, Nat.add_zero, ne_eq, reduceCtorEq, not_false_eq_true, not_true_eq_false, reduceIte, true_and, and_true, and_false, false_and, and_self, List.nil_append, List.cons_append, List.append_nil, List.getElem?_cons_zero, List.getElem?_cons_succ, List.drop_succ_cons, List.drop_zero, List.take_succ_cons, List.take_zero, List.set_cons_zero, List.set_cons_succ, List.getElem?_toArray, Option.bind_some, Bool.false_eq_true, Nat.add_one_ne_zero, Nat.succ_ne_self, List.map_cons, List.map_nil, Bool.not_true, Bool.not_false, List.replicate_succ, List.replicate_zero, List.mem_cons, List.not_mem_nil, or_false, false_or, or_true, true_or, forall_const, false_implies, implies_true, true_implies, Int.reduceToNat, Int.reduceLE, Int.reduceLT, Int.cast_ofNat_Int, bne, Int.reduceEq, Int.reduceNe, Int.reduceNeg, Int.reduceAdd, Int.reduceSub, Int.reduceMul, beq_self_eq_true, Int.reduceBEq, Int.reduceBNe, Bool.true_and, Bool.false_and, Bool.and_true, Bool.and_false, Bool.true_or, Bool.false_or, Bool.or_true, Bool.or_false, Nat.reduceLT, Nat.reduceSub, Nat.zero_min, Nat.min_zero, Nat.min_self, List.flatMap_cons, List.flatMap_nil, Int.toNat_natCast, strEq_self, Bool.not_eq_true', decide_true, decide_false, wl_u8_0, wl_u8_1, wl_u8_2, wl_u8_3, wl_u8_4, wl_u8_5, wl_u8_6, wl_u8_7, wl_u8_8, wl_u8_9, wl_u8_10, wl_u8_11, wl_u8_12, wl_u8_13, wl_u8_14, wl_u8_15, wl_u8_16, wl_u16_0, wl_u16_1, wl_u16_2, wl_u16_3, wl_u16_4, wl_u16_5, wl_u16_6, wl_u16_7, wl_u16_8, wl_u16_9, wl_u16_10, wl_u16_11, wl_u16_12, wl_u16_13, wl_u16_14, wl_u16_15, wl_u16_16, wl_u32_0, wl_u32_1, wl_u32_2, wl_u32_3, wl_u32_4, wl_u32_5, wl_u32_6, wl_u32_7, wl_u32_8, wl_u32_9, wl_u32_10, wl_u32_11, wl_u32_12, wl_u32_13, wl_u32_14, wl_u32_15, wl_u32_16, wl_u64_0, wl_u64_1, wl_u64_2, wl_u64_3, wl_u64_4, wl_u64_5, wl_u64_6, wl_u64_7, wl_u64_8, wl_u64_9, wl_u64_10, wl_u64_11, wl_u64_12, wl_u64_13, wl_u64_14, wl_u64_15, wl_u64_16, wl_i32_0, wl_i32_1, wl_i32_2, wl_i32_3, wl_i32_4, wl_i32_5, wl_i32_6, wl_i32_7, wl_i32_8, wl_i32_9, wl_i32_10, wl_i32_11, wl_i32_12, wl_i32_13, wl_i32_14, wl_i32_15, wl_i32_16, wl_i64_0, wl_i64_1, wl_i64_2, wl_i64_3, wl_i64_4, wl_i64_5, wl_i64_6, wl_i64_7, wl_i64_8, wl_i64_9, wl_i64_10, wl_i64_11, wl_i64_12, wl_i64_13, wl_i64_14, wl_i64_15, wl_i64_16, Tryd.underlying38, Tryd.underlying55]
    | with_reducible refine g_eq (fun h => ?_) (fun h => ?_)
    | with_reducible refine gdb_split (fun h => ?_) (fun h => ?_)
    | (with_reducible refine drawK_id ?_); refine drawK_auto hmix (by kernel_rfl) ?_
    | (with_reducible refine draw_fin ?_ ?_); · kernel_rfl
    | (with_reducible refine draw_id ?_); kernel_rfl
    | (with_reducible refine And.intro ?_ ?_; · omega)
def hexS : ByteArray := ⟨#[48, 49, 50, 51, 52, 53, 54, 55, 56, 57, 97, 98, 99, 100, 101, 102]⟩
theorem hex_fold : (⟨#[48, 49, 50, 51, 52, 53, 54, 55, 56, 57, 97, 98, 99, 100, 101, 102]⟩ : ByteArray) = hexS := rfl
theorem hex_size : hexS.size = 16 := rfl
def hs2 (m : Int) : ByteArray := ⟨#[UInt8.ofNat ((byteAt hexS (shR .u8 m 4).toNat)).toNat, UInt8.ofNat ((byteAt hexS (bAnd .u8 m 15).toNat)).toNat]⟩
theorem hs2_fold (m : Int) : (⟨#[UInt8.ofNat ((byteAt hexS (shR .u8 m 4).toNat)).toNat, UInt8.ofNat ((byteAt hexS (bAnd .u8 m 15).toNat)).toNat]⟩ : ByteArray) = hs2 m := rfl
def showC (m0 m1 m2 m3 m4 m5 : Int) : ByteArray := joinB [hs2 m0, hs2 m1, hs2 m2, hs2 m3, hs2 m4, hs2 m5] ⟨#[58]⟩
theorem and15 (m : Int) (h0 : 0 ≤ m) (h1 : m ≤ 255) : bAnd .u8 m 15 = m % 16 := by
  have key : ∀ k : Fin 256, bAnd .u8 ((k.val : Nat) : Int) 15 = ((k.val : Nat) : Int) % 16 := by decide +kernel
  have := key ⟨m.toNat, by omega⟩
  simpa [Int.toNat_of_nonneg h0] using this
theorem shr4 (m : Int) (h0 : 0 ≤ m) (h1 : m ≤ 255) : shR .u8 m 4 = m / 16 := by
  unfold shR
  rw [show (2 : Int) ^ (min (4 : Int).toNat IntKind.u8.bits) = 16 from by decide]
  exact Int.fdiv_eq_ediv_of_nonneg _ (by decide)
theorem f26 (m0 m1 m2 m3 m4 m5 : Int) (l0 : 0 ≤ m0) (u0 : m0 ≤ 255) (l1 : 0 ≤ m1) (u1 : m1 ≤ 255) (l2 : 0 ≤ m2) (u2 : m2 ≤ 255) (l3 : 0 ≤ m3) (u3 : m3 ≤ 255) (l4 : 0 ≤ m4) (u4 : m4 ≤ 255) (l5 : 0 ≤ m5) (u5 : m5 ≤ 255) : Fun Tryd.prog 26 [.a [.raw (.int .u8 m0), .raw (.int .u8 m1), .raw (.int .u8 m2), .raw (.int .u8 m3), .raw (.int .u8 m4), .raw (.int .u8 m5)]] (.s (.raw (.string (showC m0 m1 m2 m3 m4 m5)))) := by
  refine fun_of rfl fun X => ?_
  have fJ := f20 [hs2 m0, hs2 m1, hs2 m2, hs2 m3, hs2 m4, hs2 m5] ⟨#[58]⟩ (by simp) (by simp [Lib.join, List.intercalate, hs2])
  have a0 : 0 ≤ shR .u8 m0 4 := by rw [shr4 _ l0 u0]; omega
  have b0 : shR .u8 m0 4 < 16 := by rw [shr4 _ l0 u0]; omega
  have c0 : 0 ≤ bAnd .u8 m0 15 := by rw [and15 _ l0 u0]; omega
  have d0 : bAnd .u8 m0 15 < 16 := by rw [and15 _ l0 u0]; omega
  have a1 : 0 ≤ shR .u8 m1 4 := by rw [shr4 _ l1 u1]; omega
  have b1 : shR .u8 m1 4 < 16 := by rw [shr4 _ l1 u1]; omega
  have c1 : 0 ≤ bAnd .u8 m1 15 := by rw [and15 _ l1 u1]; omega
  have d1 : bAnd .u8 m1 15 < 16 := by rw [and15 _ l1 u1]; omega
  have a2 : 0 ≤ shR .u8 m2 4 := by rw [shr4 _ l2 u2]; omega
  have b2 : shR .u8 m2 4 < 16 := by rw [shr4 _ l2 u2]; omega
  have c2 : 0 ≤ bAnd .u8 m2 15 := by rw [and15 _ l2 u2]; omega
  have d2 : bAnd .u8 m2 15 < 16 := by rw [and15 _ l2 u2]; omega
  have a3 : 0 ≤ shR .u8 m3 4 := by rw [shr4 _ l3 u3]; omega
  have b3 : shR .u8 m3 4 < 16 := by rw [shr4 _ l3 u3]; omega
  have c3 : 0 ≤ bAnd .u8 m3 15 := by rw [and15 _ l3 u3]; omega
  have d3 : bAnd .u8 m3 15 < 16 := by rw [and15 _ l3 u3]; omega
  have a4 : 0 ≤ shR .u8 m4 4 := by rw [shr4 _ l4 u4]; omega
  have b4 : shR .u8 m4 4 < 16 := by rw [shr4 _ l4 u4]; omega
  have c4 : 0 ≤ bAnd .u8 m4 15 := by rw [and15 _ l4 u4]; omega
  have d4 : bAnd .u8 m4 15 < 16 := by rw [and15 _ l4 u4]; omega
  have a5 : 0 ≤ shR .u8 m5 4 := by rw [shr4 _ l5 u5]; omega
  have b5 : shR .u8 m5 4 < 16 := by rw [shr4 _ l5 u5]; omega
  have c5 : 0 ≤ bAnd .u8 m5 15 := by rw [and15 _ l5 u5]; omega
  have d5 : bAnd .u8 m5 15 < 16 := by rw [and15 _ l5 u5]; omega
  refine callK_inline (rs := [.tmp 2]) (n := 24) Tryd.func26 rfl rfl rfl (by kernel_rfl) (by kernel_rfl) (by simp only [List.length_cons, List.length_nil]; decide) ?_
  repeat' first
    | with_reducible rfl
    | simp only [e_loopN, hex_fold, hex_size, hs2_fold, a0, b0, c0, d0, a1, b1, c1, d1, a2, b2, c2, d2, a3, b3, c3, d3, a4, b4, c4, d4, a5, b5, c5, d5, e_nil, e_cons, e_gd, e_gdt, e_gdf, e_g0, e_g1, e_op, e_step, e_ret, e_put, e_junk, e_skip, e_reg, e_draw, e_seq, e_cond, e_block, e_exit, e_r, e_label, e_loop, q_sn, q_sr, q_se, q_bn, q_br, q_be, q_rr, q_rn, e_res0, e_res1, e_res2, e_b, d_nil, d_cons, d_op, d_step, d_ret, d_put, d_junk, d_inf, d_fin, g_not, g_and, argsTM, stepE, stBuiltin, stBox, stAlloc, stLoad, stStore, stField, stExtract, stBin, stUn, stConv, stNilCheck, stFieldV, stIndex, stIndexAddr, stLen, stMin, stMax, stBuild, fillI, stBuildSlice, setRows, stMakeSlice, stAppend, srcR, segR, rdCells, stSlice, bnd, stArr, stCopy, stConv2, isIntV, cutR, byteRows, rowByte, binStr, Option.map_some, Option.map_none, eq_self, canTL, canT, canH, canL, patL, gcH, gcT, gcI, get_gcT, mapC, pullS, pullI, pushS, push1, pushI, pushC, pullHW, roC, ix, List.map_map, Function.comp_def, List.zip_cons_cons, List.zip_nil_left, List.zip_nil_right, List.range'_zero, List.range'_succ, rd, get, put, IV.cells, ofValue, seg, spl, ldIV, binInt, eqI, cellsEq, leafEq, resI, flat, isT, upd, up1, nextM, cR, ptrC, nAl, isAl, List.length_cons, List.length_nil, List.length_append, List.length_replicate, List.length_set, Nat.reduceAdd, Nat.reduceMul, Nat.reduceEqDiff, Nat.reduceLeDiff, Nat.zero_add, Nat.add_zero, ne_eq, reduceCtorEq, not_false_eq_true, not_true_eq_false, reduceIte, true_and, and_true, and_false, false_and, and_self, List.nil_append, List.cons_append, List.append_nil, List.getElem?_cons_zero, List.getElem?_cons_succ, List.drop_succ_cons, List.drop_zero, List.take_succ_cons, List.take_zero, List.set_cons_zero, List.set_cons_succ, List.getElem?_toArray, Option.bind_some, Bool.false_eq_true, Nat.add_one_ne_zero, Nat.succ_ne_self, List.map_cons, List.map_nil, Bool.not_true, Bool.not_false, List.replicate_succ, List.replicate_zero, List.mem_cons, List.not_mem_nil, or_false, false_or, or_true, true_or, forall_const, false_implies, implies_true, true_implies, Int.reduceToNat, Int.reduceLE, Int.reduceLT, Int.cast_ofNat_Int, bne, Int.reduceEq, Int.reduceNe, Int.reduceNeg, Int.reduceAdd, Int.reduceSub, Int.reduceMul, beq_self_eq_true, Int.reduceBEq, Int.reduceBNe, Bool.true_and, Bool.false_and, Bool.and_true, Bool.and_false, Bool.true_or, Bool.false_or, Bool.or_true, Bool.or_false, Nat.reduceLT, Nat.reduceSub, Nat.zero_min, Nat.min_zero, Nat.min_self, List.flatMap_cons, List.flatMap_nil, Int.toNat_natCast, strEq_self, Bool.not_eq_true', decide_true, decide_false, wl_u8_0, wl_u8_1, wl_u8_2, wl_u8_3, wl_u8_4, wl_u8_5, wl_u8_6, wl_u8_7, wl_u8_8, wl_u8_9, wl_u8_10, wl_u8_11, wl_u8_12, wl_u8_13, wl_u8_14, wl_u8_15, wl_u8_16, wl_u16_0, wl_u16_1, wl_u16_2, wl_u16_3, wl_u16_4, wl_u16_5, wl_u16_6, wl_u16_7, wl_u16_8, wl_u16_9, wl_u16_10, wl_u16_11, wl_u16_12, wl_u16_13, wl_u16_14, wl_u16_15, wl_u16_16, wl_u32_0, wl_u32_1, wl_u32_2, wl_u32_3, wl_u32_4, wl_u32_5, wl_u32_6, wl_u32_7, wl_u32_8, wl_u32_9, wl_u32_10, wl_u32_11, wl_u32_12, wl_u32_13, wl_u32_14, wl_u32_15, wl_u32_16, wl_u64_0, wl_u64_1, wl_u64_2, wl_u64_3, wl_u64_4, wl_u64_5, wl_u64_6, wl_u64_7, wl_u64_8, wl_u64_9, wl_u64_10, wl_u64_11, wl_u64_12, wl_u64_13, wl_u64_14, wl_u64_15, wl_u64_16, wl_i32_0, wl_i32_1, wl_i32_2, wl_i32_3, wl_i32_4, wl_i32_5, wl_i32_6, wl_i32_7, wl_i32_8, wl_i32_9, wl_i32_10, wl_i32_11, wl_i32_12, wl_i32_13, wl_i32_14, wl_i32_15, wl_i32_16, wl_i64_0, wl_i64_1, wl_i64_2, wl_i64_3, wl_i64_4, wl_i64_5, wl_i64_6, wl_i64_7, wl_i64_8, wl_i64_9, wl_i64_10, wl_i64_11, wl_i64_12, wl_i64_13, wl_i64_14, wl_i64_15, wl_i64_16, ty_ag_74, ty_ar_74, ty_by_52, ty_ib_67, ty_sr_52, ty_st_9, ty_sz_74, ty_zs_52, ty_zs_67]
    | with_reducible refine gdb_split (fun h => ?_) (fun h => ?_)
    | (with_reducible refine drawK_id ?_); refine drawK_auto hmix (by kernel_rfl) ?_
    | (with_reducible refine draw_fin ?_ ?_); · kernel_rfl
    | (with_reducible refine draw_id ?_); kernel_rfl
    | (with_reducible refine loopK_id ?_); refine loopK_n 8 (by kernel_rfl) ?_
    | ((with_reducible refine callK_id (f := 20) ?_); refine callK_funR [23] (r := .s (.raw (.string (showC m0 m1 m2 m3 m4 m5)))) (by simpa [pullH, roC, pullS, pullI, ix, sC, showC] using fJ) rfl ?_)
    | (with_reducible refine And.intro ?_ ?_; · omega)
def showR (m0 m1 m2 m3 m4 m5 : Int) : ByteArray := ⟨#[UInt8.ofNat ((dig (IntKind.u8.wrap (Int.tdiv m0 16)))).toNat, UInt8.ofNat ((dig (Int.tmod m0 16))).toNat, UInt8.ofNat ((58 : Int)).toNat, UInt8.ofNat ((dig (IntKind.u8.wrap (Int.tdiv m1 16)))).toNat, UInt8.ofNat ((dig (Int.tmod m1 16))).toNat, UInt8.ofNat ((58 : Int)).toNat, UInt8.ofNat ((dig (IntKind.u8.wrap (Int.tdiv m2 16)))).toNat, UInt8.ofNat ((dig (Int.tmod m2 16))).toNat, UInt8.ofNat ((58 : Int)).toNat, UInt8.ofNat ((dig (IntKind.u8.wrap (Int.tdiv m3 16)))).toNat, UInt8.ofNat ((dig (Int.tmod m3 16))).toNat, UInt8.ofNat ((58 : Int)).toNat, UInt8.ofNat ((dig (IntKind.u8.wrap (Int.tdiv m4 16)))).toNat, UInt8.ofNat ((dig (Int.tmod m4 16))).toNat, UInt8.ofNat ((58 : Int)).toNat, UInt8.ofNat ((dig (IntKind.u8.wrap (Int.tdiv m5 16)))).toNat, UInt8.ofNat ((dig (Int.tmod m5 16))).toNat]⟩
theorem f15 (m0 m1 m2 m3 m4 m5 : Int) : Fun Tryd.prog 15 [.a [.raw (.int .u8 m0), .raw (.int .u8 m1), .raw (.int .u8 m2), .raw (.int .u8 m3), .raw (.int .u8 m4), .raw (.int .u8 m5)]] (.s (.raw (.string (showR m0 m1 m2 m3 m4 m5)))) := by
  refine fun_of rfl fun X => ?_
  refine callK_inline (rs := [.tmp 2]) (n := 29) Tryd.func15 rfl rfl rfl (by kernel_rfl) (by kernel_rfl) (by simp only [List.length_cons, List.length_nil]; decide) ?_
  repeat' first
    | with_reducible rfl
    | simp only [e_loopN, e_nil, e_cons, e_gd, e_gdt, e_gdf, e_g0, e_g1, e_op, e_step, e_ret, e_put, e_junk, e_skip, e_reg, e_draw, e_seq, e_cond, e_block, e_exit, e_r, e_label, e_loop, q_sn, q_sr, q_se, q_bn, q_br, q_be, q_rr, q_rn, e_res0, e_res1, e_res2, e_b, d_nil, d_cons, d_op, d_step, d_ret, d_put, d_junk, d_inf, d_fin, g_not, g_and, argsTM, stepE, stBuiltin, stBox, stAlloc, stLoad, stStore, stField, stExtract, stBin, stUn, stConv, stNilCheck, stFieldV, stIndex, stIndexAddr, stLen, stMin, stMax, stBuild, fillI, stBuildSlice, setRows, stMakeSlice, stAppend, srcR, segR, rdCells, stSlice, bnd, stArr, stCopy, stConv2, isIntV, cutR, byteRows, rowByte, binStr, Option.map_some, Option.map_none, eq_self, canTL, canT, canH, canL, patL, gcH, gcT, gcI, get_gcT, mapC, pullS, pullI, pushS, push1, pushI, pushC, pullHW, roC, ix, List.map_map, Function.comp_def, List.zip_cons_cons, List.zip_nil_left, List.zip_nil_right, List.range'_zero, List.range'_succ, rd, get, put, IV.cells, ofValue, seg, spl, ldIV, binInt, eqI, cellsEq, leafEq, resI, flat, isT, upd, up1, nextM, cR, ptrC, nAl, isAl, List.length_cons, List.length_nil, List.length_append, List.length_replicate, List.length_set, Nat.reduceAdd, Nat.reduceMul, Nat.reduceEqDiff, Nat.reduceLeDiff, Nat.zero_add, Nat.add_zero, ne_eq, reduceCtorEq, not_false_eq_true, not_true_eq_false, reduceIte, true_and, and_true, and_false, false_and, and_self, List.nil_append, List.cons_append, List.append_nil, List.getElem?_cons_zero, List.getElem?_cons_succ, List.drop_succ_cons, List.drop_zero, List.take_succ_cons, List.take_zero, List.set_cons_zero, List.set_cons_succ, List.getElem?_toArray, Option.bind_some, Bool.false_eq_true, Nat.add_one_ne_zero, Nat.succ_ne_self, List.map_cons, List.map_nil, Bool.not_true, Bool.not_false, List.replicate_succ, List.replicate_zero, List.mem_cons, List.not_mem_nil, or_false, false_or, or_true, true_or, forall_const, false_implies, implies_true, true_implies, Int.reduceToNat, Int.reduceLE, Int.reduceLT, Int.cast_ofNat_Int, bne, Int.reduceEq, Int.reduceNe, Int.reduceNeg, Int.reduceAdd, Int.reduceSub, Int.reduceMul, beq_self_eq_true, Int.reduceBEq, Int.reduceBNe, Bool.true_and, Bool.false_and, Bool.and_true, Bool.and_false, Bool.true_or, Bool.false_or, Bool.or_true, Bool.or_false, Nat.reduceLT, Nat.reduceSub, Nat.zero_min, Nat.min_zero, Nat.min_self, List.flatMap_cons, List.flatMap_nil, Int.toNat_natCast, strEq_self, Bool.not_eq_true', decide_true, decide_false, wl_u8_0, wl_u8_1, wl_u8_2, wl_u8_3, wl_u8_4, wl_u8_5, wl_u8_6, wl_u8_7, wl_u8_8, wl_u8_9, wl_u8_10, wl_u8_11, wl_u8_12, wl_u8_13, wl_u8_14, wl_u8_15, wl_u8_16, wl_u16_0, wl_u16_1, wl_u16_2, wl_u16_3, wl_u16_4, wl_u16_5, wl_u16_6, wl_u16_7, wl_u16_8, wl_u16_9, wl_u16_10, wl_u16_11, wl_u16_12, wl_u16_13, wl_u16_14, wl_u16_15, wl_u16_16, wl_u32_0, wl_u32_1, wl_u32_2, wl_u32_3, wl_u32_4, wl_u32_5, wl_u32_6, wl_u32_7, wl_u32_8, wl_u32_9, wl_u32_10, wl_u32_11, wl_u32_12, wl_u32_13, wl_u32_14, wl_u32_15, wl_u32_16, wl_u64_0, wl_u64_1, wl_u64_2, wl_u64_3, wl_u64_4, wl_u64_5, wl_u64_6, wl_u64_7, wl_u64_8, wl_u64_9, wl_u64_10, wl_u64_11, wl_u64_12, wl_u64_13, wl_u64_14, wl_u64_15, wl_u64_16, wl_i32_0, wl_i32_1, wl_i32_2, wl_i32_3, wl_i32_4, wl_i32_5, wl_i32_6, wl_i32_7, wl_i32_8, wl_i32_9, wl_i32_10, wl_i32_11, wl_i32_12, wl_i32_13, wl_i32_14, wl_i32_15, wl_i32_16, wl_i64_0, wl_i64_1, wl_i64_2, wl_i64_3, wl_i64_4, wl_i64_5, wl_i64_6, wl_i64_7, wl_i64_8, wl_i64_9, wl_i64_10, wl_i64_11, wl_i64_12, wl_i64_13, wl_i64_14, wl_i64_15, wl_i64_16, ty_ag_5, ty_ar_47, ty_by_67, ty_ib_67, ty_sr_67, ty_st_9, ty_sz_5, ty_zs_67]
    | with_reducible refine gdb_split (fun h => ?_) (fun h => ?_)
    | (with_reducible refine drawK_id ?_); refine drawK_auto hmix (by kernel_rfl) ?_
    | (with_reducible refine draw_fin ?_ ?_); · kernel_rfl
    | (with_reducible refine draw_id ?_); kernel_rfl
    | (with_reducible refine callD_id (f := 21) ?_); refine callD_of (f21 _) rfl rfl ?_
    | (with_reducible refine loopK_id ?_); refine loopK_n 8 (by kernel_rfl) ?_
    | (simp [showR]; done)
    | (with_reducible refine And.intro ?_ ?_; · omega)
structure M6 where
  m0 : Int
  m1 : Int
  m2 : Int
  m3 : Int
  m4 : Int
  m5 : Int
def encM (m : M6) : List SV := [.raw (.int .u8 m.m0), .raw (.int .u8 m.m1), .raw (.int .u8 m.m2), .raw (.int .u8 m.m3), .raw (.int .u8 m.m4), .raw (.int .u8 m.m5)]
theorem bytesR_lit (l : List UInt8) : bytesR ⟨l.toArray⟩ = l.map fun b => [.raw (.int .u8 (b.toNat : Int))] := by simp [bytesR, ByteArray.toList_eq]
def fbI (n : Int) (j : Int) : Int := IntKind.u8.wrap (shR .u64 n j)
def ubI (x : Int) : Int := ((UInt8.ofNat x.toNat).toNat : Int)
def fromC (n : Int) : M6 := ⟨ubI (fbI n 40), ubI (fbI n 32), ubI (fbI n 24), ubI (fbI n 16), ubI (fbI n 8), ubI (fbI n 0)⟩
theorem wk40 : IntKind.i64.wrap 40 = 40 := rfl
theorem wk32 : IntKind.i64.wrap 32 = 32 := rfl
theorem wk24 : IntKind.i64.wrap 24 = 24 := rfl
theorem wkm1 : IntKind.i64.wrap (-1) = -1 := rfl
theorem f33 (n : Int) : Fun Tryd.prog 33 [.s (.raw (.int .u64 n))] (.a (encM (fromC n))) := by
  refine fun_of rfl fun X => ?_
  refine callK_inline (rs := [.cell 2 74]) (n := 8) Tryd.func33 rfl rfl rfl (by kernel_rfl) (by kernel_rfl) (by simp only [List.length_cons, List.length_nil]; decide) ?_
  repeat' first
    | with_reducible rfl
    | simp only [e_loopN, bytesR_lit, size_l, List.flatten_cons, List.flatten_nil, wk40, wk32, wk24, Int.mul_zero, e_nil, e_cons, e_gd, e_gdt, e_gdf, e_g0, e_g1, e_op, e_step, e_ret, e_put, e_junk, e_skip, e_reg, e_draw, e_seq, e_cond, e_block, e_exit, e_r, e_label, e_loop, q_sn, q_sr, q_se, q_bn, q_br, q_be, q_rr, q_rn, e_res0, e_res1, e_res2, e_b, d_nil, d_cons, d_op, d_step, d_ret, d_put, d_junk, d_inf, d_fin, g_not, g_and, argsTM, stepE, stBuiltin, stBox, stAlloc, stLoad, stStore, stField, stExtract, stBin, stUn, stConv, stNilCheck, stFieldV, stIndex, stIndexAddr, stLen, stMin, stMax, stBuild, fillI, stBuildSlice, setRows, stMakeSlice, stAppend, srcR, segR, rdCells, stSlice, bnd, stArr, stCopy, stConv2, isIntV, cutR, byteRows, rowByte, binStr, Option.map_some, Option.map_none, eq_self, canTL, canT, canH, canL, patL, gcH, gcT, gcI, get_gcT, mapC, pullS, pullI, pushS, push1, pushI, pushC, pullHW, roC, ix, List.map_map, Function.comp_def, List.zip_cons_cons, List.zip_nil_left, List.zip_nil_right, List.range'_zero, List.range'_succ, rd, get, put, IV.cells, ofValue, seg, spl, ldIV, binInt, eqI, cellsEq, leafEq, resI, flat, isT, upd, up1, nextM, cR, ptrC, nAl, isAl, List.length_cons, List.length_nil, List.length_append, List.length_replicate, List.length_set, Nat.reduceAdd, Nat.reduceMul, Nat.reduceEqDiff, Nat.reduceLeDiff, Nat.zero_add, Nat.add_zero, ne_eq, reduceCtorEq, not_false_eq_true, not_true_eq_false, reduceIte, true_and, and_true, and_false, false_and, and_self, List.nil_append, List.cons_append, List.append_nil, List.getElem?_cons_zero, List.getElem?_cons_succ, List.drop_succ_cons, List.drop_zero, List.take_succ_cons, List.take_zero, List.set_cons_zero, List.set_cons_succ, List.getElem?_toArray, Option.bind_some, Bool.false_eq_true, Nat.add_one_ne_zero, Nat.succ_ne_self, List.map_cons, List.map_nil, Bool.not_true, Bool.not_false, List.replicate_succ, List.replicate_zero, List.mem_cons, List.not_mem_nil, or_false, false_or, or_true, true_or, forall_const, false_implies, implies_true, true_implies, Int.reduceToNat, Int.reduceLE, Int.reduceLT, Int.cast_ofNat_Int, bne, Int.reduceEq, Int.reduceNe, Int.reduceNeg, Int.reduceAdd, Int.reduceSub, Int.reduceMul, beq_self_eq_true, Int.reduceBEq, Int.reduceBNe, Bool.true_and, Bool.false_and, Bool.and_true, Bool.and_false, Bool.true_or, Bool.false_or, Bool.or_true, Bool.or_false, Nat.reduceLT, Nat.reduceSub, Nat.zero_min, Nat.min_zero, Nat.min_self, List.flatMap_cons, List.flatMap_nil, Int.toNat_natCast, strEq_self, Bool.not_eq_true', decide_true, decide_false, wl_u8_0, wl_u8_1, wl_u8_2, wl_u8_3, wl_u8_4, wl_u8_5, wl_u8_6, wl_u8_7, wl_u8_8, wl_u8_9, wl_u8_10, wl_u8_11, wl_u8_12, wl_u8_13, wl_u8_14, wl_u8_15, wl_u8_16, wl_u16_0, wl_u16_1, wl_u16_2, wl_u16_3, wl_u16_4, wl_u16_5, wl_u16_6, wl_u16_7, wl_u16_8, wl_u16_9, wl_u16_10, wl_u16_11, wl_u16_12, wl_u16_13, wl_u16_14, wl_u16_15, wl_u16_16, wl_u32_0, wl_u32_1, wl_u32_2, wl_u32_3, wl_u32_4, wl_u32_5, wl_u32_6, wl_u32_7, wl_u32_8, wl_u32_9, wl_u32_10, wl_u32_11, wl_u32_12, wl_u32_13, wl_u32_14, wl_u32_15, wl_u32_16, wl_u64_0, wl_u64_1, wl_u64_2, wl_u64_3, wl_u64_4, wl_u64_5, wl_u64_6, wl_u64_7, wl_u64_8, wl_u64_9, wl_u64_10, wl_u64_11, wl_u64_12, wl_u64_13, wl_u64_14, wl_u64_15, wl_u64_16, wl_i32_0, wl_i32_1, wl_i32_2, wl_i32_3, wl_i32_4, wl_i32_5, wl_i32_6, wl_i32_7, wl_i32_8, wl_i32_9, wl_i32_10, wl_i32_11, wl_i32_12, wl_i32_13, wl_i32_14, wl_i32_15, wl_i32_16, wl_i64_0, wl_i64_1, wl_i64_2, wl_i64_3, wl_i64_4, wl_i64_5, wl_i64_6, wl_i64_7, wl_i64_8, wl_i64_9, wl_i64_10, wl_i64_11, wl_i64_12, wl_i64_13, wl_i64_14, wl_i64_15, wl_i64_16, Tryd.underlying30, Tryd.underlying5, ty_ag_74, ty_ar_74, ty_by_67, ty_ib_67, ty_sf_67, ty_sl_67, ty_st_9, ty_sz_5, ty_sz_74, ty_ze_74, ty_zs_67]
    | with_reducible refine gdb_split (fun h => ?_) (fun h => ?_)
    | (with_reducible refine drawK_id ?_); refine drawK_auto hmix (by kernel_rfl) ?_
    | (with_reducible refine draw_fin ?_ ?_); · kernel_rfl
    | (with_reducible refine draw_id ?_); kernel_rfl
    | (with_reducible refine loopK_id ?_); refine loopK_n 8 (by kernel_rfl) ?_
    | (with_reducible refine callK_id (f := 41) ?_); refine callK_inline (rs := [.tmp 4]) (n := 34) Tryd.func41 rfl rfl rfl (by kernel_rfl) (by kernel_rfl) (by simp only [List.length_cons, List.length_nil]; decide) ?_
    | (simp [encM, fromC, ubI, fbI]; done)
    | (with_reducible refine And.intro ?_ ?_; · omega)
theorem f25 (n : Int) : Fun Tryd.prog 25 [.s (.raw (.int .u64 n))] (.a (encM (fromC n))) := by
  refine fun_of rfl fun X => ?_
  refine callK_inline (rs := [.cell 2 74]) (n := 5) Tryd.func25 rfl rfl rfl (by kernel_rfl) (by kernel_rfl) (by simp only [List.length_cons, List.length_nil]; decide) ?_
  repeat' first
    | with_reducible rfl
    | simp only [encM, e_nil, e_cons, e_gd, e_gdt, e_gdf, e_g0, e_g1, e_op, e_step, e_ret, e_put, e_junk, e_skip, e_reg, e_draw, e_seq, e_cond, e_block, e_exit, e_r, e_label, e_loop, q_sn, q_sr, q_se, q_bn, q_br, q_be, q_rr, q_rn, e_res0, e_res1, e_res2, e_b, d_nil, d_cons, d_op, d_step, d_ret, d_put, d_junk, d_inf, d_fin, g_not, g_and, argsTM, stepE, stBuiltin, stBox, stAlloc, stLoad, stStore, stField, stExtract, stBin, stUn, stConv, stNilCheck, stFieldV, stIndex, stIndexAddr, stLen, stMin, stMax, stBuild, fillI, stBuildSlice, setRows, stMakeSlice, stAppend, srcR, segR, rdCells, stSlice, bnd, stArr, stCopy, stConv2, isIntV, cutR, byteRows, rowByte, binStr, Option.map_some, Option.map_none, eq_self, canTL, canT, canH, canL, patL, gcH, gcT, gcI, get_gcT, mapC, pullS, pullI, pushS, push1, pushI, pushC, pullHW, roC, ix, List.map_map, Function.comp_def, List.zip_cons_cons, List.zip_nil_left, List.zip_nil_right, List.range'_zero, List.range'_succ, rd, get, put, IV.cells, ofValue, seg, spl, ldIV, binInt, eqI, cellsEq, leafEq, resI, flat, isT, upd, up1, nextM, cR, ptrC, nAl, isAl, List.length_cons, List.length_nil, List.length_append, List.length_replicate, List.length_set, Nat.reduceAdd, Nat.reduceMul, Nat.reduceEqDiff, Nat.reduceLeDiff, Nat.zero_add, Nat.add_zero, ne_eq, reduceCtorEq, not_false_eq_true, not_true_eq_false, reduceIte, true_and, and_true, and_false, false_and, and_self, List.nil_append, List.cons_append, List.append_nil, List.getElem?_cons_zero, List.getElem?_cons_succ, List.drop_succ_cons, List.drop_zero, List.take_succ_cons, List.take_zero, List.set_cons_zero, List.set_cons_succ, List.getElem?_toArray, Option.bind_some, Bool.false_eq_true, Nat.add_one_ne_zero, Nat.succ_ne_self, List.map_cons, List.map_nil, Bool.not_true, Bool.not_false, List.replicate_succ, List.replicate_zero, List.mem_cons, List.not_mem_nil, or_false, false_or, or_true, true_or, forall_const, false_implies, implies_true, true_implies, Int.reduceToNat, Int.reduceLE, Int.reduceLT, Int.cast_ofNat_Int, bne, Int.reduceEq, Int.reduceNe, Int.reduceNeg, Int.reduceAdd, Int.reduceSub, Int.reduceMul, beq_self_eq_true, Int.reduceBEq, Int.reduceBNe, Bool.true_and, Bool.false_and, Bool.and_true, Bool.and_false, Bool.true_or, Bool.false_or, Bool.or_true, Bool.or_false, Nat.reduceLT, Nat.reduceSub, Nat.zero_min, Nat.min_zero, Nat.min_self, List.flatMap_cons, List.flatMap_nil, Int.toNat_natCast, strEq_self, Bool.not_eq_true', decide_true, decide_false, wl_u8_0, wl_u8_1, wl_u8_2, wl_u8_3, wl_u8_4, wl_u8_5, wl_u8_6, wl_u8_7, wl_u8_8, wl_u8_9, wl_u8_10, wl_u8_11, wl_u8_12, wl_u8_13, wl_u8_14, wl_u8_15, wl_u8_16, wl_u16_0, wl_u16_1, wl_u16_2, wl_u16_3, wl_u16_4, wl_u16_5, wl_u16_6, wl_u16_7, wl_u16_8, wl_u16_9, wl_u16_10, wl_u16_11, wl_u16_12, wl_u16_13, wl_u16_14, wl_u16_15, wl_u16_16, wl_u32_0, wl_u32_1, wl_u32_2, wl_u32_3, wl_u32_4, wl_u32_5, wl_u32_6, wl_u32_7, wl_u32_8, wl_u32_9, wl_u32_10, wl_u32_11, wl_u32_12, wl_u32_13, wl_u32_14, wl_u32_15, wl_u32_16, wl_u64_0, wl_u64_1, wl_u64_2, wl_u64_3, wl_u64_4, wl_u64_5, wl_u64_6, wl_u64_7, wl_u64_8, wl_u64_9, wl_u64_10, wl_u64_11, wl_u64_12, wl_u64_13, wl_u64_14, wl_u64_15, wl_u64_16, wl_i32_0, wl_i32_1, wl_i32_2, wl_i32_3, wl_i32_4, wl_i32_5, wl_i32_6, wl_i32_7, wl_i32_8, wl_i32_9, wl_i32_10, wl_i32_11, wl_i32_12, wl_i32_13, wl_i32_14, wl_i32_15, wl_i32_16, wl_i64_0, wl_i64_1, wl_i64_2, wl_i64_3, wl_i64_4, wl_i64_5, wl_i64_6, wl_i64_7, wl_i64_8, wl_i64_9, wl_i64_10, wl_i64_11, wl_i64_12, wl_i64_13, wl_i64_14, wl_i64_15, wl_i64_16, ty_ag_74, ty_sz_74, ty_ze_74]
    | with_reducible refine gdb_split (fun h => ?_) (fun h => ?_)
    | (with_reducible refine drawK_id ?_); refine drawK_auto hmix (by kernel_rfl) ?_
    | (with_reducible refine draw_fin ?_ ?_); · kernel_rfl
    | (with_reducible refine draw_id ?_); kernel_rfl
    | (with_reducible refine callK_id (f := 33) ?_); refine callK_fun (f33 n) rfl rfl ?_
    | (with_reducible refine And.intro ?_ ?_; · omega)
def rf (n : Int) : Nat → Int
  | 0 => n
  | k + 1 => IntKind.u64.wrap (Int.tdiv (rf n k) 256)
def rb (n : Int) (k : Nat) : Int := IntKind.u8.wrap (Int.tmod (rf n k) 256)
def fromR (n : Int) : M6 := ⟨rb n 5, rb n 4, rb n 3, rb n 2, rb n 1, rb n 0⟩
theorem f13 (n : Int) : Fun Tryd.prog 13 [.s (.raw (.int .u64 n))] (.a (encM (fromR n))) := by
  refine fun_of rfl fun X => ?_
  refine callK_inline (rs := [.cell 2 47]) (n := 17) Tryd.func13 rfl rfl rfl (by kernel_rfl) (by kernel_rfl) (by simp only [List.length_cons, List.length_nil]; decide) ?_
  repeat' first
    | with_reducible rfl
    | simp only [e_loopN, wkm1, e_nil, e_cons, e_gd, e_gdt, e_gdf, e_g0, e_g1, e_op, e_step, e_ret, e_put, e_junk, e_skip, e_reg, e_draw, e_seq, e_cond, e_block, e_exit, e_r, e_label, e_loop, q_sn, q_sr, q_se, q_bn, q_br, q_be, q_rr, q_rn, e_res0, e_res1, e_res2, e_b, d_nil, d_cons, d_op, d_step, d_ret, d_put, d_junk, d_inf, d_fin, g_not, g_and, argsTM, stepE, stBuiltin, stBox, stAlloc, stLoad, stStore, stField, stExtract, stBin, stUn, stConv, stNilCheck, stFieldV, stIndex, stIndexAddr, stLen, stMin, stMax, stBuild, fillI, stBuildSlice, setRows, stMakeSlice, stAppend, srcR, segR, rdCells, stSlice, bnd, stArr, stCopy, stConv2, isIntV, cutR, byteRows, rowByte, binStr, Option.map_some, Option.map_none, eq_self, canTL, canT, canH, canL, patL, gcH, gcT, gcI, get_gcT, mapC, pullS, pullI, pushS, push1, pushI, pushC, pullHW, roC, ix, List.map_map, Function.comp_def, List.zip_cons_cons, List.zip_nil_left, List.zip_nil_right, List.range'_zero, List.range'_succ, rd, get, put, IV.cells, ofValue, seg, spl, ldIV, binInt, eqI, cellsEq, leafEq, resI, flat, isT, upd, up1, nextM, cR, ptrC, nAl, isAl, List.length_cons, List.length_nil, List.length_append, List.length_replicate, List.length_set, Nat.reduceAdd, Nat.reduceMul, Nat.reduceEqDiff, Nat.reduceLeDiff, Nat.zero_add, Nat.add_zero, ne_eq, reduceCtorEq, not_false_eq_true, not_true_eq_false, reduceIte, true_and, and_true, and_false, false_and, and_self, List.nil_append, List.cons_append, List.append_nil, List.getElem?_cons_zero, List.getElem?_cons_succ, List.drop_succ_cons, List.drop_zero, List.take_succ_cons, List.take_zero, List.set_cons_zero, List.set_cons_succ, List.getElem?_toArray, Option.bind_some, Bool.false_eq_true, Nat.add_one_ne_zero, Nat.succ_ne_self, List.map_cons, List.map_nil, Bool.not_true, Bool.not_false, List.replicate_succ, List.replicate_zero, List.mem_cons, List.not_mem_nil, or_false, false_or, or_true, true_or, forall_const, false_implies, implies_true, true_implies, Int.reduceToNat, Int.reduceLE, Int.reduceLT, Int.cast_ofNat_Int, bne, Int.reduceEq, Int.reduceNe, Int.reduceNeg, Int.reduceAdd, Int.reduceSub, Int.reduceMul, beq_self_eq_true, Int.reduceBEq, Int.reduceBNe, Bool.true_and, Bool.false_and, Bool.and_true, Bool.and_false, Bool.true_or, Bool.false_or, Bool.or_true, Bool.or_false, Nat.reduceLT, Nat.reduceSub, Nat.zero_min, Nat.min_zero, Nat.min_self, List.flatMap_cons, List.flatMap_nil, Int.toNat_natCast, strEq_self, Bool.not_eq_true', decide_true, decide_false, wl_u8_0, wl_u8_1, wl_u8_2, wl_u8_3, wl_u8_4, wl_u8_5, wl_u8_6, wl_u8_7, wl_u8_8, wl_u8_9, wl_u8_10, wl_u8_11, wl_u8_12, wl_u8_13, wl_u8_14, wl_u8_15, wl_u8_16, wl_u16_0, wl_u16_1, wl_u16_2, wl_u16_3, wl_u16_4, wl_u16_5, wl_u16_6, wl_u16_7, wl_u16_8, wl_u16_9, wl_u16_10, wl_u16_11, wl_u16_12, wl_u16_13, wl_u16_14, wl_u16_15, wl_u16_16, wl_u32_0, wl_u32_1, wl_u32_2, wl_u32_3, wl_u32_4, wl_u32_5, wl_u32_6, wl_u32_7, wl_u32_8, wl_u32_9, wl_u32_10, wl_u32_11, wl_u32_12, wl_u32_13, wl_u32_14, wl_u32_15, wl_u32_16, wl_u64_0, wl_u64_1, wl_u64_2, wl_u64_3, wl_u64_4, wl_u64_5, wl_u64_6, wl_u64_7, wl_u64_8, wl_u64_9, wl_u64_10, wl_u64_11, wl_u64_12, wl_u64_13, wl_u64_14, wl_u64_15, wl_u64_16, wl_i32_0, wl_i32_1, wl_i32_2, wl_i32_3, wl_i32_4, wl_i32_5, wl_i32_6, wl_i32_7, wl_i32_8, wl_i32_9, wl_i32_10, wl_i32_11, wl_i32_12, wl_i32_13, wl_i32_14, wl_i32_15, wl_i32_16, wl_i64_0, wl_i64_1, wl_i64_2, wl_i64_3, wl_i64_4, wl_i64_5, wl_i64_6, wl_i64_7, wl_i64_8, wl_i64_9, wl_i64_10, wl_i64_11, wl_i64_12, wl_i64_13, wl_i64_14, wl_i64_15, wl_i64_16, Tryd.underlying30, Tryd.underlying5, ty_ag_47, ty_ar_47, ty_sz_47, ty_sz_5, ty_ze_47]
    | with_reducible refine gdb_split (fun h => ?_) (fun h => ?_)
    | (with_reducible refine drawK_id ?_); refine drawK_auto hmix (by kernel_rfl) ?_
    | (with_reducible refine draw_fin ?_ ?_); · kernel_rfl
    | (with_reducible refine draw_id ?_); kernel_rfl
    | (with_reducible refine loopK_id ?_); refine loopK_n 8 (by kernel_rfl) ?_
    | (simp [encM, fromR, rb, rf]; done)
    | (with_reducible refine And.intro ?_ ?_; · omega)
theorem w64 (x : Int) : IntKind.u64.wrap x = x % 18446744073709551616 := by simp [IntKind.wrap, IntKind.signed, IntKind.bits]
theorem w8 (x : Int) : IntKind.u8.wrap x = x % 256 := by simp [IntKind.wrap, IntKind.signed, IntKind.bits]
theorem ub_id (x : Int) (h0 : 0 ≤ x) (h1 : x ≤ 255) : ((UInt8.ofNat x.toNat).toNat : Int) = x := by
  rw [UInt8.toNat_ofNat']; omega
theorem fb (n : Int) (h : 0 ≤ n) (k : Nat) (hk : k ≤ 64) : fbI n (k : Int) = n / 2 ^ k % 256 := by
  unfold fbI shR
  rw [w8, Int.toNat_natCast, Nat.min_eq_left (by exact hk)]
  rw [Int.fdiv_eq_ediv_of_nonneg _ (Int.pow_nonneg (by decide))]
theorem ub8 (x : Int) : ubI (x % 256) = x % 256 := ub_id _ (by omega) (by omega)
theorem fromC_eq (n : Int) (h : 0 ≤ n) : fromC n = ⟨n / 1099511627776 % 256, n / 4294967296 % 256, n / 16777216 % 256, n / 65536 % 256, n / 256 % 256, n % 256⟩ := by
  have f : ∀ k : Nat, k ≤ 64 → ubI (fbI n (k : Int)) = n / 2 ^ k % 256 := fun k hk => by rw [fb n h k hk, ub8]
  have a5 := f 40 (by omega); have a4 := f 32 (by omega); have a3 := f 24 (by omega); have a2 := f 16 (by omega); have a1 := f 8 (by omega); have a0 := f 0 (by omega)
  unfold fromC
  have b0 : ubI (fbI n 0) = n % 256 := by rw [show (0 : Int) = ((0 : Nat) : Int) from rfl, a0]; simp
  rw [show (40 : Int) = ((40 : Nat) : Int) from rfl, show (32 : Int) = ((32 : Nat) : Int) from rfl, show (24 : Int) = ((24 : Nat) : Int) from rfl, show (16 : Int) = ((16 : Nat) : Int) from rfl, show (8 : Int) = ((8 : Nat) : Int) from rfl, b0, a5, a4, a3, a2, a1]
  rfl
theorem fromR_eq (n : Int) (h : 0 ≤ n) (hu : n ≤ 18446744073709551615) : fromR n = fromC n := by
  rw [fromC_eq n h]
  have td : ∀ x : Int, 0 ≤ x → Int.tdiv x 256 = x / 256 := fun x hx => Int.tdiv_eq_ediv_of_nonneg hx
  have tm : ∀ x : Int, 0 ≤ x → Int.tmod x 256 = x % 256 := fun x hx => Int.tmod_eq_emod_of_nonneg hx
  have r1 : rf n 1 = n / 256 := by show IntKind.u64.wrap (Int.tdiv n 256) = _; rw [td n h, w64]; omega
  have r2 : rf n 2 = n / 65536 := by show IntKind.u64.wrap (Int.tdiv (rf n 1) 256) = _; rw [r1, td _ (by omega), w64]; omega
  have r3 : rf n 3 = n / 16777216 := by show IntKind.u64.wrap (Int.tdiv (rf n 2) 256) = _; rw [r2, td _ (by omega), w64]; omega
  have r4 : rf n 4 = n / 4294967296 := by show IntKind.u64.wrap (Int.tdiv (rf n 3) 256) = _; rw [r3, td _ (by omega), w64]; omega
  have r5 : rf n 5 = n / 1099511627776 := by show IntKind.u64.wrap (Int.tdiv (rf n 4) 256) = _; rw [r4, td _ (by omega), w64]; omega
  have q : ∀ k x, rf n k = x → 0 ≤ x → rb n k = x % 256 := fun k x hx h0 => by unfold rb; rw [hx, tm x h0, w8]; omega
  unfold fromR
  rw [q 5 _ r5 (by omega), q 4 _ r4 (by omega), q 3 _ r3 (by omega), q 2 _ r2 (by omega), q 1 _ r1 (by omega), q 0 n rfl h]
theorem hexEq : ∀ b : Fin 256, byteAt hexS (shR .u8 ((b.val : Nat) : Int) 4).toNat = dig (IntKind.u8.wrap (Int.tdiv ((b.val : Nat) : Int) 16)) ∧ byteAt hexS (bAnd .u8 ((b.val : Nat) : Int) 15).toNat = dig (Int.tmod ((b.val : Nat) : Int) 16) := by decide +kernel
theorem fin256 (x : Int) (h0 : 0 ≤ x) (h1 : x ≤ 255) : ∃ b : Fin 256, x = ((b.val : Nat) : Int) := ⟨⟨x.toNat, by omega⟩, by simp; omega⟩
theorem mk_inj (l l' : List UInt8) : ((⟨l.toArray⟩ : ByteArray) = ⟨l'.toArray⟩) ↔ l = l' := by simp
theorem hexQ (m : Int) (h0 : 0 ≤ m) (h1 : m ≤ 255) : byteAt hexS (shR .u8 m 4).toNat = dig (IntKind.u8.wrap (Int.tdiv m 16)) ∧ byteAt hexS (bAnd .u8 m 15).toNat = dig (Int.tmod m 16) := by
  obtain ⟨b, rfl⟩ := fin256 m h0 h1; exact hexEq b
theorem showC_eq (m0 m1 m2 m3 m4 m5 : Int) (l0 : 0 ≤ m0) (u0 : m0 ≤ 255) (l1 : 0 ≤ m1) (u1 : m1 ≤ 255) (l2 : 0 ≤ m2) (u2 : m2 ≤ 255) (l3 : 0 ≤ m3) (u3 : m3 ≤ 255) (l4 : 0 ≤ m4) (u4 : m4 ≤ 255) (l5 : 0 ≤ m5) (u5 : m5 ≤ 255) : showC m0 m1 m2 m3 m4 m5 = showR m0 m1 m2 m3 m4 m5 := by
  unfold showC joinB showR
  rw [mk_inj]
  simp only [hs2, (hexQ m0 l0 u0).1, (hexQ m0 l0 u0).2, (hexQ m1 l1 u1).1, (hexQ m1 l1 u1).2, (hexQ m2 l2 u2).1, (hexQ m2 l2 u2).2, (hexQ m3 l3 u3).1, (hexQ m3 l3 u3).2, (hexQ m4 l4 u4).1, (hexQ m4 l4 u4).2, (hexQ m5 l5 u5).1, (hexQ m5 l5 u5).2]
  rfl
def macOf (n : Int) : ByteArray := showC (fromC n).m0 (fromC n).m1 (fromC n).m2 (fromC n).m3 (fromC n).m4 (fromC n).m5
theorem ubI_rng (x : Int) : 0 ≤ ubI x ∧ ubI x ≤ 255 := by
  unfold ubI
  have := (UInt8.ofNat x.toNat).toNat_lt
  omega
theorem f26n (n : Int) : Fun Tryd.prog 26 [.a (encM (fromC n))] (.s (.raw (.string (macOf n)))) := by
  have h := fun x => ubI_rng x
  exact f26 _ _ _ _ _ _ (h _).1 (h _).2 (h _).1 (h _).2 (h _).1 (h _).2 (h _).1 (h _).2 (h _).1 (h _).2 (h _).1 (h _).2
theorem f15n (n : Int) (h0 : 0 ≤ n) (h1 : n ≤ 18446744073709551615) : Fun Tryd.prog 15 [.a (encM (fromR n))] (.s (.raw (.string (macOf n)))) := by
  have h := fun x => ubI_rng x
  have e := showC_eq (fromC n).m0 (fromC n).m1 (fromC n).m2 (fromC n).m3 (fromC n).m4 (fromC n).m5 (h _).1 (h _).2 (h _).1 (h _).2 (h _).1 (h _).2 (h _).1 (h _).2 (h _).1 (h _).2 (h _).1 (h _).2
  rw [fromR_eq n h0 h1]
  unfold macOf
  rw [e]
  exact f15 _ _ _ _ _ _
end Go.Ev
