/- A part of the proof: contracts of the functions that the statement reaches. -/
import Derived.Test.YtlngmicffhkghaaC7
namespace Go.Ev
open Go.Proofs
set_option maxRecDepth 100000
set_option linter.unusedSimpArgs false
set_option linter.unusedVariables false
set_option maxHeartbeats 4000000
theorem f66i (b : Bool) : Fun Try.prog 66 [.s (.raw (.bool b))] (.s (.raw (.int .u64 (bi b)))) := f66 b
theorem pre1_0 : (⟨#[66, 66, 3, 0, 0, 0]⟩ : ByteArray) ++ ⟨#[UInt8.ofNat 0]⟩ = ⟨#[66, 66, 3, 0, 0, 0, 0]⟩ := by apply ByteArray.ext; simp [ByteArray.data_append]
theorem pre1_2 : (⟨#[66, 66, 3, 0, 0, 0]⟩ : ByteArray) ++ ⟨#[UInt8.ofNat 2]⟩ = ⟨#[66, 66, 3, 0, 0, 0, 2]⟩ := by apply ByteArray.ext; simp [ByteArray.data_append]
theorem pre1_128 : (⟨#[66, 66, 3, 0, 0, 0]⟩ : ByteArray) ++ ⟨#[UInt8.ofNat 128]⟩ = ⟨#[66, 66, 3, 0, 0, 0, 128]⟩ := by apply ByteArray.ext; simp [ByteArray.data_append]
theorem f37 (p : PD) (hp : p.ok) : Fun Try.prog 37 [.a (encP p)] (.t [.s (.raw (.string (encS p).1)), .s (.raw (.int .i64 (encS p).2))]) := by
  refine fun_of rfl fun X => ?_
  obtain ⟨⟨k0, k1⟩, ⟨ro0, ro1⟩, ⟨rt0, rt1⟩, ⟨co0, co1⟩, ⟨br0, br1⟩, ⟨po0, po1⟩, ⟨ag0, ag1⟩, ⟨mx0, mx1⟩, ⟨he0, he1⟩, ⟨de0, de1⟩⟩ := hp
  cases hg : goodB p with
  | false =>
    have e : encS p = (⟨#[]⟩, 8) := by simp [encS, hg]
    have c59 := f61 p
    rw [hg] at c59
    rw [e]
    unfold encP at c59 ⊢
    refine callK_inline (rs := [.tmp 2, .tmp 3]) (n := 101) Try.func37 rfl rfl rfl (by kernel_rfl) (by kernel_rfl) (by simp only [List.length_cons, List.length_nil]; decide) ?_
    repeat' first
      | with_reducible rfl
      | simp only [*, e_nil, e_cons, e_gd, e_gdt, e_gdf, e_g0, e_g1, e_op, e_step, e_ret, e_put, e_junk, e_skip, e_reg, e_draw, e_seq, e_cond, e_block, e_exit, e_r, e_label, e_loop, q_sn, q_sr, q_se, q_bn, q_br, q_be, q_rr, q_rn, e_res0, e_res1, e_res2, e_b, d_nil, d_cons, d_op, d_step, d_ret, d_put, d_junk, d_inf, d_fin, g_not, g_and, argsTM, stepE, stBuiltin, stBox, stAlloc, stLoad, stStore, stField, stExtract, stBin, stUn, stConv, stNilCheck, stFieldV, stIndex, stIndexAddr, stLen, stMin, stMax, stBuild, fillI, stBuildSlice, setRows, stMakeSlice, stAppend, srcR, segR, rdCells, stSlice, bnd, stArr, stCopy, stConv2, isIntV, cutR, byteRows, rowByte, binStr, Option.map_some, Option.map_none, eq_self, canTL, canT, canH, canL, patL, gcH, gcT, gcI, get_gcT, mapC, pullS, pullI, pushS, push1, pushI, pushC, pullHW, roC, ix, List.map_map, Function.comp_def, List.zip_cons_cons, List.zip_nil_left, List.zip_nil_right, List.range'_zero, List.range'_succ, rd, get, put, IV.cells, ofValue, seg, spl, ldIV, binInt, eqI, cellsEq, leafEq, resI, flat, isT, upd, up1, nextM, cR, ptrC, nAl, isAl, List.length_cons, List.length_nil, List.length_append, List.length_replicate, List.length_set, Nat.reduceAdd, Nat.reduceMul, Nat.reduceEqDiff, Nat.reduceLeDiff, Nat.zero_add, Nat.add_zero, ne_eq, reduceCtorEq, not_false_eq_true, not_true_eq_false, reduceIte, true_and, and_true, and_false, false_and, and_self, List.nil_append, List.cons_append, List.append_nil, List.getElem?_cons_zero, List.getElem?_cons_succ, List.drop_succ_cons, List.drop_zero, List.take_succ_cons, List.take_zero, List.set_cons_zero, List.set_cons_succ, List.getElem?_toArray, Option.bind_some, Bool.false_eq_true, Nat.add_one_ne_zero, Nat.succ_ne_self, List.map_cons, List.map_nil, Bool.not_true, Bool.not_false, List.replicate_succ, List.replicate_zero, List.mem_cons, List.not_mem_nil, or_false, false_or, or_true, true_or, forall_const, false_implies, implies_true, true_implies, Int.reduceToNat, Int.reduceLE, Int.reduceLT, Int.cast_ofNat_Int, bne, Int.reduceEq, Int.reduceNe, Int.reduceNeg, Int.reduceAdd, Int.reduceSub, Int.reduceMul, beq_self_eq_true, Int.reduceBEq, Int.reduceBNe, Bool.true_and, Bool.false_and, Bool.and_true, Bool.and_false, Bool.true_or, Bool.false_or, Bool.or_true, Bool.or_false, Nat.reduceLT, Nat.reduceSub, Nat.zero_min, Nat.min_zero, Nat.min_self, List.flatMap_cons, List.flatMap_nil, Int.toNat_natCast, strEq_self, Bool.not_eq_true', decide_true, decide_false, wl_u8_0, wl_u8_1, wl_u8_2, wl_u8_3, wl_u8_4, wl_u8_5, wl_u8_6, wl_u8_7, wl_u8_8, wl_u8_9, wl_u8_10, wl_u8_11, wl_u8_12, wl_u8_13, wl_u8_14, wl_u8_15, wl_u8_16, wl_u16_0, wl_u16_1, wl_u16_2, wl_u16_3, wl_u16_4, wl_u16_5, wl_u16_6, wl_u16_7, wl_u16_8, wl_u16_9, wl_u16_10, wl_u16_11, wl_u16_12, wl_u16_13, wl_u16_14, wl_u16_15, wl_u16_16, wl_u32_0, wl_u32_1, wl_u32_2, wl_u32_3, wl_u32_4, wl_u32_5, wl_u32_6, wl_u32_7, wl_u32_8, wl_u32_9, wl_u32_10, wl_u32_11, wl_u32_12, wl_u32_13, wl_u32_14, wl_u32_15, wl_u32_16, wl_u64_0, wl_u64_1, wl_u64_2, wl_u64_3, wl_u64_4, wl_u64_5, wl_u64_6, wl_u64_7, wl_u64_8, wl_u64_9, wl_u64_10, wl_u64_11, wl_u64_12, wl_u64_13, wl_u64_14, wl_u64_15, wl_u64_16, wl_i32_0, wl_i32_1, wl_i32_2, wl_i32_3, wl_i32_4, wl_i32_5, wl_i32_6, wl_i32_7, wl_i32_8, wl_i32_9, wl_i32_10, wl_i32_11, wl_i32_12, wl_i32_13, wl_i32_14, wl_i32_15, wl_i32_16, wl_i64_0, wl_i64_1, wl_i64_2, wl_i64_3, wl_i64_4, wl_i64_5, wl_i64_6, wl_i64_7, wl_i64_8, wl_i64_9, wl_i64_10, wl_i64_11, wl_i64_12, wl_i64_13, wl_i64_14, wl_i64_15, wl_i64_16, Try.underlying22, Try.underlying30, Try.underlying40, Try.underlying5, ty_ag_22, ty_ag_30, ty_ag_4, ty_ag_40, ty_ag_5, ty_ag_62, ty_ar_131, ty_ib_114, ty_of_62_0, ty_of_62_1, ty_of_62_10, ty_of_62_11, ty_of_62_12, ty_of_62_13, ty_of_62_14, ty_of_62_15, ty_of_62_2, ty_of_62_3, ty_of_62_4, ty_of_62_5, ty_of_62_6, ty_of_62_7, ty_of_62_8, ty_of_62_9, ty_ok_131, ty_pl_131_0, ty_pl_131_1, ty_pl_131_2, ty_pl_131_3, ty_pl_131_4, ty_st_9, ty_sz_131, ty_sz_22, ty_sz_30, ty_sz_4, ty_sz_40, ty_sz_5, ty_sz_62, ty_ze_131, ty_zs_114]
      | with_reducible refine gdb_split (fun h => ?_) (fun h => ?_)
      | (with_reducible refine drawK_id ?_); refine drawK_auto hmix (by kernel_rfl) ?_
      | (with_reducible refine draw_fin ?_ ?_); · kernel_rfl
      | (with_reducible refine draw_id ?_); kernel_rfl
      | (with_reducible refine callK_id (f := 61) ?_); refine callK_fun (c59) rfl rfl ?_
      | (with_reducible refine And.intro ?_ ?_; · omega)
  | true =>
    have c59 := f61 p
    rw [hg] at c59
    rcases good_k hg with hk | hk | hk
    · have e : encS p = (tailS p ⟨#[66, 66, 3, 0, 0, 0, 0]⟩, 0) := by simp [encS, hg, hk]
      have ro3 := good_ro hg ro0 (.inl hk)
      rw [e]
      clear e hg
      cases p with
      | mk k b1 b2 b3 b4 b5 b6 ro rt co br po ag mx he de =>
      simp only at hk ro3 k0 k1 ro0 ro1 rt0 rt1 co0 co1 br0 br1 po0 po1 ag0 ag1 mx0 mx1 he0 he1 de0 de1
      subst hk
      unfold encP at c59 ⊢
      refine callK_inline (rs := [.tmp 2, .tmp 3]) (n := 101) Try.func37 rfl rfl rfl (by kernel_rfl) (by kernel_rfl) (by simp only [List.length_cons, List.length_nil]; decide) ?_
      have hb1 := bi_rng b1
      have hb2 := bi_rng b2
      have hb3 := bi_rng b3
      have hb4 := bi_rng b4
      have hb5 := bi_rng b5
      have hb6 := bi_rng b6
      have m0 : IntKind.u64.wrap (2 * bi b2) = 2 * bi b2 := wr_u64 (by omega) (by omega)
      have s0 : IntKind.u64.wrap (bi b1 + 2 * bi b2) = bi b1 + 2 * bi b2 := wr_u64 (by omega) (by omega)
      have m1 : IntKind.u64.wrap (4 * ro) = 4 * ro := wr_u64 (by omega) (by omega)
      have s1 : IntKind.u64.wrap (bi b1 + 2 * bi b2 + 4 * ro) = bi b1 + 2 * bi b2 + 4 * ro := wr_u64 (by omega) (by omega)
      have m2 : IntKind.u64.wrap (16 * bi b3) = 16 * bi b3 := wr_u64 (by omega) (by omega)
      have s2 : IntKind.u64.wrap (bi b1 + 2 * bi b2 + 4 * ro + 16 * bi b3) = bi b1 + 2 * bi b2 + 4 * ro + 16 * bi b3 := wr_u64 (by omega) (by omega)
      have m3 : IntKind.u64.wrap (32 * bi b4) = 32 * bi b4 := wr_u64 (by omega) (by omega)
      have s3 : IntKind.u64.wrap (bi b1 + 2 * bi b2 + 4 * ro + 16 * bi b3 + 32 * bi b4) = bi b1 + 2 * bi b2 + 4 * ro + 16 * bi b3 + 32 * bi b4 := wr_u64 (by omega) (by omega)
      have m4 : IntKind.u64.wrap (64 * bi b5) = 64 * bi b5 := wr_u64 (by omega) (by omega)
      have s4 : IntKind.u64.wrap (bi b1 + 2 * bi b2 + 4 * ro + 16 * bi b3 + 32 * bi b4 + 64 * bi b5) = bi b1 + 2 * bi b2 + 4 * ro + 16 * bi b3 + 32 * bi b4 + 64 * bi b5 := wr_u64 (by omega) (by omega)
      have m5 : IntKind.u64.wrap (128 * bi b6) = 128 * bi b6 := wr_u64 (by omega) (by omega)
      have s5 : IntKind.u64.wrap (bi b1 + 2 * bi b2 + 4 * ro + 16 * bi b3 + 32 * bi b4 + 64 * bi b5 + 128 * bi b6) = bi b1 + 2 * bi b2 + 4 * ro + 16 * bi b3 + 32 * bi b4 + 64 * bi b5 + 128 * bi b6 := wr_u64 (by omega) (by omega)
      have hw1 : IntKind.u64.wrap ro = ro := wr_u64 (by omega) (by omega)
      have hN : bi b1 + 2 * bi b2 + 4 * ro + 16 * bi b3 + 32 * bi b4 + 64 * bi b5 + 128 * bi b6 = flagsN ⟨0, b1, b2, b3, b4, b5, b6, ro, rt, co, br, po, ag, mx, he, de⟩ := rfl
      have hn0 : 0 ≤ flagsN ⟨0, b1, b2, b3, b4, b5, b6, ro, rt, co, br, po, ag, mx, he, de⟩ := by rw [← hN]; omega
      have hn1 : flagsN ⟨0, b1, b2, b3, b4, b5, b6, ro, rt, co, br, po, ag, mx, he, de⟩ ≤ 255 := by rw [← hN]; omega
      have n1 := f67 (flagsN ⟨0, b1, b2, b3, b4, b5, b6, ro, rt, co, br, po, ag, mx, he, de⟩) 1 hn0 (by omega) (by omega) (by omega)
      have n2 := f67 rt 8 rt0 rt1 (by omega) (by omega)
      have n3 := f67 co 4 co0 (by omega) (by omega) (by omega)
      have n4 := f67 br 8 br0 br1 (by omega) (by omega)
      have n5 := f67 po 2 po0 (by omega) (by omega) (by omega)
      have w5 : IntKind.u64.wrap po = po := wr_u64 (by omega) (by omega)
      have n6 := f67 ag 2 ag0 (by omega) (by omega) (by omega)
      have w6 : IntKind.u64.wrap ag = ag := wr_u64 (by omega) (by omega)
      have n7 := f67 mx 2 mx0 (by omega) (by omega) (by omega)
      have w7 : IntKind.u64.wrap mx = mx := wr_u64 (by omega) (by omega)
      have n8 := f67 he 2 he0 (by omega) (by omega) (by omega)
      have w8 : IntKind.u64.wrap he = he := wr_u64 (by omega) (by omega)
      have n9 := f67 de 2 de0 (by omega) (by omega) (by omega)
      have w9 : IntKind.u64.wrap de = de := wr_u64 (by omega) (by omega)
      have w3 : IntKind.u64.wrap co = co := wr_u64 (by omega) (by omega)
      generalize hF : flagsN ⟨0, b1, b2, b3, b4, b5, b6, ro, rt, co, br, po, ag, mx, he, de⟩ = F at hN hn0 hn1 n1 ⊢
      have hWF : IntKind.u64.wrap F = F := wr_u64 hn0 (by omega)
      clear hb1 hb2 hb3 hb4 hb5 hb6
      repeat' first
        | with_reducible rfl
        | simp only [e_loopN, hw1, w3, w5, w6, w7, w8, w9, ByteArray.size_append, bb_size, tailS, hF, hN, hWF, m0, s0, m1, s1, m2, s2, m3, s3, m4, s4, m5, s5, size_l, pre1_0, e_nil, e_cons, e_gd, e_gdt, e_gdf, e_g0, e_g1, e_op, e_step, e_ret, e_put, e_junk, e_skip, e_reg, e_draw, e_seq, e_cond, e_block, e_exit, e_r, e_label, e_loop, q_sn, q_sr, q_se, q_bn, q_br, q_be, q_rr, q_rn, e_res0, e_res1, e_res2, e_b, d_nil, d_cons, d_op, d_step, d_ret, d_put, d_junk, d_inf, d_fin, g_not, g_and, argsTM, stepE, stBuiltin, stBox, stAlloc, stLoad, stStore, stField, stExtract, stBin, stUn, stConv, stNilCheck, stFieldV, stIndex, stIndexAddr, stLen, stMin, stMax, stBuild, fillI, stBuildSlice, setRows, stMakeSlice, stAppend, srcR, segR, rdCells, stSlice, bnd, stArr, stCopy, stConv2, isIntV, cutR, byteRows, rowByte, binStr, Option.map_some, Option.map_none, eq_self, canTL, canT, canH, canL, patL, gcH, gcT, gcI, get_gcT, mapC, pullS, pullI, pushS, push1, pushI, pushC, pullHW, roC, ix, List.map_map, Function.comp_def, List.zip_cons_cons, List.zip_nil_left, List.zip_nil_right, List.range'_zero, List.range'_succ, rd, get, put, IV.cells, ofValue, seg, spl, ldIV, binInt, eqI, cellsEq, leafEq, resI, flat, isT, upd, up1, nextM, cR, ptrC, nAl, isAl, List.length_cons, List.length_nil, List.length_append, List.length_replicate, List.length_set, Nat.reduceAdd, Nat.reduceMul, Nat.reduceEqDiff, Nat.reduceLeDiff, Nat.zero_add, Nat.add_zero, ne_eq, reduceCtorEq, not_false_eq_true, not_true_eq_false, reduceIte, true_and, and_true, and_false, false_and, and_self, List.nil_append, List.cons_append, List.append_nil, List.getElem?_cons_zero, List.getElem?_cons_succ, List.drop_succ_cons, List.drop_zero, List.take_succ_cons, List.take_zero, List.set_cons_zero, List.set_cons_succ, List.getElem?_toArray, Option.bind_some, Bool.false_eq_true, Nat.add_one_ne_zero, Nat.succ_ne_self, List.map_cons, List.map_nil, Bool.not_true, Bool.not_false, List.replicate_succ, List.replicate_zero, List.mem_cons, List.not_mem_nil, or_false, false_or, or_true, true_or, forall_const, false_implies, implies_true, true_implies, Int.reduceToNat, Int.reduceLE, Int.reduceLT, Int.cast_ofNat_Int, bne, Int.reduceEq, Int.reduceNe, Int.reduceNeg, Int.reduceAdd, Int.reduceSub, Int.reduceMul, beq_self_eq_true, Int.reduceBEq, Int.reduceBNe, Bool.true_and, Bool.false_and, Bool.and_true, Bool.and_false, Bool.true_or, Bool.false_or, Bool.or_true, Bool.or_false, Nat.reduceLT, Nat.reduceSub, Nat.zero_min, Nat.min_zero, Nat.min_self, List.flatMap_cons, List.flatMap_nil, Int.toNat_natCast, strEq_self, Bool.not_eq_true', decide_true, decide_false, wl_u8_0, wl_u8_1, wl_u8_2, wl_u8_3, wl_u8_4, wl_u8_5, wl_u8_6, wl_u8_7, wl_u8_8, wl_u8_9, wl_u8_10, wl_u8_11, wl_u8_12, wl_u8_13, wl_u8_14, wl_u8_15, wl_u8_16, wl_u16_0, wl_u16_1, wl_u16_2, wl_u16_3, wl_u16_4, wl_u16_5, wl_u16_6, wl_u16_7, wl_u16_8, wl_u16_9, wl_u16_10, wl_u16_11, wl_u16_12, wl_u16_13, wl_u16_14, wl_u16_15, wl_u16_16, wl_u32_0, wl_u32_1, wl_u32_2, wl_u32_3, wl_u32_4, wl_u32_5, wl_u32_6, wl_u32_7, wl_u32_8, wl_u32_9, wl_u32_10, wl_u32_11, wl_u32_12, wl_u32_13, wl_u32_14, wl_u32_15, wl_u32_16, wl_u64_0, wl_u64_1, wl_u64_2, wl_u64_3, wl_u64_4, wl_u64_5, wl_u64_6, wl_u64_7, wl_u64_8, wl_u64_9, wl_u64_10, wl_u64_11, wl_u64_12, wl_u64_13, wl_u64_14, wl_u64_15, wl_u64_16, wl_i32_0, wl_i32_1, wl_i32_2, wl_i32_3, wl_i32_4, wl_i32_5, wl_i32_6, wl_i32_7, wl_i32_8, wl_i32_9, wl_i32_10, wl_i32_11, wl_i32_12, wl_i32_13, wl_i32_14, wl_i32_15, wl_i32_16, wl_i64_0, wl_i64_1, wl_i64_2, wl_i64_3, wl_i64_4, wl_i64_5, wl_i64_6, wl_i64_7, wl_i64_8, wl_i64_9, wl_i64_10, wl_i64_11, wl_i64_12, wl_i64_13, wl_i64_14, wl_i64_15, wl_i64_16, Try.underlying22, Try.underlying30, Try.underlying40, Try.underlying5, ty_ag_22, ty_ag_30, ty_ag_4, ty_ag_40, ty_ag_5, ty_ag_62, ty_ar_131, ty_ib_114, ty_of_62_0, ty_of_62_1, ty_of_62_10, ty_of_62_11, ty_of_62_12, ty_of_62_13, ty_of_62_14, ty_of_62_15, ty_of_62_2, ty_of_62_3, ty_of_62_4, ty_of_62_5, ty_of_62_6, ty_of_62_7, ty_of_62_8, ty_of_62_9, ty_ok_131, ty_pl_131_0, ty_pl_131_1, ty_pl_131_2, ty_pl_131_3, ty_pl_131_4, ty_st_9, ty_sz_131, ty_sz_22, ty_sz_30, ty_sz_4, ty_sz_40, ty_sz_5, ty_sz_62, ty_ze_131, ty_zs_114]
        | with_reducible refine gdb_split (fun h => ?_) (fun h => ?_)
        | (with_reducible refine drawK_id ?_); refine drawK_auto hmix (by kernel_rfl) ?_
        | (with_reducible refine draw_fin ?_ ?_); · kernel_rfl
        | (with_reducible refine draw_id ?_); kernel_rfl
        | (with_reducible refine callD_id (f := 61) ?_); refine callD_of (c59) rfl rfl ?_
        | (with_reducible refine callD_id (f := 66) ?_); refine callD_of (f66i b1) rfl rfl ?_
        | (with_reducible refine callD_id (f := 66) ?_); refine callD_of (f66i b2) rfl rfl ?_
        | (with_reducible refine callD_id (f := 66) ?_); refine callD_of (f66i b3) rfl rfl ?_
        | (with_reducible refine callD_id (f := 66) ?_); refine callD_of (f66i b4) rfl rfl ?_
        | (with_reducible refine callD_id (f := 66) ?_); refine callD_of (f66i b5) rfl rfl ?_
        | (with_reducible refine callD_id (f := 66) ?_); refine callD_of (f66i b6) rfl rfl ?_
        | (with_reducible refine callD_id (f := 67) ?_); refine callD_of (n1) rfl rfl ?_
        | (with_reducible refine callD_id (f := 67) ?_); refine callD_of (n2) rfl rfl ?_
        | (with_reducible refine callD_id (f := 67) ?_); refine callD_of (n3) rfl rfl ?_
        | (with_reducible refine callD_id (f := 67) ?_); refine callD_of (n4) rfl rfl ?_
        | (with_reducible refine loopK_id ?_); refine loopK_n 6 (by kernel_rfl) ?_
        | (with_reducible refine callK_id (f := 61) ?_); refine callK_fun (c59) rfl rfl ?_
        | (with_reducible refine callK_id (f := 67) ?_); refine callK_fun (n5) rfl rfl ?_
        | (with_reducible refine callK_id (f := 67) ?_); refine callK_fun (n6) rfl rfl ?_
        | (with_reducible refine callK_id (f := 67) ?_); refine callK_fun (n7) rfl rfl ?_
        | (with_reducible refine callK_id (f := 67) ?_); refine callK_fun (n8) rfl rfl ?_
        | (with_reducible refine callK_id (f := 67) ?_); refine callK_fun (n9) rfl rfl ?_
        | (with_reducible refine And.intro ?_ ?_; · omega)
    · have e : encS p = (tailS p ⟨#[66, 66, 3, 0, 0, 2, 2]⟩ ++ ⟨#[0]⟩, 0) := by simp [encS, hg, hk]
      have ro3 := good_ro hg ro0 (.inr hk)
      rw [e]
      clear e hg
      cases p with
      | mk k b1 b2 b3 b4 b5 b6 ro rt co br po ag mx he de =>
      simp only at hk ro3 k0 k1 ro0 ro1 rt0 rt1 co0 co1 br0 br1 po0 po1 ag0 ag1 mx0 mx1 he0 he1 de0 de1
      subst hk
      unfold encP at c59 ⊢
      refine callK_inline (rs := [.tmp 2, .tmp 3]) (n := 101) Try.func37 rfl rfl rfl (by kernel_rfl) (by kernel_rfl) (by simp only [List.length_cons, List.length_nil]; decide) ?_
      have hb1 := bi_rng b1
      have hb2 := bi_rng b2
      have hb3 := bi_rng b3
      have hb4 := bi_rng b4
      have hb5 := bi_rng b5
      have hb6 := bi_rng b6
      have m0 : IntKind.u64.wrap (2 * bi b2) = 2 * bi b2 := wr_u64 (by omega) (by omega)
      have s0 : IntKind.u64.wrap (bi b1 + 2 * bi b2) = bi b1 + 2 * bi b2 := wr_u64 (by omega) (by omega)
      have m1 : IntKind.u64.wrap (4 * ro) = 4 * ro := wr_u64 (by omega) (by omega)
      have s1 : IntKind.u64.wrap (bi b1 + 2 * bi b2 + 4 * ro) = bi b1 + 2 * bi b2 + 4 * ro := wr_u64 (by omega) (by omega)
      have m2 : IntKind.u64.wrap (16 * bi b3) = 16 * bi b3 := wr_u64 (by omega) (by omega)
      have s2 : IntKind.u64.wrap (bi b1 + 2 * bi b2 + 4 * ro + 16 * bi b3) = bi b1 + 2 * bi b2 + 4 * ro + 16 * bi b3 := wr_u64 (by omega) (by omega)
      have m3 : IntKind.u64.wrap (32 * bi b4) = 32 * bi b4 := wr_u64 (by omega) (by omega)
      have s3 : IntKind.u64.wrap (bi b1 + 2 * bi b2 + 4 * ro + 16 * bi b3 + 32 * bi b4) = bi b1 + 2 * bi b2 + 4 * ro + 16 * bi b3 + 32 * bi b4 := wr_u64 (by omega) (by omega)
      have m4 : IntKind.u64.wrap (64 * bi b5) = 64 * bi b5 := wr_u64 (by omega) (by omega)
      have s4 : IntKind.u64.wrap (bi b1 + 2 * bi b2 + 4 * ro + 16 * bi b3 + 32 * bi b4 + 64 * bi b5) = bi b1 + 2 * bi b2 + 4 * ro + 16 * bi b3 + 32 * bi b4 + 64 * bi b5 := wr_u64 (by omega) (by omega)
      have m5 : IntKind.u64.wrap (128 * bi b6) = 128 * bi b6 := wr_u64 (by omega) (by omega)
      have s5 : IntKind.u64.wrap (bi b1 + 2 * bi b2 + 4 * ro + 16 * bi b3 + 32 * bi b4 + 64 * bi b5 + 128 * bi b6) = bi b1 + 2 * bi b2 + 4 * ro + 16 * bi b3 + 32 * bi b4 + 64 * bi b5 + 128 * bi b6 := wr_u64 (by omega) (by omega)
      have hw1 : IntKind.u64.wrap ro = ro := wr_u64 (by omega) (by omega)
      have hN : bi b1 + 2 * bi b2 + 4 * ro + 16 * bi b3 + 32 * bi b4 + 64 * bi b5 + 128 * bi b6 = flagsN ⟨2, b1, b2, b3, b4, b5, b6, ro, rt, co, br, po, ag, mx, he, de⟩ := rfl
      have hn0 : 0 ≤ flagsN ⟨2, b1, b2, b3, b4, b5, b6, ro, rt, co, br, po, ag, mx, he, de⟩ := by rw [← hN]; omega
      have hn1 : flagsN ⟨2, b1, b2, b3, b4, b5, b6, ro, rt, co, br, po, ag, mx, he, de⟩ ≤ 255 := by rw [← hN]; omega
      have n1 := f67 (flagsN ⟨2, b1, b2, b3, b4, b5, b6, ro, rt, co, br, po, ag, mx, he, de⟩) 1 hn0 (by omega) (by omega) (by omega)
      have n2 := f67 rt 8 rt0 rt1 (by omega) (by omega)
      have n3 := f67 co 4 co0 (by omega) (by omega) (by omega)
      have n4 := f67 br 8 br0 br1 (by omega) (by omega)
      have n5 := f67 po 2 po0 (by omega) (by omega) (by omega)
      have w5 : IntKind.u64.wrap po = po := wr_u64 (by omega) (by omega)
      have n6 := f67 ag 2 ag0 (by omega) (by omega) (by omega)
      have w6 : IntKind.u64.wrap ag = ag := wr_u64 (by omega) (by omega)
      have n7 := f67 mx 2 mx0 (by omega) (by omega) (by omega)
      have w7 : IntKind.u64.wrap mx = mx := wr_u64 (by omega) (by omega)
      have n8 := f67 he 2 he0 (by omega) (by omega) (by omega)
      have w8 : IntKind.u64.wrap he = he := wr_u64 (by omega) (by omega)
      have n9 := f67 de 2 de0 (by omega) (by omega) (by omega)
      have w9 : IntKind.u64.wrap de = de := wr_u64 (by omega) (by omega)
      have w3 : IntKind.u64.wrap co = co := wr_u64 (by omega) (by omega)
      generalize hF : flagsN ⟨2, b1, b2, b3, b4, b5, b6, ro, rt, co, br, po, ag, mx, he, de⟩ = F at hN hn0 hn1 n1 ⊢
      have hWF : IntKind.u64.wrap F = F := wr_u64 hn0 (by omega)
      clear hb1 hb2 hb3 hb4 hb5 hb6
      repeat' first
        | with_reducible rfl
        | simp only [e_loopN, hw1, w3, w5, w6, w7, w8, w9, ByteArray.size_append, bb_size, tailS, hF, hN, hWF, m0, s0, m1, s1, m2, s2, m3, s3, m4, s4, m5, s5, size_l, pre1_2, e_nil, e_cons, e_gd, e_gdt, e_gdf, e_g0, e_g1, e_op, e_step, e_ret, e_put, e_junk, e_skip, e_reg, e_draw, e_seq, e_cond, e_block, e_exit, e_r, e_label, e_loop, q_sn, q_sr, q_se, q_bn, q_br, q_be, q_rr, q_rn, e_res0, e_res1, e_res2, e_b, d_nil, d_cons, d_op, d_step, d_ret, d_put, d_junk, d_inf, d_fin, g_not, g_and, argsTM, stepE, stBuiltin, stBox, stAlloc, stLoad, stStore, stField, stExtract, stBin, stUn, stConv, stNilCheck, stFieldV, stIndex, stIndexAddr, stLen, stMin, stMax, stBuild, fillI, stBuildSlice, setRows, stMakeSlice, stAppend, srcR, segR, rdCells, stSlice, bnd, stArr, stCopy, stConv2, isIntV, cutR, byteRows, rowByte, binStr, Option.map_some, Option.map_none, eq_self, canTL, canT, canH, canL, patL, gcH, gcT, gcI, get_gcT, mapC, pullS, pullI, pushS, push1, pushI, pushC, pullHW, roC, ix, List.map_map, Function.comp_def, List.zip_cons_cons, List.zip_nil_left, List.zip_nil_right, List.range'_zero, List.range'_succ, rd, get, put, IV.cells, ofValue, seg, spl, ldIV, binInt, eqI, cellsEq, leafEq, resI, flat, isT, upd, up1, nextM, cR, ptrC, nAl, isAl, List.length_cons, List.length_nil, List.length_append, List.length_replicate, List.length_set, Nat.reduceAdd, Nat.reduceMul, Nat.reduceEqDiff, Nat.reduceLeDiff, Nat.zero_add, Nat.add_zero, ne_eq, reduceCtorEq, not_false_eq_true, not_true_eq_false, reduceIte, true_and, and_true, and_false, false_and, and_self, List.nil_append, List.cons_append, List.append_nil, List.getElem?_cons_zero, List.getElem?_cons_succ, List.drop_succ_cons, List.drop_zero, List.take_succ_cons, List.take_zero, List.set_cons_zero, List.set_cons_succ, List.getElem?_toArray, Option.bind_some, Bool.false_eq_true, Nat.add_one_ne_zero, Nat.succ_ne_self, List.map_cons, List.map_nil, Bool.not_true, Bool.not_false, List.replicate_succ, List.replicate_zero, List.mem_cons, List.not_mem_nil, or_false, false_or, or_true, true_or, forall_const, false_implies, implies_true, true_implies, Int.reduceToNat, Int.reduceLE, Int.reduceLT, Int.cast_ofNat_Int, bne, Int.reduceEq, Int.reduceNe, Int.reduceNeg, Int.reduceAdd, Int.reduceSub, Int.reduceMul, beq_self_eq_true, Int.reduceBEq, Int.reduceBNe, Bool.true_and, Bool.false_and, Bool.and_true, Bool.and_false, Bool.true_or, Bool.false_or, Bool.or_true, Bool.or_false, Nat.reduceLT, Nat.reduceSub, Nat.zero_min, Nat.min_zero, Nat.min_self, List.flatMap_cons, List.flatMap_nil, Int.toNat_natCast, strEq_self, Bool.not_eq_true', decide_true, decide_false, wl_u8_0, wl_u8_1, wl_u8_2, wl_u8_3, wl_u8_4, wl_u8_5, wl_u8_6, wl_u8_7, wl_u8_8, wl_u8_9, wl_u8_10, wl_u8_11, wl_u8_12, wl_u8_13, wl_u8_14, wl_u8_15, wl_u8_16, wl_u16_0, wl_u16_1, wl_u16_2, wl_u16_3, wl_u16_4, wl_u16_5, wl_u16_6, wl_u16_7, wl_u16_8, wl_u16_9, wl_u16_10, wl_u16_11, wl_u16_12, wl_u16_13, wl_u16_14, wl_u16_15, wl_u16_16, wl_u32_0, wl_u32_1, wl_u32_2, wl_u32_3, wl_u32_4, wl_u32_5, wl_u32_6, wl_u32_7, wl_u32_8, wl_u32_9, wl_u32_10, wl_u32_11, wl_u32_12, wl_u32_13, wl_u32_14, wl_u32_15, wl_u32_16, wl_u64_0, wl_u64_1, wl_u64_2, wl_u64_3, wl_u64_4, wl_u64_5, wl_u64_6, wl_u64_7, wl_u64_8, wl_u64_9, wl_u64_10, wl_u64_11, wl_u64_12, wl_u64_13, wl_u64_14, wl_u64_15, wl_u64_16, wl_i32_0, wl_i32_1, wl_i32_2, wl_i32_3, wl_i32_4, wl_i32_5, wl_i32_6, wl_i32_7, wl_i32_8, wl_i32_9, wl_i32_10, wl_i32_11, wl_i32_12, wl_i32_13, wl_i32_14, wl_i32_15, wl_i32_16, wl_i64_0, wl_i64_1, wl_i64_2, wl_i64_3, wl_i64_4, wl_i64_5, wl_i64_6, wl_i64_7, wl_i64_8, wl_i64_9, wl_i64_10, wl_i64_11, wl_i64_12, wl_i64_13, wl_i64_14, wl_i64_15, wl_i64_16, Try.underlying22, Try.underlying30, Try.underlying40, Try.underlying5, ty_ag_22, ty_ag_30, ty_ag_4, ty_ag_40, ty_ag_5, ty_ag_62, ty_ar_131, ty_ib_114, ty_of_62_0, ty_of_62_1, ty_of_62_10, ty_of_62_11, ty_of_62_12, ty_of_62_13, ty_of_62_14, ty_of_62_15, ty_of_62_2, ty_of_62_3, ty_of_62_4, ty_of_62_5, ty_of_62_6, ty_of_62_7, ty_of_62_8, ty_of_62_9, ty_ok_131, ty_pl_131_0, ty_pl_131_1, ty_pl_131_2, ty_pl_131_3, ty_pl_131_4, ty_st_9, ty_sz_131, ty_sz_22, ty_sz_30, ty_sz_4, ty_sz_40, ty_sz_5, ty_sz_62, ty_ze_131, ty_zs_114]
        | with_reducible refine gdb_split (fun h => ?_) (fun h => ?_)
        | (with_reducible refine drawK_id ?_); refine drawK_auto hmix (by kernel_rfl) ?_
        | (with_reducible refine draw_fin ?_ ?_); · kernel_rfl
        | (with_reducible refine draw_id ?_); kernel_rfl
        | (with_reducible refine callD_id (f := 61) ?_); refine callD_of (c59) rfl rfl ?_
        | (with_reducible refine callD_id (f := 66) ?_); refine callD_of (f66i b1) rfl rfl ?_
        | (with_reducible refine callD_id (f := 66) ?_); refine callD_of (f66i b2) rfl rfl ?_
        | (with_reducible refine callD_id (f := 66) ?_); refine callD_of (f66i b3) rfl rfl ?_
        | (with_reducible refine callD_id (f := 66) ?_); refine callD_of (f66i b4) rfl rfl ?_
        | (with_reducible refine callD_id (f := 66) ?_); refine callD_of (f66i b5) rfl rfl ?_
        | (with_reducible refine callD_id (f := 66) ?_); refine callD_of (f66i b6) rfl rfl ?_
        | (with_reducible refine callD_id (f := 67) ?_); refine callD_of (n1) rfl rfl ?_
        | (with_reducible refine callD_id (f := 67) ?_); refine callD_of (n2) rfl rfl ?_
        | (with_reducible refine callD_id (f := 67) ?_); refine callD_of (n3) rfl rfl ?_
        | (with_reducible refine callD_id (f := 67) ?_); refine callD_of (n4) rfl rfl ?_
        | (with_reducible refine loopK_id ?_); refine loopK_n 6 (by kernel_rfl) ?_
        | (with_reducible refine callK_id (f := 61) ?_); refine callK_fun (c59) rfl rfl ?_
        | (with_reducible refine callK_id (f := 67) ?_); refine callK_fun (n5) rfl rfl ?_
        | (with_reducible refine callK_id (f := 67) ?_); refine callK_fun (n6) rfl rfl ?_
        | (with_reducible refine callK_id (f := 67) ?_); refine callK_fun (n7) rfl rfl ?_
        | (with_reducible refine callK_id (f := 67) ?_); refine callK_fun (n8) rfl rfl ?_
        | (with_reducible refine callK_id (f := 67) ?_); refine callK_fun (n9) rfl rfl ?_
        | (with_reducible refine And.intro ?_ ?_; · omega)
    · have e : encS p = (⟨#[66, 66, 3, 0, 0, 0, 128]⟩, 0) := by simp [encS, hg, hk]
      rw [e]
      clear e hg
      cases p with
      | mk k b1 b2 b3 b4 b5 b6 ro rt co br po ag mx he de =>
      simp only at hk  k0 k1 ro0 ro1 rt0 rt1 co0 co1 br0 br1 po0 po1 ag0 ag1 mx0 mx1 he0 he1 de0 de1
      subst hk
      unfold encP at c59 ⊢
      refine callK_inline (rs := [.tmp 2, .tmp 3]) (n := 101) Try.func37 rfl rfl rfl (by kernel_rfl) (by kernel_rfl) (by simp only [List.length_cons, List.length_nil]; decide) ?_
      repeat' first
        | with_reducible rfl
        | simp only [size_l, pre1_128, e_nil, e_cons, e_gd, e_gdt, e_gdf, e_g0, e_g1, e_op, e_step, e_ret, e_put, e_junk, e_skip, e_reg, e_draw, e_seq, e_cond, e_block, e_exit, e_r, e_label, e_loop, q_sn, q_sr, q_se, q_bn, q_br, q_be, q_rr, q_rn, e_res0, e_res1, e_res2, e_b, d_nil, d_cons, d_op, d_step, d_ret, d_put, d_junk, d_inf, d_fin, g_not, g_and, argsTM, stepE, stBuiltin, stBox, stAlloc, stLoad, stStore, stField, stExtract, stBin, stUn, stConv, stNilCheck, stFieldV, stIndex, stIndexAddr, stLen, stMin, stMax, stBuild, fillI, stBuildSlice, setRows, stMakeSlice, stAppend, srcR, segR, rdCells, stSlice, bnd, stArr, stCopy, stConv2, isIntV, cutR, byteRows, rowByte, binStr, Option.map_some, Option.map_none, eq_self, canTL, canT, canH, canL, patL, gcH, gcT, gcI, get_gcT, mapC, pullS, pullI, pushS, push1, pushI, pushC, pullHW, roC, ix, List.map_map, Function.comp_def, List.zip_cons_cons, List.zip_nil_left, List.zip_nil_right, List.range'_zero, List.range'_succ, rd, get, put, IV.cells, ofValue, seg, spl, ldIV, binInt, eqI, cellsEq, leafEq, resI, flat, isT, upd, up1, nextM, cR, ptrC, nAl, isAl, List.length_cons, List.length_nil, List.length_append, List.length_replicate, List.length_set, Nat.reduceAdd, Nat.reduceMul, Nat.reduceEqDiff, Nat.reduceLeDiff, Nat.zero_add, Nat.add_zero, ne_eq, reduceCtorEq, not_false_eq_true, not_true_eq_false, reduceIte, true_and, and_true, and_false, false_and, and_self, List.nil_append, List.cons_append, List.append_nil, List.getElem?_cons_zero, List.getElem?_cons_succ, List.drop_succ_cons, List.drop_zero, List.take_succ_cons, List.take_zero, List.set_cons_zero, List.set_cons_succ, List.getElem?_toArray, Option.bind_some, Bool.false_eq_true, Nat.add_one_ne_zero, Nat.succ_ne_self, List.map_cons, List.map_nil, Bool.not_true, Bool.not_false, List.replicate_succ, List.replicate_zero, List.mem_cons, List.not_mem_nil, or_false, false_or, or_true, true_or, forall_const, false_implies, implies_true, true_implies, Int.reduceToNat, Int.reduceLE, Int.reduceLT, Int.cast_ofNat_Int, bne, Int.reduceEq, Int.reduceNe, Int.reduceNeg, Int.reduceAdd, Int.reduceSub, Int.reduceMul, beq_self_eq_true, Int.reduceBEq, Int.reduceBNe, Bool.true_and, Bool.false_and, Bool.and_true, Bool.and_false, Bool.true_or, Bool.false_or, Bool.or_true, Bool.or_false, Nat.reduceLT, Nat.reduceSub, Nat.zero_min, Nat.min_zero, Nat.min_self, List.flatMap_cons, List.flatMap_nil, Int.toNat_natCast, strEq_self, Bool.not_eq_true', decide_true, decide_false, wl_u8_0, wl_u8_1, wl_u8_2, wl_u8_3, wl_u8_4, wl_u8_5, wl_u8_6, wl_u8_7, wl_u8_8, wl_u8_9, wl_u8_10, wl_u8_11, wl_u8_12, wl_u8_13, wl_u8_14, wl_u8_15, wl_u8_16, wl_u16_0, wl_u16_1, wl_u16_2, wl_u16_3, wl_u16_4, wl_u16_5, wl_u16_6, wl_u16_7, wl_u16_8, wl_u16_9, wl_u16_10, wl_u16_11, wl_u16_12, wl_u16_13, wl_u16_14, wl_u16_15, wl_u16_16, wl_u32_0, wl_u32_1, wl_u32_2, wl_u32_3, wl_u32_4, wl_u32_5, wl_u32_6, wl_u32_7, wl_u32_8, wl_u32_9, wl_u32_10, wl_u32_11, wl_u32_12, wl_u32_13, wl_u32_14, wl_u32_15, wl_u32_16, wl_u64_0, wl_u64_1, wl_u64_2, wl_u64_3, wl_u64_4, wl_u64_5, wl_u64_6, wl_u64_7, wl_u64_8, wl_u64_9, wl_u64_10, wl_u64_11, wl_u64_12, wl_u64_13, wl_u64_14, wl_u64_15, wl_u64_16, wl_i32_0, wl_i32_1, wl_i32_2, wl_i32_3, wl_i32_4, wl_i32_5, wl_i32_6, wl_i32_7, wl_i32_8, wl_i32_9, wl_i32_10, wl_i32_11, wl_i32_12, wl_i32_13, wl_i32_14, wl_i32_15, wl_i32_16, wl_i64_0, wl_i64_1, wl_i64_2, wl_i64_3, wl_i64_4, wl_i64_5, wl_i64_6, wl_i64_7, wl_i64_8, wl_i64_9, wl_i64_10, wl_i64_11, wl_i64_12, wl_i64_13, wl_i64_14, wl_i64_15, wl_i64_16, Try.underlying22, Try.underlying30, Try.underlying40, Try.underlying5, ty_ag_22, ty_ag_30, ty_ag_4, ty_ag_40, ty_ag_5, ty_ag_62, ty_ar_131, ty_ib_114, ty_of_62_0, ty_of_62_1, ty_of_62_10, ty_of_62_11, ty_of_62_12, ty_of_62_13, ty_of_62_14, ty_of_62_15, ty_of_62_2, ty_of_62_3, ty_of_62_4, ty_of_62_5, ty_of_62_6, ty_of_62_7, ty_of_62_8, ty_of_62_9, ty_ok_131, ty_pl_131_0, ty_pl_131_1, ty_pl_131_2, ty_pl_131_3, ty_pl_131_4, ty_st_9, ty_sz_131, ty_sz_22, ty_sz_30, ty_sz_4, ty_sz_40, ty_sz_5, ty_sz_62, ty_ze_131, ty_zs_114]
        | with_reducible refine gdb_split (fun h => ?_) (fun h => ?_)
        | (with_reducible refine drawK_id ?_); refine drawK_auto hmix (by kernel_rfl) ?_
        | (with_reducible refine draw_fin ?_ ?_); · kernel_rfl
        | (with_reducible refine draw_id ?_); kernel_rfl
        | (with_reducible refine callK_id (f := 61) ?_); refine callK_fun (c59) rfl rfl ?_
        | (with_reducible refine And.intro ?_ ?_; · omega)
end Go.Ev
