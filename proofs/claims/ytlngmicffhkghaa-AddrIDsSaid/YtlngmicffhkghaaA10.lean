/- A part of the proof: contracts of the functions that the statement reaches. -/
import Derived.Test.YtlngmicffhkghaaA9
namespace Go.Ev
open Go.Proofs
set_option maxRecDepth 100000
set_option linter.unusedSimpArgs false
set_option linter.unusedVariables false
set_option maxHeartbeats 4000000
theorem hexQ (m : Int) (h0 : 0 ≤ m) (h1 : m ≤ 255) : byteAt hexS (shR .u8 m 4).toNat = dig (IntKind.u8.wrap (Int.tdiv m 16)) ∧ byteAt hexS (bAnd .u8 m 15).toNat = dig (Int.tmod m 16) := by
  obtain ⟨b, rfl⟩ := fin256 m h0 h1; exact hexEq b
theorem backQ (m : Int) (h0 : 0 ≤ m) (h1 : m ≤ 255) : dok (ubI (dig (IntKind.u8.wrap (Int.tdiv m 16)))) = true ∧ dok (ubI (dig (Int.tmod m 16))) = true ∧ bOr .u8 (shL .u8 (dv (ubI (dig (IntKind.u8.wrap (Int.tdiv m 16))))) 4) (dv (ubI (dig (Int.tmod m 16)))) = m := by
  obtain ⟨b, rfl⟩ := fin256 m h0 h1; exact backEq b
theorem groupQ (m : Int) (h0 : 0 ≤ m) (h1 : m ≤ 255) : (bAnd .u8 m 1 == 1) = (Int.tmod m 2 == 1) := by
  obtain ⟨b, rfl⟩ := fin256 m h0 h1; exact group_eq b
theorem showC_eq (m0 m1 m2 m3 m4 m5 : Int) (l0 : 0 ≤ m0) (u0 : m0 ≤ 255) (l1 : 0 ≤ m1) (u1 : m1 ≤ 255) (l2 : 0 ≤ m2) (u2 : m2 ≤ 255) (l3 : 0 ≤ m3) (u3 : m3 ≤ 255) (l4 : 0 ≤ m4) (u4 : m4 ≤ 255) (l5 : 0 ≤ m5) (u5 : m5 ≤ 255) : showC m0 m1 m2 m3 m4 m5 = showR m0 m1 m2 m3 m4 m5 := by
  unfold showC joinB showR
  rw [mk_inj]
  simp only [hs2, (hexQ m0 l0 u0).1, (hexQ m0 l0 u0).2, (hexQ m1 l1 u1).1, (hexQ m1 l1 u1).2, (hexQ m2 l2 u2).1, (hexQ m2 l2 u2).2, (hexQ m3 l3 u3).1, (hexQ m3 l3 u3).2, (hexQ m4 l4 u4).1, (hexQ m4 l4 u4).2, (hexQ m5 l5 u5).1, (hexQ m5 l5 u5).2]
  rfl
theorem resS_eq (m0 m1 m2 m3 m4 m5 : Int) (l0 : 0 ≤ m0) (u0 : m0 ≤ 255) (l1 : 0 ≤ m1) (u1 : m1 ≤ 255) (l2 : 0 ≤ m2) (u2 : m2 ≤ 255) (l3 : 0 ≤ m3) (u3 : m3 ≤ 255) (l4 : 0 ≤ m4) (u4 : m4 ≤ 255) (l5 : 0 ≤ m5) (u5 : m5 ≤ 255) : resS m0 m1 m2 m3 m4 m5 = resR m0 m1 m2 m3 m4 m5 := by
  have k : ∀ (x y : Int), 0 ≤ x → x ≤ 255 → 0 ≤ y → y ≤ 255 → ((UInt8.ofNat x.toNat = UInt8.ofNat y.toNat) ↔ x = y) := fun x y a b c d => ofNat_inj a b c d
  have k0 : (UInt8.ofNat m0.toNat = 1) ↔ m0 = 1 := k m0 1 l0 u0 (by decide) (by decide)
  have k1 : (UInt8.ofNat m1.toNat = 128) ↔ m1 = 128 := k m1 128 l1 u1 (by decide) (by decide)
  have k2 : (UInt8.ofNat m2.toNat = 194) ↔ m2 = 194 := k m2 194 l2 u2 (by decide) (by decide)
  have k3 : (UInt8.ofNat m3.toNat = 0) ↔ m3 = 0 := k m3 0 l3 u3 (by decide) (by decide)
  have k4 : (UInt8.ofNat m4.toNat = 0) ↔ m4 = 0 := k m4 0 l4 u4 (by decide) (by decide)
  unfold resS resR
  rw [Bool.eq_iff_iff]
  simp only [Bool.and_eq_true, beq_iff_eq, strEq_iff, mk_inj, List.cons.injEq, and_true, k0, k1, k2, k3, k4, and_assoc]
theorem parse_show (m0 m1 m2 m3 m4 m5 : Int) (l0 : 0 ≤ m0) (u0 : m0 ≤ 255) (l1 : 0 ≤ m1) (u1 : m1 ≤ 255) (l2 : 0 ≤ m2) (u2 : m2 ≤ 255) (l3 : 0 ≤ m3) (u3 : m3 ≤ 255) (l4 : 0 ≤ m4) (u4 : m4 ≤ 255) (l5 : 0 ≤ m5) (u5 : m5 ≤ 255) : parseC (showR m0 m1 m2 m3 m4 m5) = (⟨m0, m1, m2, m3, m4, m5⟩, 0) := by
  have hs : (showR m0 m1 m2 m3 m4 m5).size = 17 := rfl
  have t0 : byteAt (showR m0 m1 m2 m3 m4 m5) 0 = ubI (dig (IntKind.u8.wrap (Int.tdiv m0 16))) := rfl
  have t1 : byteAt (showR m0 m1 m2 m3 m4 m5) 1 = ubI (dig (Int.tmod m0 16)) := rfl
  have t2 : byteAt (showR m0 m1 m2 m3 m4 m5) 2 = 58 := rfl
  have t3 : byteAt (showR m0 m1 m2 m3 m4 m5) 3 = ubI (dig (IntKind.u8.wrap (Int.tdiv m1 16))) := rfl
  have t4 : byteAt (showR m0 m1 m2 m3 m4 m5) 4 = ubI (dig (Int.tmod m1 16)) := rfl
  have t5 : byteAt (showR m0 m1 m2 m3 m4 m5) 5 = 58 := rfl
  have t6 : byteAt (showR m0 m1 m2 m3 m4 m5) 6 = ubI (dig (IntKind.u8.wrap (Int.tdiv m2 16))) := rfl
  have t7 : byteAt (showR m0 m1 m2 m3 m4 m5) 7 = ubI (dig (Int.tmod m2 16)) := rfl
  have t8 : byteAt (showR m0 m1 m2 m3 m4 m5) 8 = 58 := rfl
  have t9 : byteAt (showR m0 m1 m2 m3 m4 m5) 9 = ubI (dig (IntKind.u8.wrap (Int.tdiv m3 16))) := rfl
  have t10 : byteAt (showR m0 m1 m2 m3 m4 m5) 10 = ubI (dig (Int.tmod m3 16)) := rfl
  have t11 : byteAt (showR m0 m1 m2 m3 m4 m5) 11 = 58 := rfl
  have t12 : byteAt (showR m0 m1 m2 m3 m4 m5) 12 = ubI (dig (IntKind.u8.wrap (Int.tdiv m4 16))) := rfl
  have t13 : byteAt (showR m0 m1 m2 m3 m4 m5) 13 = ubI (dig (Int.tmod m4 16)) := rfl
  have t14 : byteAt (showR m0 m1 m2 m3 m4 m5) 14 = 58 := rfl
  have t15 : byteAt (showR m0 m1 m2 m3 m4 m5) 15 = ubI (dig (IntKind.u8.wrap (Int.tdiv m5 16))) := rfl
  have t16 : byteAt (showR m0 m1 m2 m3 m4 m5) 16 = ubI (dig (Int.tmod m5 16)) := rfl
  unfold parseC
  rw [hs, if_neg (by decide), if_neg (by decide)]
  simp only [okI, valI, Nat.reduceMul, Nat.reduceAdd, Nat.reduceSub, t0, t1, t2, t3, t4, t5, t6, t7, t8, t9, t10, t11, t12, t13, t14, t15, t16, (backQ m0 l0 u0).1, (backQ m0 l0 u0).2.1, (backQ m0 l0 u0).2.2, (backQ m1 l1 u1).1, (backQ m1 l1 u1).2.1, (backQ m1 l1 u1).2.2, (backQ m2 l2 u2).1, (backQ m2 l2 u2).2.1, (backQ m2 l2 u2).2.2, (backQ m3 l3 u3).1, (backQ m3 l3 u3).2.1, (backQ m3 l3 u3).2.2, (backQ m4 l4 u4).1, (backQ m4 l4 u4).2.1, (backQ m4 l4 u4).2.2, (backQ m5 l5 u5).1, (backQ m5 l5 u5).2.1, (backQ m5 l5 u5).2.2, beq_self_eq_true, Bool.true_or, Bool.or_true, Bool.and_true, Bool.and_self, if_true]
theorem law7 (m0 m1 m2 m3 m4 m5 : Int) (n : Int) (l0 : 0 ≤ m0) (u0 : m0 ≤ 255) (l1 : 0 ≤ m1) (u1 : m1 ≤ 255) (l2 : 0 ≤ m2) (u2 : m2 ≤ 255) (l3 : 0 ≤ m3) (u3 : m3 ≤ 255) (l4 : 0 ≤ m4) (u4 : m4 ≤ 255) (l5 : 0 ≤ m5) (u5 : m5 ≤ 255) (hn : 0 ≤ n) (hnu : n ≤ 18446744073709551615) : Fun Try.prog 7 [.a [.raw (.int .u8 m0), .raw (.int .u8 m1), .raw (.int .u8 m2), .raw (.int .u8 m3), .raw (.int .u8 m4), .raw (.int .u8 m5)], .s (.raw (.int .u64 n))] (.s (.raw (.bool true))) := by
  have hI := intM_eq l0 u0 l1 u1 l2 u2 l3 u3 l4 u4 l5 u5
  have hR := refInt_eq l0 u0 l1 u1 l2 u2 l3 u3 l4 u4 l5 u5
  have eI : refInt m0 m1 m2 m3 m4 m5 = intM m0 m1 m2 m3 m4 m5 := by rw [hI, hR]
  have hF : fromC (intM m0 m1 m2 m3 m4 m5) = ⟨m0, m1, m2, m3, m4, m5⟩ := by
    rw [fromC_eq _ (by rw [hI]; omega), hI]
    congr 1 <;> omega
  have hF2 := fromR_eq n hn hnu
  have hG := groupQ m0 l0 u0
  have hS := resS_eq m0 m1 m2 m3 m4 m5 l0 u0 l1 u1 l2 u2 l3 u3 l4 u4 l5 u5
  have hW := showC_eq m0 m1 m2 m3 m4 m5 l0 u0 l1 u1 l2 u2 l3 u3 l4 u4 l5 u5
  have hP := parse_show m0 m1 m2 m3 m4 m5 l0 u0 l1 u1 l2 u2 l3 u3 l4 u4 l5 u5
  have g23 := f23 m0 m1 m2 m3 m4 m5 l0 u0 l1 u1 l2 u2 l3 u3 l4 u4 l5 u5
  rw [hW] at g23
  have g17 := f17 (showR m0 m1 m2 m3 m4 m5)
  rw [hP] at g17
  have g26 := f26 (intM m0 m1 m2 m3 m4 m5)
  rw [hF] at g26
  have g26' := f26 n
  have g27 := f27 n
  rw [hF2] at g27
  have g29 := f29 m0 m1 m2 m3 m4 m5
  rw [hS] at g29
  have g25 := f25 m0 m1 m2 m3 m4 m5
  rw [eI] at g25
  clear hI hR hF hF2 hS hW hP eI
  refine fun_of rfl fun X => ?_
  refine callK_inline (rs := [.tmp 4]) (n := 68) Try.func7 rfl rfl rfl (by kernel_rfl) (by kernel_rfl) (by simp only [List.length_cons, List.length_nil]; decide) ?_
  repeat' first
    | with_reducible rfl
    | simp only [encM, beq_self_eq_true, hG, strEq_self, e_nil, e_cons, e_gd, e_gdt, e_gdf, e_g0, e_g1, e_op, e_step, e_ret, e_put, e_junk, e_skip, e_reg, e_draw, e_seq, e_cond, e_block, e_exit, e_r, e_label, e_loop, q_sn, q_sr, q_se, q_bn, q_br, q_be, q_rr, q_rn, e_res0, e_res1, e_res2, e_b, d_nil, d_cons, d_op, d_step, d_ret, d_put, d_junk, d_inf, d_fin, g_not, g_and, argsTM, stepE, stBuiltin, stBox, stAlloc, stLoad, stStore, stField, stExtract, stBin, stUn, stConv, stNilCheck, stFieldV, stIndex, stIndexAddr, stLen, stMin, stMax, stBuild, fillI, stBuildSlice, setRows, stMakeSlice, stAppend, srcR, segR, rdCells, stSlice, bnd, stArr, stCopy, stConv2, isIntV, cutR, byteRows, rowByte, binStr, Option.map_some, Option.map_none, eq_self, canTL, canT, canH, canL, patL, gcH, gcT, gcI, get_gcT, mapC, pullS, pullI, pushS, push1, pushI, pushC, pullHW, roC, ix, List.map_map, Function.comp_def, List.zip_cons_cons, List.zip_nil_left, List.zip_nil_right, List.range'_zero, List.range'_succ, rd, get, put, IV.cells, ofValue, seg, spl, ldIV, binInt, eqI, cellsEq, leafEq, resI, flat, isT, upd, up1, nextM, cR, ptrC, nAl, isAl, List.length_cons, List.length_nil, List.length_append, List.length_replicate, List.length_set, Nat.reduceAdd, Nat.reduceMul, Nat.reduceEqDiff, Nat.reduceLeDiff, Nat.zero_add, Nat.add_zero, ne_eq, reduceCtorEq, not_false_eq_true, not_true_eq_false, reduceIte, true_and, and_true, and_false, false_and, and_self, List.nil_append, List.cons_append, List.append_nil, List.getElem?_cons_zero, List.getElem?_cons_succ, List.drop_succ_cons, List.drop_zero, List.take_succ_cons, List.take_zero, List.set_cons_zero, List.set_cons_succ, List.getElem?_toArray, Option.bind_some, Bool.false_eq_true, Nat.add_one_ne_zero, Nat.succ_ne_self, List.map_cons, List.map_nil, Bool.not_true, Bool.not_false, List.replicate_succ, List.replicate_zero, List.mem_cons, List.not_mem_nil, or_false, false_or, or_true, true_or, forall_const, false_implies, implies_true, true_implies, Int.reduceToNat, Int.reduceLE, Int.reduceLT, Int.cast_ofNat_Int, bne, Int.reduceEq, Int.reduceNe, Int.reduceNeg, Int.reduceAdd, Int.reduceSub, Int.reduceMul, beq_self_eq_true, Int.reduceBEq, Int.reduceBNe, Bool.true_and, Bool.false_and, Bool.and_true, Bool.and_false, Bool.true_or, Bool.false_or, Bool.or_true, Bool.or_false, Nat.reduceLT, Nat.reduceSub, Nat.zero_min, Nat.min_zero, Nat.min_self, List.flatMap_cons, List.flatMap_nil, Int.toNat_natCast, strEq_self, Bool.not_eq_true', decide_true, decide_false, wl_u8_0, wl_u8_1, wl_u8_2, wl_u8_3, wl_u8_4, wl_u8_5, wl_u8_6, wl_u8_7, wl_u8_8, wl_u8_9, wl_u8_10, wl_u8_11, wl_u8_12, wl_u8_13, wl_u8_14, wl_u8_15, wl_u8_16, wl_u16_0, wl_u16_1, wl_u16_2, wl_u16_3, wl_u16_4, wl_u16_5, wl_u16_6, wl_u16_7, wl_u16_8, wl_u16_9, wl_u16_10, wl_u16_11, wl_u16_12, wl_u16_13, wl_u16_14, wl_u16_15, wl_u16_16, wl_u32_0, wl_u32_1, wl_u32_2, wl_u32_3, wl_u32_4, wl_u32_5, wl_u32_6, wl_u32_7, wl_u32_8, wl_u32_9, wl_u32_10, wl_u32_11, wl_u32_12, wl_u32_13, wl_u32_14, wl_u32_15, wl_u32_16, wl_u64_0, wl_u64_1, wl_u64_2, wl_u64_3, wl_u64_4, wl_u64_5, wl_u64_6, wl_u64_7, wl_u64_8, wl_u64_9, wl_u64_10, wl_u64_11, wl_u64_12, wl_u64_13, wl_u64_14, wl_u64_15, wl_u64_16, wl_i32_0, wl_i32_1, wl_i32_2, wl_i32_3, wl_i32_4, wl_i32_5, wl_i32_6, wl_i32_7, wl_i32_8, wl_i32_9, wl_i32_10, wl_i32_11, wl_i32_12, wl_i32_13, wl_i32_14, wl_i32_15, wl_i32_16, wl_i64_0, wl_i64_1, wl_i64_2, wl_i64_3, wl_i64_4, wl_i64_5, wl_i64_6, wl_i64_7, wl_i64_8, wl_i64_9, wl_i64_10, wl_i64_11, wl_i64_12, wl_i64_13, wl_i64_14, wl_i64_15, wl_i64_16, Try.underlying4, ty_ag_49, ty_ag_5, ty_ag_50, ty_ar_49, ty_eg_50, ty_lv_50, ty_sz_49, ty_sz_5, ty_sz_50, ty_ze_50]
    | with_reducible refine gdb_split (fun h => ?_) (fun h => ?_)
    | (with_reducible refine drawK_id ?_); refine drawK_auto hmix (by kernel_rfl) ?_
    | (with_reducible refine draw_fin ?_ ?_); · kernel_rfl
    | (with_reducible refine draw_id ?_); kernel_rfl
    | (with_reducible refine callD_id (f := 24) ?_); refine callD_of (f24 m0 m1 m2 m3 m4 m5) rfl rfl ?_
    | (with_reducible refine callD_id (f := 25) ?_); refine callD_of (g25) rfl rfl ?_
    | (with_reducible refine callD_id (f := 26) ?_); refine callD_of (g26) rfl rfl ?_
    | (with_reducible refine callD_id (f := 26) ?_); refine callD_of (g26') rfl rfl ?_
    | (with_reducible refine callD_id (f := 27) ?_); refine callD_of (g27) rfl rfl ?_
    | (with_reducible refine callD_id (f := 28) ?_); refine callD_of (f28 m0 m1 m2 m3 m4 m5) rfl rfl ?_
    | (with_reducible refine callD_id (f := 29) ?_); refine callD_of (g29) rfl rfl ?_
    | (with_reducible refine callD_id (f := 30) ?_); refine callD_of (f30 m0 m1 m2 m3 m4 m5) rfl rfl ?_
    | (with_reducible refine callD_id (f := 23) ?_); refine callD_of (g23) rfl rfl ?_
    | (with_reducible refine callD_id (f := 31) ?_); refine callD_of (f31 m0 m1 m2 m3 m4 m5) rfl rfl ?_
    | (with_reducible refine callK_id (f := 16) ?_); refine callK_fun (f16) rfl rfl ?_
    | (with_reducible refine callK_id (f := 17) ?_); refine callK_fun (g17) rfl rfl ?_
    | (with_reducible refine callK_id (f := 23) ?_); refine callK_fun (g23) rfl rfl ?_
    | (with_reducible refine And.intro ?_ ?_; · omega)
end Go.Ev
