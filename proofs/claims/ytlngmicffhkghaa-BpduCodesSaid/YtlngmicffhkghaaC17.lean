/- A part of the proof: contracts of the functions that the statement reaches. -/
import Derived.Test.YtlngmicffhkghaaC16
import Derived.Test.YtlngmicffhkghaaA2
namespace Go.Ev
open Go.Proofs
set_option maxRecDepth 100000
set_option linter.unusedSimpArgs false
set_option linter.unusedVariables false
set_option maxHeartbeats 4000000
theorem grp_show : strEq (showC 1 128 194 0 0 0) ⟨#[48, 49, 58, 56, 48, 58, 99, 50, 58, 48, 48, 58, 48, 48, 58, 48, 48]⟩ = true := by decide +kernel
theorem ext_app (S M : ByteArray) : (S ++ M).extract 0 S.size = S := by
  apply ByteArray.ext
  simp only [ByteArray.data_extract, ByteArray.data_append]
  rw [← data_size, Array.extract_append]
  simp
theorem app_nil (S : ByteArray) : S ++ (⟨#[]⟩ : ByteArray) = S := by
  apply ByteArray.ext; simp [ByteArray.data_append]
theorem law10 (p : PD) (hp : p.ok) (s0 s1 s2 s3 s4 s5 : Int) (more : ByteArray) : Fun Try.prog 10 [.a (encP p), .a [.raw (.int .u8 s0), .raw (.int .u8 s1), .raw (.int .u8 s2), .raw (.int .u8 s3), .raw (.int .u8 s4), .raw (.int .u8 s5)], .s (.raw (.string more))] (.s (.raw (.bool true))) := by
  refine fun_of rfl fun X => ?_
  obtain ⟨M, hE⟩ : ∃ D, more.extract 0 (if (40 : Int) < (more.size : Int) then 40 else (more.size : Int)).toNat = D := ⟨_, rfl⟩
  have hM : M.size ≤ 40 := by
    rw [← hE]; simp only [ByteArray.size_extract]; split <;> omega
  have c36 := f36 p hp
  have c37 := f37 p hp
  have c22 := f22 p
  refine callK_inline (rs := [.tmp 6]) (n := 109) Try.func10 rfl rfl rfl (by kernel_rfl) (by kernel_rfl) (by simp only [List.length_cons, List.length_nil]; decide) ?_
  cases hg : goodB p with
  | false =>
    have c38 := f38_bad s0 s1 s2 s3 s4 s5 p hp hg
    have e : encS p = (⟨#[]⟩, 8) := by simp [encS, hg]
    have e1 : strEq ⟨#[]⟩ ⟨#[]⟩ = true := strEq_self _
    rw [e] at c36 c37
    clear e hg hp hM
    unfold encP at *
    repeat' first
      | with_reducible rfl
      | simp only [hE, e1, beq_self_eq_true, Bool.and_self, e_nil, e_cons, e_gd, e_gdt, e_gdf, e_g0, e_g1, e_op, e_step, e_ret, e_put, e_junk, e_skip, e_reg, e_draw, e_seq, e_cond, e_block, e_exit, e_r, e_label, e_loop, q_sn, q_sr, q_se, q_bn, q_br, q_be, q_rr, q_rn, e_res0, e_res1, e_res2, e_b, d_nil, d_cons, d_op, d_step, d_ret, d_put, d_junk, d_inf, d_fin, g_not, g_and, argsTM, stepE, stBuiltin, stBox, stAlloc, stLoad, stStore, stField, stExtract, stBin, stUn, stConv, stNilCheck, stFieldV, stIndex, stIndexAddr, stLen, stMin, stMax, stBuild, fillI, stBuildSlice, setRows, stMakeSlice, stAppend, srcR, segR, rdCells, stSlice, bnd, stArr, stCopy, stConv2, isIntV, cutR, byteRows, rowByte, binStr, Option.map_some, Option.map_none, eq_self, canTL, canT, canH, canL, patL, gcH, gcT, gcI, get_gcT, mapC, pullS, pullI, pushS, push1, pushI, pushC, pullHW, roC, ix, List.map_map, Function.comp_def, List.zip_cons_cons, List.zip_nil_left, List.zip_nil_right, List.range'_zero, List.range'_succ, rd, get, put, IV.cells, ofValue, seg, spl, ldIV, binInt, eqI, cellsEq, leafEq, resI, flat, isT, upd, up1, nextM, cR, ptrC, nAl, isAl, List.length_cons, List.length_nil, List.length_append, List.length_replicate, List.length_set, Nat.reduceAdd, Nat.reduceMul, Nat.reduceEqDiff, Nat.reduceLeDiff, Nat.zero_add, Nat.add_zero, ne_eq, reduceCtorEq, not_false_eq_true, not_true_eq_false, reduceIte, true_and, and_true, and_false, false_and, and_self, List.nil_append, List.cons_append, List.append_nil, List.getElem?_cons_zero, List.getElem?_cons_succ, List.drop_succ_cons, List.drop_zero, List.take_succ_cons, List.take_zero, List.set_cons_zero, List.set_cons_succ, List.getElem?_toArray, Option.bind_some, Bool.false_eq_true, Nat.add_one_ne_zero, Nat.succ_ne_self, List.map_cons, List.map_nil, Bool.not_true, Bool.not_false, List.replicate_succ, List.replicate_zero, List.mem_cons, List.not_mem_nil, or_false, false_or, or_true, true_or, forall_const, false_implies, implies_true, true_implies, Int.reduceToNat, Int.reduceLE, Int.reduceLT, Int.cast_ofNat_Int, bne, Int.reduceEq, Int.reduceNe, Int.reduceNeg, Int.reduceAdd, Int.reduceSub, Int.reduceMul, beq_self_eq_true, Int.reduceBEq, Int.reduceBNe, Bool.true_and, Bool.false_and, Bool.and_true, Bool.and_false, Bool.true_or, Bool.false_or, Bool.or_true, Bool.or_false, Nat.reduceLT, Nat.reduceSub, Nat.zero_min, Nat.min_zero, Nat.min_self, List.flatMap_cons, List.flatMap_nil, Int.toNat_natCast, strEq_self, Bool.not_eq_true', decide_true, decide_false, wl_u8_0, wl_u8_1, wl_u8_2, wl_u8_3, wl_u8_4, wl_u8_5, wl_u8_6, wl_u8_7, wl_u8_8, wl_u8_9, wl_u8_10, wl_u8_11, wl_u8_12, wl_u8_13, wl_u8_14, wl_u8_15, wl_u8_16, wl_u16_0, wl_u16_1, wl_u16_2, wl_u16_3, wl_u16_4, wl_u16_5, wl_u16_6, wl_u16_7, wl_u16_8, wl_u16_9, wl_u16_10, wl_u16_11, wl_u16_12, wl_u16_13, wl_u16_14, wl_u16_15, wl_u16_16, wl_u32_0, wl_u32_1, wl_u32_2, wl_u32_3, wl_u32_4, wl_u32_5, wl_u32_6, wl_u32_7, wl_u32_8, wl_u32_9, wl_u32_10, wl_u32_11, wl_u32_12, wl_u32_13, wl_u32_14, wl_u32_15, wl_u32_16, wl_u64_0, wl_u64_1, wl_u64_2, wl_u64_3, wl_u64_4, wl_u64_5, wl_u64_6, wl_u64_7, wl_u64_8, wl_u64_9, wl_u64_10, wl_u64_11, wl_u64_12, wl_u64_13, wl_u64_14, wl_u64_15, wl_u64_16, wl_i32_0, wl_i32_1, wl_i32_2, wl_i32_3, wl_i32_4, wl_i32_5, wl_i32_6, wl_i32_7, wl_i32_8, wl_i32_9, wl_i32_10, wl_i32_11, wl_i32_12, wl_i32_13, wl_i32_14, wl_i32_15, wl_i32_16, wl_i64_0, wl_i64_1, wl_i64_2, wl_i64_3, wl_i64_4, wl_i64_5, wl_i64_6, wl_i64_7, wl_i64_8, wl_i64_9, wl_i64_10, wl_i64_11, wl_i64_12, wl_i64_13, wl_i64_14, wl_i64_15, wl_i64_16, Try.underlying3, Try.underlying40, ty_ag_49, ty_ag_50, ty_ag_58, ty_ag_66, ty_ag_84, ty_ag_9, ty_eg_58, ty_eg_84, ty_lv_58, ty_lv_84, ty_of_84_0, ty_of_84_7, ty_ok_84, ty_pl_84_0, ty_pl_84_1, ty_pl_84_6, ty_pl_84_7, ty_st_9, ty_sz_49, ty_sz_50, ty_sz_58, ty_sz_66, ty_sz_84, ty_sz_9, ty_ze_58, ty_ze_84]
      | with_reducible refine gdb_split (fun h => ?_) (fun h => ?_)
      | (with_reducible refine drawK_id ?_); refine drawK_auto hmix (by kernel_rfl) ?_
      | (with_reducible refine draw_fin ?_ ?_); · kernel_rfl
      | (with_reducible refine draw_id ?_); kernel_rfl
      | (with_reducible refine callK_id (f := 19) ?_); refine callK_fun (f19) rfl rfl ?_
      | (with_reducible refine callK_id (f := 22) ?_); refine callK_fun (c22) rfl rfl ?_
      | (with_reducible refine callK_id (f := 36) ?_); refine callK_fun (c36) rfl rfl ?_
      | (with_reducible refine callK_id (f := 37) ?_); refine callK_fun (c37) rfl rfl ?_
      | (with_reducible refine callK_id (f := 38) ?_); refine callK_fun (c38) rfl rfl ?_
      | (with_reducible refine And.intro ?_ ?_; · omega)
  | true =>
    obtain ⟨S, hS, hr, h39⟩ : ∃ S, encS p = (S, 0) ∧ (∀ m, decS (S ++ m) = (p, 0)) ∧ S.size ≤ 39 :=
      ⟨(encS p).1, Prod.ext rfl (round p hp hg ⟨#[]⟩).2.1, fun m => (round p hp hg m).1, (round p hp hg ⟨#[]⟩).2.2⟩
    have c38 := f38_good s0 s1 s2 s3 s4 s5 p hp S hS
    rw [hS] at c36 c37
    have c20 := f20 (S ++ M)
    rw [hr M] at c20
    have hw : IntKind.u16.wrap (S.size : Int) = (S.size : Int) := wr_u16 (by omega) (by omega)
    rw [hw] at c38
    have c35 := f35 1 128 194 0 0 0 s0 s1 s2 s3 s4 s5 false 0 false 0 (S.size : Int) (S ++ M) (by omega) (by omega)
    have ho : openS 1 128 194 0 0 0 false (S.size : Int) (S ++ M) = (p, 0) := by
      have h1 : decide ((1500 : Int) < (S.size : Int)) = false := decide_eq_false (by omega)
      have h2 : ¬ (((S ++ M).size : Int) < (S.size : Int)) := by simp only [ByteArray.size_append]; omega
      have h3 : grpB 1 128 194 0 0 0 = true := by decide
      have h4 := hr ⟨#[]⟩
      rw [app_nil] at h4
      simp only [openS, h1, h3, if_neg h2, Bool.not_true, Bool.or_self, Bool.false_eq_true, if_false, Int.toNat_natCast, ext_app, h4]
    rw [ho] at c35
    have e1 : strEq S S = true := strEq_self _
    have c23 := f23 1 128 194 0 0 0 (by omega) (by omega) (by omega) (by omega) (by omega) (by omega) (by omega) (by omega) (by omega) (by omega) (by omega) (by omega)
    have e2 := grp_show
    generalize showC 1 128 194 0 0 0 = G at c23 e2
    clear hr hS ho hg hp
    unfold encP at *
    repeat' first
      | with_reducible rfl
      | simp only [hE, hw, e1, e2, beq_self_eq_true, Bool.and_self, e_nil, e_cons, e_gd, e_gdt, e_gdf, e_g0, e_g1, e_op, e_step, e_ret, e_put, e_junk, e_skip, e_reg, e_draw, e_seq, e_cond, e_block, e_exit, e_r, e_label, e_loop, q_sn, q_sr, q_se, q_bn, q_br, q_be, q_rr, q_rn, e_res0, e_res1, e_res2, e_b, d_nil, d_cons, d_op, d_step, d_ret, d_put, d_junk, d_inf, d_fin, g_not, g_and, argsTM, stepE, stBuiltin, stBox, stAlloc, stLoad, stStore, stField, stExtract, stBin, stUn, stConv, stNilCheck, stFieldV, stIndex, stIndexAddr, stLen, stMin, stMax, stBuild, fillI, stBuildSlice, setRows, stMakeSlice, stAppend, srcR, segR, rdCells, stSlice, bnd, stArr, stCopy, stConv2, isIntV, cutR, byteRows, rowByte, binStr, Option.map_some, Option.map_none, eq_self, canTL, canT, canH, canL, patL, gcH, gcT, gcI, get_gcT, mapC, pullS, pullI, pushS, push1, pushI, pushC, pullHW, roC, ix, List.map_map, Function.comp_def, List.zip_cons_cons, List.zip_nil_left, List.zip_nil_right, List.range'_zero, List.range'_succ, rd, get, put, IV.cells, ofValue, seg, spl, ldIV, binInt, eqI, cellsEq, leafEq, resI, flat, isT, upd, up1, nextM, cR, ptrC, nAl, isAl, List.length_cons, List.length_nil, List.length_append, List.length_replicate, List.length_set, Nat.reduceAdd, Nat.reduceMul, Nat.reduceEqDiff, Nat.reduceLeDiff, Nat.zero_add, Nat.add_zero, ne_eq, reduceCtorEq, not_false_eq_true, not_true_eq_false, reduceIte, true_and, and_true, and_false, false_and, and_self, List.nil_append, List.cons_append, List.append_nil, List.getElem?_cons_zero, List.getElem?_cons_succ, List.drop_succ_cons, List.drop_zero, List.take_succ_cons, List.take_zero, List.set_cons_zero, List.set_cons_succ, List.getElem?_toArray, Option.bind_some, Bool.false_eq_true, Nat.add_one_ne_zero, Nat.succ_ne_self, List.map_cons, List.map_nil, Bool.not_true, Bool.not_false, List.replicate_succ, List.replicate_zero, List.mem_cons, List.not_mem_nil, or_false, false_or, or_true, true_or, forall_const, false_implies, implies_true, true_implies, Int.reduceToNat, Int.reduceLE, Int.reduceLT, Int.cast_ofNat_Int, bne, Int.reduceEq, Int.reduceNe, Int.reduceNeg, Int.reduceAdd, Int.reduceSub, Int.reduceMul, beq_self_eq_true, Int.reduceBEq, Int.reduceBNe, Bool.true_and, Bool.false_and, Bool.and_true, Bool.and_false, Bool.true_or, Bool.false_or, Bool.or_true, Bool.or_false, Nat.reduceLT, Nat.reduceSub, Nat.zero_min, Nat.min_zero, Nat.min_self, List.flatMap_cons, List.flatMap_nil, Int.toNat_natCast, strEq_self, Bool.not_eq_true', decide_true, decide_false, wl_u8_0, wl_u8_1, wl_u8_2, wl_u8_3, wl_u8_4, wl_u8_5, wl_u8_6, wl_u8_7, wl_u8_8, wl_u8_9, wl_u8_10, wl_u8_11, wl_u8_12, wl_u8_13, wl_u8_14, wl_u8_15, wl_u8_16, wl_u16_0, wl_u16_1, wl_u16_2, wl_u16_3, wl_u16_4, wl_u16_5, wl_u16_6, wl_u16_7, wl_u16_8, wl_u16_9, wl_u16_10, wl_u16_11, wl_u16_12, wl_u16_13, wl_u16_14, wl_u16_15, wl_u16_16, wl_u32_0, wl_u32_1, wl_u32_2, wl_u32_3, wl_u32_4, wl_u32_5, wl_u32_6, wl_u32_7, wl_u32_8, wl_u32_9, wl_u32_10, wl_u32_11, wl_u32_12, wl_u32_13, wl_u32_14, wl_u32_15, wl_u32_16, wl_u64_0, wl_u64_1, wl_u64_2, wl_u64_3, wl_u64_4, wl_u64_5, wl_u64_6, wl_u64_7, wl_u64_8, wl_u64_9, wl_u64_10, wl_u64_11, wl_u64_12, wl_u64_13, wl_u64_14, wl_u64_15, wl_u64_16, wl_i32_0, wl_i32_1, wl_i32_2, wl_i32_3, wl_i32_4, wl_i32_5, wl_i32_6, wl_i32_7, wl_i32_8, wl_i32_9, wl_i32_10, wl_i32_11, wl_i32_12, wl_i32_13, wl_i32_14, wl_i32_15, wl_i32_16, wl_i64_0, wl_i64_1, wl_i64_2, wl_i64_3, wl_i64_4, wl_i64_5, wl_i64_6, wl_i64_7, wl_i64_8, wl_i64_9, wl_i64_10, wl_i64_11, wl_i64_12, wl_i64_13, wl_i64_14, wl_i64_15, wl_i64_16, Try.underlying3, Try.underlying40, ty_ag_49, ty_ag_50, ty_ag_58, ty_ag_66, ty_ag_84, ty_ag_9, ty_eg_58, ty_eg_84, ty_lv_58, ty_lv_84, ty_of_84_0, ty_of_84_7, ty_ok_84, ty_pl_84_0, ty_pl_84_1, ty_pl_84_6, ty_pl_84_7, ty_st_9, ty_sz_49, ty_sz_50, ty_sz_58, ty_sz_66, ty_sz_84, ty_sz_9, ty_ze_58, ty_ze_84]
      | with_reducible refine gdb_split (fun h => ?_) (fun h => ?_)
      | (with_reducible refine drawK_id ?_); refine drawK_auto hmix (by kernel_rfl) ?_
      | (with_reducible refine draw_fin ?_ ?_); · kernel_rfl
      | (with_reducible refine draw_id ?_); kernel_rfl
      | (with_reducible refine callD_id (f := 39) ?_); refine callD_of (f39) rfl rfl ?_
      | (with_reducible refine callK_id (f := 19) ?_); refine callK_fun (f19) rfl rfl ?_
      | (with_reducible refine callK_id (f := 22) ?_); refine callK_fun (c22) rfl rfl ?_
      | (with_reducible refine callK_id (f := 36) ?_); refine callK_fun (c36) rfl rfl ?_
      | (with_reducible refine callK_id (f := 37) ?_); refine callK_fun (c37) rfl rfl ?_
      | (with_reducible refine callK_id (f := 38) ?_); refine callK_fun (c38) rfl rfl ?_
      | (with_reducible refine callK_id (f := 20) ?_); refine callK_fun (c20) rfl rfl ?_
      | (with_reducible refine callK_id (f := 35) ?_); refine callK_fun (c35) rfl rfl ?_
      | (with_reducible refine callK_id (f := 23) ?_); refine callK_fun (c23) rfl rfl ?_
      | (with_reducible refine And.intro ?_ ?_; · omega)
end Go.Ev
