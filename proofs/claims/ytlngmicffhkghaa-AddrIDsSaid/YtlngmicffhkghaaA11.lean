/- A part of the proof: contracts of the functions that the statement reaches. -/
import Derived.Test.YtlngmicffhkghaaA10
namespace Go.Ev
open Go.Proofs
set_option maxRecDepth 100000
set_option linter.unusedSimpArgs false
set_option linter.unusedVariables false
set_option maxHeartbeats 4000000
theorem w16 (x : Int) : IntKind.u16.wrap x = x % 65536 := by simp [IntKind.wrap, IntKind.signed, IntKind.bits]
theorem make_eq (p : Int) (hp : 0 ≤ p) (hpu : p ≤ 65535) (m0 m1 m2 m3 m4 m5 : Int) (l0 : 0 ≤ m0) (u0 : m0 ≤ 255) (l1 : 0 ≤ m1) (u1 : m1 ≤ 255) (l2 : 0 ≤ m2) (u2 : m2 ≤ 255) (l3 : 0 ≤ m3) (u3 : m3 ≤ 255) (l4 : 0 ≤ m4) (u4 : m4 ≤ 255) (l5 : 0 ≤ m5) (u5 : m5 ≤ 255) : makeI p m0 m1 m2 m3 m4 m5 = 281474976710656 * p + intM m0 m1 m2 m3 m4 m5 := by
  have hI := intM_eq l0 u0 l1 u1 l2 u2 l3 u3 l4 u4 l5 u5
  have e : shL .u64 (IntKind.u64.wrap p) 48 = ((2 ^ 48 * p.toNat : Nat) : Int) := by
    unfold shL
    rw [show (2 : Int) ^ (min (48 : Int).toNat IntKind.u64.bits) = 281474976710656 from by decide, w64, w64]
    omega
  have := or_nat 48 p.toNat (intM m0 m1 m2 m3 m4 m5).toNat (by omega) (by omega)
  unfold makeI
  rw [e]
  rw [show intM m0 m1 m2 m3 m4 m5 = (((intM m0 m1 m2 m3 m4 m5).toNat : Nat) : Int) by omega]
  rw [this]; omega
theorem prio_eq (d : Int) (h : 0 ≤ d) (hu : d ≤ 18446744073709551615) : prioI d = d / 281474976710656 := by
  unfold prioI shR
  rw [w16, show (48 : Int).toNat = 48 from rfl, Nat.min_eq_left (by decide)]
  rw [Int.fdiv_eq_ediv_of_nonneg _ (Int.pow_nonneg (by decide))]
  omega
theorem id_split (p q I J : Int) (hI : 0 ≤ I) (hIu : I < 281474976710656) (hJ : 0 ≤ J) (hJu : J < 281474976710656) :
    decide (281474976710656 * p + I < 281474976710656 * q + J) = (decide (p < q) || ((p == q) && decide (I < J))) ∧ (281474976710656 * p + I == 281474976710656 * q + J) = ((p == q) && (I == J)) := by
  constructor
  · rw [Bool.eq_iff_iff]; simp only [decide_eq_true_eq, Bool.or_eq_true, Bool.and_eq_true, beq_iff_eq]; omega
  · rw [Bool.eq_iff_iff]; simp only [Bool.and_eq_true, beq_iff_eq]; omega
theorem num_inj (m0 m1 m2 m3 m4 m5 n0 n1 n2 n3 n4 n5 : Int) (l0 : 0 ≤ m0) (u0 : m0 ≤ 255) (l1 : 0 ≤ m1) (u1 : m1 ≤ 255) (l2 : 0 ≤ m2) (u2 : m2 ≤ 255) (l3 : 0 ≤ m3) (u3 : m3 ≤ 255) (l4 : 0 ≤ m4) (u4 : m4 ≤ 255) (l5 : 0 ≤ m5) (u5 : m5 ≤ 255) (k0 : 0 ≤ n0) (v0 : n0 ≤ 255) (k1 : 0 ≤ n1) (v1 : n1 ≤ 255) (k2 : 0 ≤ n2) (v2 : n2 ≤ 255) (k3 : 0 ≤ n3) (v3 : n3 ≤ 255) (k4 : 0 ≤ n4) (v4 : n4 ≤ 255) (k5 : 0 ≤ n5) (v5 : n5 ≤ 255) : (intM m0 m1 m2 m3 m4 m5 == intM n0 n1 n2 n3 n4 n5) = ((m0 == n0) && ((m1 == n1) && ((m2 == n2) && ((m3 == n3) && ((m4 == n4) && (m5 == n5)))))) := by
  rw [intM_eq l0 u0 l1 u1 l2 u2 l3 u3 l4 u4 l5 u5, intM_eq k0 v0 k1 v1 k2 v2 k3 v3 k4 v4 k5 v5, Bool.eq_iff_iff]
  simp only [Bool.and_eq_true, beq_iff_eq]
  constructor
  · intro h
    have e0 : m0 = n0 := by omega
    subst e0
    have e1 : m1 = n1 := by omega
    subst e1
    have e2 : m2 = n2 := by omega
    subst e2
    have e3 : m3 = n3 := by omega
    subst e3
    have e4 : m4 = n4 := by omega
    subst e4
    exact ⟨rfl, rfl, rfl, rfl, rfl, by omega⟩
  · rintro ⟨rfl, rfl, rfl, rfl, rfl, rfl⟩; rfl
theorem id_facts (p : Int) (hp : 0 ≤ p) (hpu : p ≤ 65535) (m0 m1 m2 m3 m4 m5 : Int) (l0 : 0 ≤ m0) (u0 : m0 ≤ 255) (l1 : 0 ≤ m1) (u1 : m1 ≤ 255) (l2 : 0 ≤ m2) (u2 : m2 ≤ 255) (l3 : 0 ≤ m3) (u3 : m3 ≤ 255) (l4 : 0 ≤ m4) (u4 : m4 ≤ 255) (l5 : 0 ≤ m5) (u5 : m5 ≤ 255) : makeI p m0 m1 m2 m3 m4 m5 = 281474976710656 * p + intM m0 m1 m2 m3 m4 m5 ∧ 0 ≤ intM m0 m1 m2 m3 m4 m5 ∧ intM m0 m1 m2 m3 m4 m5 < 281474976710656 ∧ prioI (makeI p m0 m1 m2 m3 m4 m5) = p ∧ fromC (makeI p m0 m1 m2 m3 m4 m5) = ⟨m0, m1, m2, m3, m4, m5⟩ := by
  have hI := intM_eq l0 u0 l1 u1 l2 u2 l3 u3 l4 u4 l5 u5
  have h := make_eq p hp hpu m0 m1 m2 m3 m4 m5 l0 u0 l1 u1 l2 u2 l3 u3 l4 u4 l5 u5
  refine ⟨h, by omega, by omega, ?_, ?_⟩
  · rw [h, prio_eq _ (by omega) (by omega)]; omega
  · rw [h, fromC_eq _ (by omega), hI]; congr 1 <;> omega
theorem law8 (p q : Int) (hp : 0 ≤ p) (hpu : p ≤ 65535) (hq : 0 ≤ q) (hqu : q ≤ 65535) (m0 m1 m2 m3 m4 m5 n0 n1 n2 n3 n4 n5 : Int) (l0 : 0 ≤ m0) (u0 : m0 ≤ 255) (l1 : 0 ≤ m1) (u1 : m1 ≤ 255) (l2 : 0 ≤ m2) (u2 : m2 ≤ 255) (l3 : 0 ≤ m3) (u3 : m3 ≤ 255) (l4 : 0 ≤ m4) (u4 : m4 ≤ 255) (l5 : 0 ≤ m5) (u5 : m5 ≤ 255) (k0 : 0 ≤ n0) (v0 : n0 ≤ 255) (k1 : 0 ≤ n1) (v1 : n1 ≤ 255) (k2 : 0 ≤ n2) (v2 : n2 ≤ 255) (k3 : 0 ≤ n3) (v3 : n3 ≤ 255) (k4 : 0 ≤ n4) (v4 : n4 ≤ 255) (k5 : 0 ≤ n5) (v5 : n5 ≤ 255) : Fun Try.prog 8 [.a [.raw (.int .u16 p), .raw (.int .u16 q)], .a [.raw (.int .u8 m0), .raw (.int .u8 m1), .raw (.int .u8 m2), .raw (.int .u8 m3), .raw (.int .u8 m4), .raw (.int .u8 m5)], .a [.raw (.int .u8 n0), .raw (.int .u8 n1), .raw (.int .u8 n2), .raw (.int .u8 n3), .raw (.int .u8 n4), .raw (.int .u8 n5)]] (.s (.raw (.bool true))) := by
  obtain ⟨ea, I0, I1, pa, fa⟩ := id_facts p hp hpu m0 m1 m2 m3 m4 m5 l0 u0 l1 u1 l2 u2 l3 u3 l4 u4 l5 u5
  obtain ⟨eb, J0, J1, pb, fb⟩ := id_facts q hq hqu n0 n1 n2 n3 n4 n5 k0 v0 k1 v1 k2 v2 k3 v3 k4 v4 k5 v5
  obtain ⟨hL, hE⟩ := id_split p q _ _ I0 I1 J0 J1
  rw [num_inj m0 m1 m2 m3 m4 m5 n0 n1 n2 n3 n4 n5 l0 u0 l1 u1 l2 u2 l3 u3 l4 u4 l5 u5 k0 v0 k1 v1 k2 v2 k3 v3 k4 v4 k5 v5, ← ea, ← eb] at hE
  rw [← ea, ← eb] at hL
  have a24 := f24 m0 m1 m2 m3 m4 m5
  have b24 := f24 n0 n1 n2 n3 n4 n5
  have a32 := f32 p m0 m1 m2 m3 m4 m5
  have b32 := f32 q n0 n1 n2 n3 n4 n5
  have a33 := f33 (makeI p m0 m1 m2 m3 m4 m5)
  have a34 := f34 (makeI p m0 m1 m2 m3 m4 m5)
  have b34 := f34 (makeI q n0 n1 n2 n3 n4 n5)
  rw [pa] at a33
  rw [fa] at a34
  rw [fb] at b34
  clear ea I0 I1 pa fa eb J0 J1 pb fb l0 u0 l1 u1 l2 u2 l3 u3 l4 u4 l5 u5 k0 v0 k1 v1 k2 v2 k3 v3 k4 v4 k5 v5 hp hpu hq hqu
  generalize intM m0 m1 m2 m3 m4 m5 = I at *
  generalize intM n0 n1 n2 n3 n4 n5 = J at *
  generalize makeI p m0 m1 m2 m3 m4 m5 = a at *
  generalize makeI q n0 n1 n2 n3 n4 n5 = b at *
  have key : ∀ x1 x2 x3 : Bool, decide (p < q) = x1 → (p == q) = x2 → decide (I < J) = x3 → Fun Try.prog 8 [.a [.raw (.int .u16 p), .raw (.int .u16 q)], .a [.raw (.int .u8 m0), .raw (.int .u8 m1), .raw (.int .u8 m2), .raw (.int .u8 m3), .raw (.int .u8 m4), .raw (.int .u8 m5)], .a [.raw (.int .u8 n0), .raw (.int .u8 n1), .raw (.int .u8 n2), .raw (.int .u8 n3), .raw (.int .u8 n4), .raw (.int .u8 n5)]] (.s (.raw (.bool true))) := by
    intro x1 x2 x3 e1 e2 e3
    rw [e1, e2, e3] at hL
    rw [e2] at hE
    cases x1 <;> cases x2 <;> cases x3 <;> simp only [Bool.true_or, Bool.false_or, Bool.true_and, Bool.false_and] at hL hE <;> refine fun_of rfl fun X => ?_
    all_goals
      refine callK_inline (rs := [.tmp 6]) (n := 81) Try.func8 rfl rfl rfl (by kernel_rfl) (by kernel_rfl) (by simp only [List.length_cons, List.length_nil]; decide) ?_
      repeat' first
        | with_reducible rfl
        | simp only [encM, beq_self_eq_true, e1, e2, e3, hL, hE, e_nil, e_cons, e_gd, e_gdt, e_gdf, e_g0, e_g1, e_op, e_step, e_ret, e_put, e_junk, e_skip, e_reg, e_draw, e_seq, e_cond, e_block, e_exit, e_r, e_label, e_loop, q_sn, q_sr, q_se, q_bn, q_br, q_be, q_rr, q_rn, e_res0, e_res1, e_res2, e_b, d_nil, d_cons, d_op, d_step, d_ret, d_put, d_junk, d_inf, d_fin, g_not, g_and, argsTM, stepE, stBuiltin, stBox, stAlloc, stLoad, stStore, stField, stExtract, stBin, stUn, stConv, stNilCheck, stFieldV, stIndex, stIndexAddr, stLen, stMin, stMax, stBuild, fillI, stBuildSlice, setRows, stMakeSlice, stAppend, srcR, segR, rdCells, stSlice, bnd, stArr, stCopy, stConv2, isIntV, cutR, byteRows, rowByte, binStr, Option.map_some, Option.map_none, eq_self, canTL, canT, canH, canL, patL, gcH, gcT, gcI, get_gcT, mapC, pullS, pullI, pushS, push1, pushI, pushC, pullHW, roC, ix, List.map_map, Function.comp_def, List.zip_cons_cons, List.zip_nil_left, List.zip_nil_right, List.range'_zero, List.range'_succ, rd, get, put, IV.cells, ofValue, seg, spl, ldIV, binInt, eqI, cellsEq, leafEq, resI, flat, isT, upd, up1, nextM, cR, ptrC, nAl, isAl, List.length_cons, List.length_nil, List.length_append, List.length_replicate, List.length_set, Nat.reduceAdd, Nat.reduceMul, Nat.reduceEqDiff, Nat.reduceLeDiff, Nat.zero_add, Nat.add_zero, ne_eq, reduceCtorEq, not_false_eq_true, not_true_eq_false, reduceIte, true_and, and_true, and_false, false_and, and_self, List.nil_append, List.cons_append, List.append_nil, List.getElem?_cons_zero, List.getElem?_cons_succ, List.drop_succ_cons, List.drop_zero, List.take_succ_cons, List.take_zero, List.set_cons_zero, List.set_cons_succ, List.getElem?_toArray, Option.bind_some, Bool.false_eq_true, Nat.add_one_ne_zero, Nat.succ_ne_self, List.map_cons, List.map_nil, Bool.not_true, Bool.not_false, List.replicate_succ, List.replicate_zero, List.mem_cons, List.not_mem_nil, or_false, false_or, or_true, true_or, forall_const, false_implies, implies_true, true_implies, Int.reduceToNat, Int.reduceLE, Int.reduceLT, Int.cast_ofNat_Int, bne, Int.reduceEq, Int.reduceNe, Int.reduceNeg, Int.reduceAdd, Int.reduceSub, Int.reduceMul, beq_self_eq_true, Int.reduceBEq, Int.reduceBNe, Bool.true_and, Bool.false_and, Bool.and_true, Bool.and_false, Bool.true_or, Bool.false_or, Bool.or_true, Bool.or_false, Nat.reduceLT, Nat.reduceSub, Nat.zero_min, Nat.min_zero, Nat.min_self, List.flatMap_cons, List.flatMap_nil, Int.toNat_natCast, strEq_self, Bool.not_eq_true', decide_true, decide_false, wl_u8_0, wl_u8_1, wl_u8_2, wl_u8_3, wl_u8_4, wl_u8_5, wl_u8_6, wl_u8_7, wl_u8_8, wl_u8_9, wl_u8_10, wl_u8_11, wl_u8_12, wl_u8_13, wl_u8_14, wl_u8_15, wl_u8_16, wl_u16_0, wl_u16_1, wl_u16_2, wl_u16_3, wl_u16_4, wl_u16_5, wl_u16_6, wl_u16_7, wl_u16_8, wl_u16_9, wl_u16_10, wl_u16_11, wl_u16_12, wl_u16_13, wl_u16_14, wl_u16_15, wl_u16_16, wl_u32_0, wl_u32_1, wl_u32_2, wl_u32_3, wl_u32_4, wl_u32_5, wl_u32_6, wl_u32_7, wl_u32_8, wl_u32_9, wl_u32_10, wl_u32_11, wl_u32_12, wl_u32_13, wl_u32_14, wl_u32_15, wl_u32_16, wl_u64_0, wl_u64_1, wl_u64_2, wl_u64_3, wl_u64_4, wl_u64_5, wl_u64_6, wl_u64_7, wl_u64_8, wl_u64_9, wl_u64_10, wl_u64_11, wl_u64_12, wl_u64_13, wl_u64_14, wl_u64_15, wl_u64_16, wl_i32_0, wl_i32_1, wl_i32_2, wl_i32_3, wl_i32_4, wl_i32_5, wl_i32_6, wl_i32_7, wl_i32_8, wl_i32_9, wl_i32_10, wl_i32_11, wl_i32_12, wl_i32_13, wl_i32_14, wl_i32_15, wl_i32_16, wl_i64_0, wl_i64_1, wl_i64_2, wl_i64_3, wl_i64_4, wl_i64_5, wl_i64_6, wl_i64_7, wl_i64_8, wl_i64_9, wl_i64_10, wl_i64_11, wl_i64_12, wl_i64_13, wl_i64_14, wl_i64_15, wl_i64_16, Try.underlying4, ty_ag_40, ty_ag_49, ty_ag_50, ty_ar_75, ty_eg_50, ty_lv_50, ty_sz_40, ty_sz_49, ty_sz_50, ty_ze_50]
        | with_reducible refine gdb_split (fun h => ?_) (fun h => ?_)
        | (with_reducible refine drawK_id ?_); refine drawK_auto hmix (by kernel_rfl) ?_
        | (with_reducible refine draw_fin ?_ ?_); · kernel_rfl
        | (with_reducible refine draw_id ?_); kernel_rfl
        | (with_reducible refine callD_id (f := 24) ?_); refine callD_of (a24) rfl rfl ?_
        | (with_reducible refine callD_id (f := 24) ?_); refine callD_of (b24) rfl rfl ?_
        | (with_reducible refine callD_id (f := 32) ?_); refine callD_of (a32) rfl rfl ?_
        | (with_reducible refine callD_id (f := 32) ?_); refine callD_of (b32) rfl rfl ?_
        | (with_reducible refine callD_id (f := 33) ?_); refine callD_of (a33) rfl rfl ?_
        | (with_reducible refine callD_id (f := 34) ?_); refine callD_of (a34) rfl rfl ?_
        | (with_reducible refine callD_id (f := 34) ?_); refine callD_of (b34) rfl rfl ?_
        | (with_reducible refine callK_id (f := 16) ?_); refine callK_fun (f16) rfl rfl ?_
        | (with_reducible refine And.intro ?_ ?_; · omega)
  exact key _ _ _ rfl rfl rfl
end Go.Ev
