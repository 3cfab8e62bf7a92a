/- A part of the proof: contracts of the functions that the statement reaches. -/
import Derived.Test.YtpapofdkcgopjaaV2
namespace Go.Ev
open Go.Proofs
set_option maxRecDepth 100000
set_option linter.unusedSimpArgs false
set_option maxHeartbeats 4000000
theorem bet_false {a0 a1 a2 a3 b0 b1 b2 b3 : Int} : betI a0 a1 a2 a3 b0 b1 b2 b3 = false ↔ ¬ (a0 < b0 ∨ a0 = b0 ∧ (a1 < b1 ∨ a1 = b1 ∧ (a2 < b2 ∨ a2 = b2 ∧ a3 < b3))) := by
  rw [← bet_iff]; simp
theorem plus_le {a c : Int} (h1 : 0 ≤ a) (h2 : 0 ≤ c) (h3 : a + c ≤ 4294967295) : plusI a c = a + c := by
  have w64 : ∀ x : Int, IntKind.u64.wrap x = x % 18446744073709551616 := fun x => by simp [IntKind.wrap, IntKind.signed, IntKind.bits]
  have w32 : ∀ x : Int, IntKind.u32.wrap x = x % 4294967296 := fun x => by simp [IntKind.wrap, IntKind.signed, IntKind.bits]
  simp only [plusI, w64, w32]
  repeat' split
  all_goals omega
theorem plus_one {a : Int} (h1 : 0 ≤ a) (h3 : a ≤ 4294967295) : a ≤ plusI a 1 := by
  have w64 : ∀ x : Int, IntKind.u64.wrap x = x % 18446744073709551616 := fun x => by simp [IntKind.wrap, IntKind.signed, IntKind.bits]
  have w32 : ∀ x : Int, IntKind.u32.wrap x = x % 4294967296 := fun x => by simp [IntKind.wrap, IntKind.signed, IntKind.bits]
  simp only [plusI, w64, w32]
  repeat' split
  all_goals omega
def lineC (a b : Int) : Int := if IntKind.u32.wrap (4294967295 - b) < IntKind.u32.wrap (4294967295 - a) then IntKind.u32.wrap (4294967295 - b) else IntKind.u32.wrap (4294967295 - a)
theorem lineC_le {a b : Int} (h1 : 0 ≤ a) (h2 : a ≤ 4294967295) (h3 : 0 ≤ b) (h4 : b ≤ 4294967295) : 0 ≤ lineC a b ∧ a + lineC a b ≤ 4294967295 ∧ b + lineC a b ≤ 4294967295 := by
  have w32 : ∀ x : Int, IntKind.u32.wrap x = x % 4294967296 := fun x => by simp [IntKind.wrap, IntKind.signed, IntKind.bits]
  simp only [lineC, w32]
  repeat' split
  all_goals omega
theorem line_c {a0 a1 a2 a3 b0 b1 b2 b3 : Int} (h1 : 0 ≤ a1) (h2 : a1 ≤ 4294967295) (h3 : 0 ≤ b1) (h4 : b1 ≤ 4294967295) : betI a0 (plusI a1 (lineC a1 b1)) a2 a3 b0 (plusI b1 (lineC a1 b1)) b2 b3 = betI a0 a1 a2 a3 b0 b1 b2 b3 := by
  obtain ⟨e1, e2, e3⟩ := lineC_le h1 h2 h3 h4
  rw [plus_le h1 e1 e2, plus_le h3 e1 e3, Bool.eq_iff_iff, bet_iff, bet_iff]
  omega
theorem line_1 {a0 a1 a2 a3 : Int} (h1 : 0 ≤ a1) (h2 : a1 ≤ 4294967295) : betI a0 (plusI a1 1) a2 a3 a0 a1 a2 a3 = false := by
  have := plus_one h1 h2
  rw [bet_false]
  omega
theorem law8 (a0 a1 a2 a3 b0 b1 b2 b3 c0 c1 c2 c3 : Int) (h1 : IntKind.u32.min ≤ a1) (h1' : a1 ≤ IntKind.u32.max) (h2 : IntKind.u32.min ≤ b1) (h2' : b1 ≤ IntKind.u32.max) : Fun Try.prog 8 [.a [.raw (.int .u64 a0), .raw (.int .u32 a1), .raw (.int .u64 a2), .raw (.int .u16 a3)], .a [.raw (.int .u64 b0), .raw (.int .u32 b1), .raw (.int .u64 b2), .raw (.int .u16 b3)], .a [.raw (.int .u64 c0), .raw (.int .u32 c1), .raw (.int .u64 c2), .raw (.int .u16 c3)]] (.s (.raw (.bool true))) := by
  have hl := line_c (a0 := a0) (a2 := a2) (a3 := a3) (b0 := b0) (b2 := b2) (b3 := b3) h1 h1' h2 h2'
  have hq := line_1 (a0 := a0) (a2 := a2) (a3 := a3) h1 h1'
  simp only [lineC] at hl
  refine fun_of rfl fun X => ?_
  refine callK_inline (rs := [.tmp 6]) (n := 81) Try.func8 rfl rfl rfl (by kernel_rfl) (by kernel_rfl) (by simp only [List.length_cons, List.length_nil]; decide) ?_
  repeat' first
    | with_reducible rfl
    | simp only [*, e_nil, e_cons, e_gd, e_gdt, e_gdf, e_g0, e_g1, e_op, e_step, e_ret, e_put, e_junk, e_skip, e_reg, e_draw, e_seq, e_cond, e_block, e_exit, e_r, e_label, e_loop, q_sn, q_sr, q_se, q_bn, q_br, q_be, q_rr, q_rn, e_res0, e_res1, e_res2, e_b, d_nil, d_cons, d_op, d_step, d_ret, d_put, d_junk, d_inf, d_fin, g_not, g_and, argsTM, stepE, stBuiltin, stBox, stAlloc, stLoad, stStore, stField, stExtract, stBin, stUn, stConv, stNilCheck, stFieldV, stIndex, stIndexAddr, stLen, stMin, stMax, stBuild, fillI, stBuildSlice, setRows, stMakeSlice, rd, get, put, IV.cells, ofValue, seg, spl, ldIV, binInt, eqI, cellsEq, leafEq, resI, flat, isT, upd, up1, nextM, cR, ptrC, nAl, isAl, List.length_cons, List.length_nil, List.length_append, List.length_replicate, List.length_set, Nat.reduceAdd, Nat.reduceMul, Nat.reduceEqDiff, Nat.reduceLeDiff, Nat.zero_add, Nat.add_zero, ne_eq, reduceCtorEq, not_false_eq_true, not_true_eq_false, reduceIte, true_and, and_true, and_false, false_and, and_self, List.nil_append, List.cons_append, List.append_nil, List.getElem?_cons_zero, List.getElem?_cons_succ, List.drop_succ_cons, List.drop_zero, List.take_succ_cons, List.take_zero, List.set_cons_zero, List.set_cons_succ, List.getElem?_toArray, Option.bind_some, Bool.false_eq_true, Nat.add_one_ne_zero, Nat.succ_ne_self, List.map_cons, List.map_nil, Bool.not_true, Bool.not_false, List.replicate_succ, List.replicate_zero, List.mem_cons, List.not_mem_nil, or_false, false_or, or_true, true_or, forall_const, false_implies, implies_true, true_implies, Int.reduceToNat, Int.reduceLE, Int.reduceLT, Int.cast_ofNat_Int, bne, Int.reduceEq, Int.reduceNe, Int.reduceNeg, Int.reduceAdd, Int.reduceSub, Int.reduceMul, beq_self_eq_true, Int.reduceBEq, Int.reduceBNe, Bool.true_and, Bool.false_and, Bool.and_true, Bool.and_false, Bool.true_or, Bool.false_or, Bool.or_true, Bool.or_false, Nat.reduceLT, Nat.reduceSub, Bool.not_eq_true', decide_true, decide_false, wl_u8_0, wl_u8_1, wl_u8_2, wl_u8_3, wl_u8_4, wl_u8_5, wl_u8_6, wl_u8_7, wl_u8_8, wl_u8_9, wl_u8_10, wl_u8_11, wl_u8_12, wl_u8_13, wl_u8_14, wl_u8_15, wl_u8_16, wl_u16_0, wl_u16_1, wl_u16_2, wl_u16_3, wl_u16_4, wl_u16_5, wl_u16_6, wl_u16_7, wl_u16_8, wl_u16_9, wl_u16_10, wl_u16_11, wl_u16_12, wl_u16_13, wl_u16_14, wl_u16_15, wl_u16_16, wl_u32_0, wl_u32_1, wl_u32_2, wl_u32_3, wl_u32_4, wl_u32_5, wl_u32_6, wl_u32_7, wl_u32_8, wl_u32_9, wl_u32_10, wl_u32_11, wl_u32_12, wl_u32_13, wl_u32_14, wl_u32_15, wl_u32_16, wl_u64_0, wl_u64_1, wl_u64_2, wl_u64_3, wl_u64_4, wl_u64_5, wl_u64_6, wl_u64_7, wl_u64_8, wl_u64_9, wl_u64_10, wl_u64_11, wl_u64_12, wl_u64_13, wl_u64_14, wl_u64_15, wl_u64_16, wl_i32_0, wl_i32_1, wl_i32_2, wl_i32_3, wl_i32_4, wl_i32_5, wl_i32_6, wl_i32_7, wl_i32_8, wl_i32_9, wl_i32_10, wl_i32_11, wl_i32_12, wl_i32_13, wl_i32_14, wl_i32_15, wl_i32_16, wl_i64_0, wl_i64_1, wl_i64_2, wl_i64_3, wl_i64_4, wl_i64_5, wl_i64_6, wl_i64_7, wl_i64_8, wl_i64_9, wl_i64_10, wl_i64_11, wl_i64_12, wl_i64_13, wl_i64_14, wl_i64_15, wl_i64_16, Try.underlying4, ty_ag_32, ty_ag_35, ty_ag_63, ty_eg_35, ty_lv_35, ty_of_35_1, ty_sz_32, ty_sz_35, ty_sz_63, ty_ze_35]
    | with_reducible refine gdb_split (fun h => ?_) (fun h => ?_)
    | (with_reducible refine drawK_id ?_); refine drawK_auto hmix (by kernel_rfl) ?_
    | (with_reducible refine draw_fin ?_ ?_); · kernel_rfl
    | (with_reducible refine draw_id ?_); kernel_rfl
    | (with_reducible refine callD_id (f := 28) ?_); refine callD_of (f28 _ _ _ _) rfl rfl ?_
    | (with_reducible refine callD_id (f := 29) ?_); refine callD_of (f29 _ _ _ _ _ _ _ _) rfl rfl ?_
    | (with_reducible refine callD_id (f := 31) ?_); refine callD_of (f31 _ _ _ _ _) rfl rfl ?_
    | (with_reducible refine callK_id (f := 27) ?_); refine callK_fun (f27) rfl rfl ?_
    | (with_reducible refine callK_id (f := 28) ?_); refine callK_fun (f28 _ _ _ _) rfl rfl ?_
    | (with_reducible refine callK_id (f := 29) ?_); refine callK_fun (f29 _ _ _ _ _ _ _ _) rfl rfl ?_
    | (with_reducible refine callK_id (f := 31) ?_); refine callK_fun (f31 _ _ _ _ _) rfl rfl ?_
    | (exfalso; simp only [bet_iff, bet_false, beq_eq_false_iff_ne, beq_iff_eq] at *; omega)
end Go.Ev
