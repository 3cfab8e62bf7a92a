/- A part of the proof: contracts of the functions that the statement reaches. -/
import Derived.Test.YtlngmicffhkghaaDoorD4
namespace Go.Ev
open Go.Proofs
set_option maxRecDepth 100000
set_option linter.unusedSimpArgs false
set_option linter.unusedVariables false
set_option maxHeartbeats 4000000
def showL (l : List Nat) : ByteArray := joinB (l.map decB) ⟨#[32]⟩
theorem jt_len (sep : List UInt8) : ∀ (l : List Nat), (∀ u ∈ l, u ≤ 4294967295) → (Lib.joinTail sep ((l.map decB).map (·.data.toList))).length ≤ l.length * (sep.length + 20)
  | [], _ => by simp [Lib.joinTail]
  | u :: l, h => by
    have ih := jt_len sep l fun x hx => h x (List.mem_cons_of_mem _ hx)
    have hd := nd20 u (h u (by simp))
    have hs := decB_size u
    have e : (decB u).data.toList.length = Lib.nDigits u := by rw [← hs]; rfl
    simp only [Lib.joinTail, List.map_cons, List.flatten_cons, List.length_append, List.length_cons, e] at ih ⊢
    rw [Nat.add_mul, Nat.one_mul]
    omega
theorem join_len (u : Nat) (l : List Nat) (h : ∀ x ∈ u :: l, x ≤ 4294967295) (hl : l.length ≤ 1000) : (Lib.join (((u :: l).map decB).map (·.data.toList)) (⟨#[32]⟩ : ByteArray).data.toList).length ≤ 140737488355328 := by
  have hd := nd20 u (h u (by simp))
  have e : (decB u).data.toList.length = Lib.nDigits u := by rw [← decB_size u]; rfl
  have hj := jt_len (⟨#[32]⟩ : ByteArray).data.toList l fun x hx => h x (List.mem_cons_of_mem _ hx)
  rw [List.map_cons, List.map_cons, Lib.join_cons, List.length_append, e]
  have e2 : (⟨#[32]⟩ : ByteArray).data.toList.length = 1 := rfl
  rw [e2] at hj
  have : l.length * (1 + 20) ≤ 1000 * 21 := Nat.mul_le_mul_right 21 hl
  omega
theorem f11 (c0 c1 c2 c3 c4 c5 c6 c7 c8 c9 c10 c11 c12 c13 : Nat) (h0 : c0 ≤ 4294967295) (h1 : c1 ≤ 4294967295) (h2 : c2 ≤ 4294967295) (h3 : c3 ≤ 4294967295) (h4 : c4 ≤ 4294967295) (h5 : c5 ≤ 4294967295) (h6 : c6 ≤ 4294967295) (h7 : c7 ≤ 4294967295) (h8 : c8 ≤ 4294967295) (h9 : c9 ≤ 4294967295) (h10 : c10 ≤ 4294967295) (h11 : c11 ≤ 4294967295) (h12 : c12 ≤ 4294967295) (h13 : c13 ≤ 4294967295) : FunT TT Tryd.prog 11 [.a [.raw (.int .u32 (c0 : Int)), .raw (.int .u32 (c1 : Int)), .raw (.int .u32 (c2 : Int)), .raw (.int .u32 (c3 : Int)), .raw (.int .u32 (c4 : Int)), .raw (.int .u32 (c5 : Int)), .raw (.int .u32 (c6 : Int)), .raw (.int .u32 (c7 : Int)), .raw (.int .u32 (c8 : Int)), .raw (.int .u32 (c9 : Int)), .raw (.int .u32 (c10 : Int)), .raw (.int .u32 (c11 : Int)), .raw (.int .u32 (c12 : Int)), .raw (.int .u32 (c13 : Int))]] (.s (.raw (.string (showL [c0, c1, c2, c3, c4, c5, c6, c7, c8, c9, c10, c11, c12, c13])))) := by
  refine funT_of tt_stays rfl (by kernel_rfl) fun X hX => ?_
  have fJ := f20 [decB c0, decB c1, decB c2, decB c3, decB c4, decB c5, decB c6, decB c7, decB c8, decB c9, decB c10, decB c11, decB c12, decB c13] ⟨#[32]⟩ (by simp) (join_len c0 [c1, c2, c3, c4, c5, c6, c7, c8, c9, c10, c11, c12, c13] (by simp only [List.mem_cons, List.not_mem_nil, or_false]; intro x hx; omega) (by simp))
  have n0 := f19 c0 (by omega)
  have w0 : IntKind.u64.wrap (c0 : Int) = (c0 : Int) := wr_u64 (by omega) (by omega)
  have n1 := f19 c1 (by omega)
  have w1 : IntKind.u64.wrap (c1 : Int) = (c1 : Int) := wr_u64 (by omega) (by omega)
  have n2 := f19 c2 (by omega)
  have w2 : IntKind.u64.wrap (c2 : Int) = (c2 : Int) := wr_u64 (by omega) (by omega)
  have n3 := f19 c3 (by omega)
  have w3 : IntKind.u64.wrap (c3 : Int) = (c3 : Int) := wr_u64 (by omega) (by omega)
  have n4 := f19 c4 (by omega)
  have w4 : IntKind.u64.wrap (c4 : Int) = (c4 : Int) := wr_u64 (by omega) (by omega)
  have n5 := f19 c5 (by omega)
  have w5 : IntKind.u64.wrap (c5 : Int) = (c5 : Int) := wr_u64 (by omega) (by omega)
  have n6 := f19 c6 (by omega)
  have w6 : IntKind.u64.wrap (c6 : Int) = (c6 : Int) := wr_u64 (by omega) (by omega)
  have n7 := f19 c7 (by omega)
  have w7 : IntKind.u64.wrap (c7 : Int) = (c7 : Int) := wr_u64 (by omega) (by omega)
  have n8 := f19 c8 (by omega)
  have w8 : IntKind.u64.wrap (c8 : Int) = (c8 : Int) := wr_u64 (by omega) (by omega)
  have n9 := f19 c9 (by omega)
  have w9 : IntKind.u64.wrap (c9 : Int) = (c9 : Int) := wr_u64 (by omega) (by omega)
  have n10 := f19 c10 (by omega)
  have w10 : IntKind.u64.wrap (c10 : Int) = (c10 : Int) := wr_u64 (by omega) (by omega)
  have n11 := f19 c11 (by omega)
  have w11 : IntKind.u64.wrap (c11 : Int) = (c11 : Int) := wr_u64 (by omega) (by omega)
  have n12 := f19 c12 (by omega)
  have w12 : IntKind.u64.wrap (c12 : Int) = (c12 : Int) := wr_u64 (by omega) (by omega)
  have n13 := f19 c13 (by omega)
  have w13 : IntKind.u64.wrap (c13 : Int) = (c13 : Int) := wr_u64 (by omega) (by omega)
  clear h0 h1 h2 h3 h4 h5 h6 h7 h8 h9 h10 h11 h12 h13
  refine callK_inline (rs := [.tmp 2]) (n := 19) Tryd.func11 rfl rfl rfl (by kernel_rfl) (by kernel_rfl) (by simp only [List.length_cons, List.length_nil]; decide) ?_
  repeat' first
    | with_reducible rfl
    | simp only [e_loopN, w0, w1, w2, w3, w4, w5, w6, w7, w8, w9, w10, w11, w12, w13, e_nil, e_cons, e_gd, e_gdt, e_gdf, e_g0, e_g1, e_op, e_step, e_ret, e_put, e_junk, e_skip, e_reg, e_draw, e_seq, e_cond, e_block, e_exit, e_r, e_label, e_loop, q_sn, q_sr, q_se, q_bn, q_br, q_be, q_rr, q_rn, e_res0, e_res1, e_res2, e_b, d_nil, d_cons, d_op, d_step, d_ret, d_put, d_junk, d_inf, d_fin, g_not, g_and, argsTM, stepE, stBuiltin, stBox, stAlloc, stLoad, stStore, stField, stExtract, stBin, stUn, stConv, stNilCheck, stFieldV, stIndex, stIndexAddr, stLen, stMin, stMax, stBuild, fillI, stBuildSlice, setRows, stMakeSlice, stAppend, srcR, segR, rdCells, stSlice, bnd, stArr, stCopy, stConv2, isIntV, cutR, byteRows, rowByte, binStr, Option.map_some, Option.map_none, eq_self, canTL, canT, canH, canL, patL, gcH, gcT, gcI, get_gcT, mapC, pullS, pullI, pushS, push1, pushI, pushC, pullHW, roC, ix, List.map_map, Function.comp_def, List.zip_cons_cons, List.zip_nil_left, List.zip_nil_right, List.range'_zero, List.range'_succ, rd, get, put, IV.cells, ofValue, seg, spl, ldIV, binInt, eqI, cellsEq, leafEq, resI, flat, isT, upd, up1, nextM, cR, ptrC, nAl, isAl, List.length_cons, List.length_nil, List.length_append, List.length_replicate, List.length_set, Nat.reduceAdd, Nat.reduceMul, Nat.reduceEqDiff, Nat.reduceLeDiff, Nat.zero_add, Nat.add_zero, ne_eq, reduceCtorEq, not_false_eq_true, not_true_eq_false, reduceIte, true_and, and_true, and_false, false_and, and_self, List.nil_append, List.cons_append, List.append_nil, List.getElem?_cons_zero, List.getElem?_cons_succ, List.drop_succ_cons, List.drop_zero, List.take_succ_cons, List.take_zero, List.set_cons_zero, List.set_cons_succ, List.getElem?_toArray, Option.bind_some, Bool.false_eq_true, Nat.add_one_ne_zero, Nat.succ_ne_self, List.map_cons, List.map_nil, Bool.not_true, Bool.not_false, List.replicate_succ, List.replicate_zero, List.mem_cons, List.not_mem_nil, or_false, false_or, or_true, true_or, forall_const, false_implies, implies_true, true_implies, Int.reduceToNat, Int.reduceLE, Int.reduceLT, Int.cast_ofNat_Int, bne, Int.reduceEq, Int.reduceNe, Int.reduceNeg, Int.reduceAdd, Int.reduceSub, Int.reduceMul, beq_self_eq_true, Int.reduceBEq, Int.reduceBNe, Bool.true_and, Bool.false_and, Bool.and_true, Bool.and_false, Bool.true_or, Bool.false_or, Bool.or_true, Bool.or_false, Nat.reduceLT, Nat.reduceSub, Nat.zero_min, Nat.min_zero, Nat.min_self, List.flatMap_cons, List.flatMap_nil, Int.toNat_natCast, strEq_self, Bool.not_eq_true', decide_true, decide_false, wl_u8_0, wl_u8_1, wl_u8_2, wl_u8_3, wl_u8_4, wl_u8_5, wl_u8_6, wl_u8_7, wl_u8_8, wl_u8_9, wl_u8_10, wl_u8_11, wl_u8_12, wl_u8_13, wl_u8_14, wl_u8_15, wl_u8_16, wl_u16_0, wl_u16_1, wl_u16_2, wl_u16_3, wl_u16_4, wl_u16_5, wl_u16_6, wl_u16_7, wl_u16_8, wl_u16_9, wl_u16_10, wl_u16_11, wl_u16_12, wl_u16_13, wl_u16_14, wl_u16_15, wl_u16_16, wl_u32_0, wl_u32_1, wl_u32_2, wl_u32_3, wl_u32_4, wl_u32_5, wl_u32_6, wl_u32_7, wl_u32_8, wl_u32_9, wl_u32_10, wl_u32_11, wl_u32_12, wl_u32_13, wl_u32_14, wl_u32_15, wl_u32_16, wl_u64_0, wl_u64_1, wl_u64_2, wl_u64_3, wl_u64_4, wl_u64_5, wl_u64_6, wl_u64_7, wl_u64_8, wl_u64_9, wl_u64_10, wl_u64_11, wl_u64_12, wl_u64_13, wl_u64_14, wl_u64_15, wl_u64_16, wl_i32_0, wl_i32_1, wl_i32_2, wl_i32_3, wl_i32_4, wl_i32_5, wl_i32_6, wl_i32_7, wl_i32_8, wl_i32_9, wl_i32_10, wl_i32_11, wl_i32_12, wl_i32_13, wl_i32_14, wl_i32_15, wl_i32_16, wl_i64_0, wl_i64_1, wl_i64_2, wl_i64_3, wl_i64_4, wl_i64_5, wl_i64_6, wl_i64_7, wl_i64_8, wl_i64_9, wl_i64_10, wl_i64_11, wl_i64_12, wl_i64_13, wl_i64_14, wl_i64_15, wl_i64_16, Tryd.underlying22, Tryd.underlying30, ty_ag_26, ty_ar_26, ty_by_52, ty_sr_52, ty_sz_26, ty_zs_52]
    | with_reducible refine gdb_split (fun h => ?_) (fun h => ?_)
    | (with_reducible refine drawK_id ?_); refine drawK_auto hmix (by kernel_rfl) ?_
    | (with_reducible refine draw_fin ?_ ?_); · kernel_rfl
    | (with_reducible refine draw_id ?_); kernel_rfl
    | (with_reducible refine loopK_id ?_); refine loopK_n 15 (by kernel_rfl) ?_
    | ((with_reducible refine callK_id (f := 19) (args := [.s (.raw (.int .u64 (c0 : Int))), .s (.raw (.int .i64 10))]) ?_); refine callK_funT (hX.at _) n0 rfl rfl ?_)
    | ((with_reducible refine callK_id (f := 19) (args := [.s (.raw (.int .u64 (c1 : Int))), .s (.raw (.int .i64 10))]) ?_); refine callK_funT (hX.at _) n1 rfl rfl ?_)
    | ((with_reducible refine callK_id (f := 19) (args := [.s (.raw (.int .u64 (c2 : Int))), .s (.raw (.int .i64 10))]) ?_); refine callK_funT (hX.at _) n2 rfl rfl ?_)
    | ((with_reducible refine callK_id (f := 19) (args := [.s (.raw (.int .u64 (c3 : Int))), .s (.raw (.int .i64 10))]) ?_); refine callK_funT (hX.at _) n3 rfl rfl ?_)
    | ((with_reducible refine callK_id (f := 19) (args := [.s (.raw (.int .u64 (c4 : Int))), .s (.raw (.int .i64 10))]) ?_); refine callK_funT (hX.at _) n4 rfl rfl ?_)
    | ((with_reducible refine callK_id (f := 19) (args := [.s (.raw (.int .u64 (c5 : Int))), .s (.raw (.int .i64 10))]) ?_); refine callK_funT (hX.at _) n5 rfl rfl ?_)
    | ((with_reducible refine callK_id (f := 19) (args := [.s (.raw (.int .u64 (c6 : Int))), .s (.raw (.int .i64 10))]) ?_); refine callK_funT (hX.at _) n6 rfl rfl ?_)
    | ((with_reducible refine callK_id (f := 19) (args := [.s (.raw (.int .u64 (c7 : Int))), .s (.raw (.int .i64 10))]) ?_); refine callK_funT (hX.at _) n7 rfl rfl ?_)
    | ((with_reducible refine callK_id (f := 19) (args := [.s (.raw (.int .u64 (c8 : Int))), .s (.raw (.int .i64 10))]) ?_); refine callK_funT (hX.at _) n8 rfl rfl ?_)
    | ((with_reducible refine callK_id (f := 19) (args := [.s (.raw (.int .u64 (c9 : Int))), .s (.raw (.int .i64 10))]) ?_); refine callK_funT (hX.at _) n9 rfl rfl ?_)
    | ((with_reducible refine callK_id (f := 19) (args := [.s (.raw (.int .u64 (c10 : Int))), .s (.raw (.int .i64 10))]) ?_); refine callK_funT (hX.at _) n10 rfl rfl ?_)
    | ((with_reducible refine callK_id (f := 19) (args := [.s (.raw (.int .u64 (c11 : Int))), .s (.raw (.int .i64 10))]) ?_); refine callK_funT (hX.at _) n11 rfl rfl ?_)
    | ((with_reducible refine callK_id (f := 19) (args := [.s (.raw (.int .u64 (c12 : Int))), .s (.raw (.int .i64 10))]) ?_); refine callK_funT (hX.at _) n12 rfl rfl ?_)
    | ((with_reducible refine callK_id (f := 19) (args := [.s (.raw (.int .u64 (c13 : Int))), .s (.raw (.int .i64 10))]) ?_); refine callK_funT (hX.at _) n13 rfl rfl ?_)
    | ((with_reducible refine callK_id (f := 20) ?_); refine callK_funR [28] (r := .s (.raw (.string (showL [c0, c1, c2, c3, c4, c5, c6, c7, c8, c9, c10, c11, c12, c13])))) (by simpa [pullH, roC, pullS, pullI, ix, sC, showL] using fJ) rfl ?_)
    | (with_reducible refine And.intro ?_ ?_; · omega)
end Go.Ev
