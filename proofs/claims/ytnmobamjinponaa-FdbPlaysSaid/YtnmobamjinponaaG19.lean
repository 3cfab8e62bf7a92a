/- A part of the proof: contracts of the functions that the statement reaches. -/
import Derived.Test.YtnmobamjinponaaG18
namespace Go.Ev
open Go.Proofs
set_option maxRecDepth 100000
set_option linter.unusedSimpArgs false
set_option linter.unusedVariables false
set_option maxHeartbeats 4000000
open Srt
theorem seg_take {R : List EN} {k : Nat} (h : k ≤ R.length) : segR (R.map eR) 0 k = some ((R.take k).map eR) := by
  unfold segR
  split
  · rename_i h1; rw [h1.2, List.length_map, List.take_length]
  · rw [if_pos (by rw [List.length_map]; omega), List.drop_zero, List.map_take]
theorem seg_drop {R : List EN} {k : Nat} (h : k ≤ R.length) : segR (R.map eR) k (R.length - k) = some ((R.drop k).map eR) := by
  unfold segR
  split
  · rename_i h1; rw [h1.1, List.drop_zero]
  · rw [if_pos (by rw [List.length_map]; omega), List.map_drop, List.take_of_length_le (by simp)]
theorem seg_all {R : List (List SV)} {n : Nat} (h : n = R.length) : segR R 0 n = some R := by subst h; unfold segR; rw [if_pos ⟨rfl, rfl⟩]
theorem seg_nil : segR [] 0 0 = some [] := rfl
theorem seg_one (x : List SV) : segR [x] 0 1 = some [x] := rfl
theorem bd (R : List EN) (n : Nat) (h : n ≤ 200000) : ((n : Nat) * 32 ≤ 140737488355328) = True := eq_true (by omega)
def cutE (R : List EN) (a : Nat) : List EN := R.take a ++ R.drop (a + 1)
theorem cut_len {R : List EN} {a : Nat} (h : a < R.length) : (cutE R a).length = R.length - 1 := by simp [cutE]; omega
theorem f74 (R : List EN) (hb : R.length ≤ 100000) (a : Nat) (ha : a < R.length) : FunW Try.prog 74 [rR R] [] [.s (.slice 0 0 R.length), .s (.raw (.int .i64 (a : Int)))] fun r Hn => r = .s (.slice 1 0 (cutE R a).length) ∧ Hn = [.rows true 9 ((cutE R a).map eR)] := by
  refine funW_of fun X => ?_
  unfold rR
  have s1 := seg_take (show a ≤ R.length by omega)
  have s2 := seg_drop (show a + 1 ≤ R.length by omega)
  have s3 : segR ((R.take a).map eR) 0 a = some ((R.take a).map eR) := seg_all (by simp; omega)
  have hw : IntKind.i64.wrap ((a : Int) + 1) = ((a + 1 : Nat) : Int) := by rw [wr_i64 (by omega) (by omega)]; rfl
  have b1 : (0 : Int) ≤ (a : Int) := by omega
  have b2 : (a : Int) ≤ (R.length : Int) := by omega
  have b3 : (0 : Int) ≤ ((a + 1 : Nat) : Int) := by omega
  have b4 : ((a + 1 : Nat) : Int) ≤ (R.length : Int) := by omega
  have l1 : ((R.take a).map eR).length = a := by simp; omega
  have l2 : ((R.drop (a + 1)).map eR).length = R.length - (a + 1) := by simp
  have hz : a + (R.length - (a + 1)) = R.length - 1 := by omega
  rw [cut_len ha]
  refine callK_inline (rs := [.tmp 4]) (n := 15) Try.func74 rfl rfl rfl (by kernel_rfl) (by kernel_rfl) (by simp only [List.length_cons, List.length_nil]; decide) ?_
  repeat' first
    | with_reducible rfl
    | simp only [s1, s2, s3, hw, b1, b2, b3, b4, l1, l2, seg_nil, Int.toNat_natCast, Nat.sub_zero, hz, e_nil, e_cons, e_gd, e_gdt, e_gdf, e_g0, e_g1, e_op, e_step, e_stepG, e_stepN, e_clo, e_cloF, e_ret, e_put, e_junk, e_skip, e_reg, e_draw, e_seq, e_cond, e_block, e_exit, e_r, e_label, e_loop, q_sn, q_sr, q_se, q_bn, q_br, q_be, q_rr, q_rn, e_res0, e_res1, e_res2, e_b, d_nil, d_cons, d_op, d_step, d_stepG, d_stepN, d_clo, d_cloF, d_ret, d_put, d_junk, d_inf, d_fin, g_not, g_and, argsTM, stepE, stBuiltin, stBox, stAlloc, stLoad, stStore, stField, stExtract, stBin, stUn, stConv, stNilCheck, stFieldV, stIndex, stIndexAddr, stLen, stMin, stMax, stBuild, fillI, stBuildSlice, setRows, stMakeSlice, stAppend, srcR, rdCells, stSlice, bnd, stArr, stCopy, stConv2, isIntV, cutR, byteRows, rowByte, binStr, Option.map_some, Option.map_none, eq_self, canTL, canT, canH, canL, patL, gcH, gcT, gcI, get_gcT, mapC, pullS, pullI, pushS, push1, pushI, pushC, pullHW, roC, ix, List.map_map, Function.comp_def, List.zip_cons_cons, List.zip_nil_left, List.zip_nil_right, List.range'_zero, List.range'_succ, rd, get, put, IV.cells, ofValue, seg, spl, ldIV, binInt, eqI, cellsEq, leafEq, resI, flat, isT, upd, up1, nextM, cR, ptrC, nAl, isAl, List.length_cons, List.length_nil, List.length_append, List.length_replicate, List.length_set, Nat.reduceAdd, Nat.reduceMul, Nat.reduceEqDiff, Nat.reduceLeDiff, Nat.zero_add, Nat.add_zero, ne_eq, reduceCtorEq, not_false_eq_true, not_true_eq_false, reduceIte, true_and, and_true, and_false, false_and, and_self, List.nil_append, List.cons_append, List.append_nil, List.getElem?_cons_zero, List.getElem?_cons_succ, List.drop_succ_cons, List.drop_zero, List.take_succ_cons, List.take_zero, List.set_cons_zero, List.set_cons_succ, List.getElem?_toArray, Option.bind_some, Bool.false_eq_true, Nat.add_one_ne_zero, Nat.succ_ne_self, List.map_cons, List.map_nil, Bool.not_true, Bool.not_false, List.replicate_succ, List.replicate_zero, List.mem_cons, List.not_mem_nil, or_false, false_or, or_true, true_or, forall_const, false_implies, implies_true, true_implies, Int.reduceToNat, Int.reduceLE, Int.reduceLT, Int.cast_ofNat_Int, bne, Int.reduceEq, Int.reduceNe, Int.reduceNeg, Int.reduceAdd, Int.reduceSub, Int.reduceMul, beq_self_eq_true, Int.reduceBEq, Int.reduceBNe, Bool.true_and, Bool.false_and, Bool.and_true, Bool.and_false, Bool.true_or, Bool.false_or, Bool.or_true, Bool.or_false, Nat.reduceLT, Nat.reduceSub, Nat.zero_min, Nat.min_zero, Nat.min_self, List.flatMap_cons, List.flatMap_nil, Int.toNat_natCast, strEq_self, Bool.not_eq_true', decide_true, decide_false, WLS, ty_by_97, ty_sl_97, ty_sr_97, ty_zs_97]
    | (with_reducible refine drawK_id ?_); refine drawK_auto hmix (by kernel_rfl) ?_
    | (with_reducible refine draw_fin ?_ ?_); · kernel_rfl
    | (with_reducible refine draw_id ?_); kernel_rfl
    | exact ⟨.s (.slice 1 0 (R.length - 1)), [.rows true 9 ((cutE R a).map eR)], WkR.to (WkR.gc [0, 3] rfl (by decide)) (by simp [gcI, pullI, pullS, ix]) (by simp [gcH, rows_pull, pullS, ix, mapC, cutE, pull_one, Function.comp_def]), by simp, rfl, rfl⟩
    | (with_reducible refine And.intro ?_ ?_; · omega)
def putR (R : List EN) (e : EN) : List EN := ins EN.k ltK (delE R e.k) e
theorem put_len (R : List EN) (e : EN) : (putR R e).length ≤ R.length + 1 := by
  have := (ins_perm (key := EN.k) (lt := ltK) (delE R e.k) e).length_eq
  have h2 : (delE R e.k).length ≤ R.length := List.length_filter_le _ _
  unfold putR
  rw [this]
  simp; omega
theorem del_miss {R : List EN} {k : KEY} (h : ∀ x ∈ R, x.k ≠ k) : delE R k = R := filter_off k R h
def I73 (R0 R : List EN) (c : Nat) (m l : Int) (e : EN) (rest : List Chunk) (mm : Nat) (tm : TM) (H : Heap) : Prop := ∃ i : Nat, mm = R.length - i ∧ i ≤ R.length ∧ i ≤ upTo EN.k ltK R e.k ∧ get tm 2 = .s (.ptr 1 0 0) ∧ get tm 3 = .s (.ptr 2 0 0) ∧ get tm 4 = .s (.ptr 3 0 0) ∧ get tm 6 = .s (.raw (.int .i64 (i : Int))) ∧
  H = rR R0 :: fbx m l c R.length :: .rows true 9 [eR e] :: .rows true 3 [[.raw (.int .i64 0), .raw (.int .i64 0), .raw (.slice none 0 0)]] :: rest
theorem f73 (R : List EN) (hs : Sorted EN.k ltK R) (hv : ∀ x ∈ R, KOK x.k) (hb : R.length ≤ 100000) (m l : Int) (e : EN) (he : KOK e.k) : FunW Try.prog 73 [rR R] [] [.a [.raw (.int .i64 m), .raw (.int .i64 l), .slice 0 0 R.length], .a (eR e)] fun r Hn => r = .a [.raw (.int .i64 m), .raw (.int .i64 l), .slice 1 0 (putR R e).length] ∧ Hn = [.rows true 9 ((putR R e).map eR)] := by
  refine funW_of fun X => ?_
  have c46 := f46 R hb e.k m l
  have kd : (⟨e.k.v, ⟨e.k.m.m0, e.k.m.m1, e.k.m.m2, e.k.m.m3, e.k.m.m4, e.k.m.m5⟩⟩ : KEY) = e.k := rfl
  unfold rR at c46 ⊢
  rcases at_cases koK hs e.k with ⟨h1, h0⟩ | ⟨R1, x, R2, rfl, hk, h1, h0⟩
  · have hd := del_miss h0
    have hp : putR R e = ins EN.k ltK R e := by unfold putR; rw [hd]
    rw [hp]
    rw [h1] at c46
    refine callK_inline (rs := [.cell 4 99]) (n := 52) Try.func73 rfl rfl rfl (by kernel_rfl) (by kernel_rfl) (by simp only [List.length_cons, List.length_nil]; decide) ?_
    repeat' first
      | with_reducible rfl
      | simp only [eR_def, encM, kd, e_nil, e_cons, e_gd, e_gdt, e_gdf, e_g0, e_g1, e_op, e_step, e_stepG, e_stepN, e_clo, e_cloF, e_ret, e_put, e_junk, e_skip, e_reg, e_draw, e_seq, e_cond, e_block, e_exit, e_r, e_label, e_loop, q_sn, q_sr, q_se, q_bn, q_br, q_be, q_rr, q_rn, e_res0, e_res1, e_res2, e_b, d_nil, d_cons, d_op, d_step, d_stepG, d_stepN, d_clo, d_cloF, d_ret, d_put, d_junk, d_inf, d_fin, g_not, g_and, argsTM, stepE, stBuiltin, stBox, stAlloc, stLoad, stStore, stField, stExtract, stBin, stUn, stConv, stNilCheck, stFieldV, stIndex, stIndexAddr, stLen, stMin, stMax, stBuild, fillI, stBuildSlice, setRows, stMakeSlice, stAppend, srcR, segR, rdCells, stSlice, bnd, stArr, stCopy, stConv2, isIntV, cutR, byteRows, rowByte, binStr, Option.map_some, Option.map_none, eq_self, canTL, canT, canH, canL, patL, gcH, gcT, gcI, get_gcT, mapC, pullS, pullI, pushS, push1, pushI, pushC, pullHW, roC, ix, List.map_map, Function.comp_def, List.zip_cons_cons, List.zip_nil_left, List.zip_nil_right, List.range'_zero, List.range'_succ, rd, get, put, IV.cells, ofValue, seg, spl, ldIV, binInt, eqI, cellsEq, leafEq, resI, flat, isT, upd, up1, nextM, cR, ptrC, nAl, isAl, List.length_cons, List.length_nil, List.length_append, List.length_replicate, List.length_set, Nat.reduceAdd, Nat.reduceMul, Nat.reduceEqDiff, Nat.reduceLeDiff, Nat.zero_add, Nat.add_zero, ne_eq, reduceCtorEq, not_false_eq_true, not_true_eq_false, reduceIte, true_and, and_true, and_false, false_and, and_self, List.nil_append, List.cons_append, List.append_nil, List.getElem?_cons_zero, List.getElem?_cons_succ, List.drop_succ_cons, List.drop_zero, List.take_succ_cons, List.take_zero, List.set_cons_zero, List.set_cons_succ, List.getElem?_toArray, Option.bind_some, Bool.false_eq_true, Nat.add_one_ne_zero, Nat.succ_ne_self, List.map_cons, List.map_nil, Bool.not_true, Bool.not_false, List.replicate_succ, List.replicate_zero, List.mem_cons, List.not_mem_nil, or_false, false_or, or_true, true_or, forall_const, false_implies, implies_true, true_implies, Int.reduceToNat, Int.reduceLE, Int.reduceLT, Int.cast_ofNat_Int, bne, Int.reduceEq, Int.reduceNe, Int.reduceNeg, Int.reduceAdd, Int.reduceSub, Int.reduceMul, beq_self_eq_true, Int.reduceBEq, Int.reduceBNe, Bool.true_and, Bool.false_and, Bool.and_true, Bool.and_false, Bool.true_or, Bool.false_or, Bool.or_true, Bool.or_false, Nat.reduceLT, Nat.reduceSub, Nat.zero_min, Nat.min_zero, Nat.min_self, List.flatMap_cons, List.flatMap_nil, Int.toNat_natCast, strEq_self, Bool.not_eq_true', decide_true, decide_false, WLS, ty_ag_102, ty_ag_27, ty_ag_54, ty_ag_97, ty_ag_99, ty_by_97, ty_of_102_0, ty_of_102_1, ty_of_99_2, ty_sl_97, ty_sr_97, ty_sz_102, ty_sz_27, ty_sz_54, ty_sz_97, ty_sz_99, ty_ze_99, ty_zs_97]
      | (with_reducible refine drawK_id ?_); refine drawK_auto hmix (by kernel_rfl) ?_
      | (with_reducible refine draw_fin ?_ ?_); · kernel_rfl
      | (with_reducible refine draw_id ?_); kernel_rfl
      | ((with_reducible refine callK_id (f := 46) ?_); refine callK_funR [0] (r := .s (.raw (.int .i64 (-1)))) (by simp [pullH, roC, pullI, pullS, ix, pull_eR]; exact c46) rfl ?_)
      | (with_reducible refine And.intro ?_ ?_; · omega)
    refine loopK_wk (by kernel_rfl) (I73 R R 0 m l e []) R.length ⟨_, _, Wk.refl, 0, by omega, by omega, by omega, ?_, ?_, ?_, ?_, ?_⟩ ?_ <;> first | with_reducible rfl | (simp [get]; done) | (simp [rR, fbx, eR_def]; done) | skip
    rintro mm tm H ⟨i, rfl, hi, hu, g2, g3, g4, g6, rfl⟩
    unfold rR fbx
    have hw : IntKind.i64.wrap ((i : Int) + 1) = ((i + 1 : Nat) : Int) := by rw [wr_i64 (by omega) (by omega)]; rfl
    by_cases hq : i < R.length
    · have q1 : decide ((i : Int) < (R.length : Int)) = true := decide_eq_true (by omega)
      have b0 : (0 : Int) ≤ (i : Int) := by omega
      have b2 : (i : Int) < (R.length : Int) := by omega
      obtain ⟨y, hy⟩ : ∃ y, R[i]? = some y := ⟨_, List.getElem?_eq_getElem hq⟩
      have hyl : (R.map eR)[i]? = some (eR y) := by rw [List.getElem?_map, hy]; rfl
      have hyk := hv y (List.mem_of_getElem? hy)
      have c93 := f93 y e hyk he
      cases hlt : ltK y.k e.k with
      | true =>
        have hu2 : i + 1 ≤ upTo EN.k ltK R e.k := by
          rcases Nat.lt_or_eq_of_le hu with h | h
          · exact h
          · rw [h] at hy; rw [upTo_stop hy] at hlt; cases hlt
        repeat' first
          | with_reducible rfl
          | simp only [eR_len, q1, b0, b2, hyl, hw, hlt, g2, g3, g4, g6, List.length_map, Int.toNat_natCast, e_nil, e_cons, e_gd, e_gdt, e_gdf, e_g0, e_g1, e_op, e_step, e_stepG, e_stepN, e_clo, e_cloF, e_ret, e_put, e_junk, e_skip, e_reg, e_draw, e_seq, e_cond, e_block, e_exit, e_r, e_label, e_loop, q_sn, q_sr, q_se, q_bn, q_br, q_be, q_rr, q_rn, e_res0, e_res1, e_res2, e_b, d_nil, d_cons, d_op, d_step, d_stepG, d_stepN, d_clo, d_cloF, d_ret, d_put, d_junk, d_inf, d_fin, g_not, g_and, argsTM, stepE, stBuiltin, stBox, stAlloc, stLoad, stStore, stField, stExtract, stBin, stUn, stConv, stNilCheck, stFieldV, stIndex, stIndexAddr, stLen, stMin, stMax, stBuild, fillI, stBuildSlice, setRows, stMakeSlice, stAppend, srcR, segR, rdCells, stSlice, bnd, stArr, stCopy, stConv2, isIntV, cutR, byteRows, rowByte, binStr, Option.map_some, Option.map_none, eq_self, canTL, canT, canH, canL, patL, gcH, gcT, gcI, get_gcT, mapC, pullS, pullI, pushS, push1, pushI, pushC, pullHW, roC, ix, List.map_map, Function.comp_def, List.zip_cons_cons, List.zip_nil_left, List.zip_nil_right, List.range'_zero, List.range'_succ, rd, get, put, IV.cells, ofValue, seg, spl, ldIV, binInt, eqI, cellsEq, leafEq, resI, flat, isT, upd, up1, nextM, cR, ptrC, nAl, isAl, List.length_cons, List.length_nil, List.length_append, List.length_replicate, List.length_set, Nat.reduceAdd, Nat.reduceMul, Nat.reduceEqDiff, Nat.reduceLeDiff, Nat.zero_add, Nat.add_zero, ne_eq, reduceCtorEq, not_false_eq_true, not_true_eq_false, reduceIte, true_and, and_true, and_false, false_and, and_self, List.nil_append, List.cons_append, List.append_nil, List.getElem?_cons_zero, List.getElem?_cons_succ, List.drop_succ_cons, List.drop_zero, List.take_succ_cons, List.take_zero, List.set_cons_zero, List.set_cons_succ, List.getElem?_toArray, Option.bind_some, Bool.false_eq_true, Nat.add_one_ne_zero, Nat.succ_ne_self, List.map_cons, List.map_nil, Bool.not_true, Bool.not_false, List.replicate_succ, List.replicate_zero, List.mem_cons, List.not_mem_nil, or_false, false_or, or_true, true_or, forall_const, false_implies, implies_true, true_implies, Int.reduceToNat, Int.reduceLE, Int.reduceLT, Int.cast_ofNat_Int, bne, Int.reduceEq, Int.reduceNe, Int.reduceNeg, Int.reduceAdd, Int.reduceSub, Int.reduceMul, beq_self_eq_true, Int.reduceBEq, Int.reduceBNe, Bool.true_and, Bool.false_and, Bool.and_true, Bool.and_false, Bool.true_or, Bool.false_or, Bool.or_true, Bool.or_false, Nat.reduceLT, Nat.reduceSub, Nat.zero_min, Nat.min_zero, Nat.min_self, List.flatMap_cons, List.flatMap_nil, Int.toNat_natCast, strEq_self, Bool.not_eq_true', decide_true, decide_false, WLS, ty_ag_102, ty_ag_27, ty_ag_54, ty_ag_97, ty_ag_99, ty_by_97, ty_of_102_0, ty_of_102_1, ty_of_99_2, ty_sl_97, ty_sr_97, ty_sz_102, ty_sz_27, ty_sz_54, ty_sz_97, ty_sz_99, ty_ze_99, ty_zs_97]
          | (with_reducible refine drawK_id ?_); refine drawK_auto hmix (by kernel_rfl) ?_
          | (with_reducible refine draw_fin ?_ ?_); · kernel_rfl
          | (with_reducible refine draw_id ?_); kernel_rfl
          | (with_reducible refine callD_id (f := 93) (args := [.a (eR y), .a (eR e)]) ?_); refine callD_of (c93) rfl rfl ?_
          | (with_reducible refine And.intro ?_ ?_; · omega)
        refine ⟨R.length - (i + 1), _, _, by omega, Wk.gc [0, 1, 2, 3] rfl (by decide), i + 1, rfl, by omega, hu2, ?_, ?_, ?_, ?_, ?_⟩ <;> first | with_reducible rfl | (simp [Function.comp_def, get_gcT, get, put, gcI, pullI, pullS, gcH, patL, canL, canH, canTL, canT, rows_pull, ix, g2, g3, g4, g6]; done) | (simp [Function.comp_def, get_gcT, get, put, gcI, pullI, pullS, gcH, patL, canL, canH, canTL, canT, rows_pull, ix, rR, fbx, pull_one]; done)
      | false =>
        have hu2 : i = upTo EN.k ltK R e.k := by
          rcases Nat.lt_or_eq_of_le hu with h | h
          · rw [upTo_lt h hy] at hlt; cases hlt
          · exact h
        have s1 := seg_take (R := R) (k := i) (by omega)
        have s2 := seg_drop (R := R) (k := i) (by omega)
        have s3 : segR ((R.take i).map eR) 0 i = some ((R.take i).map eR) := seg_all (by simp; omega)
        have s4 : segR ((R.take i).map eR ++ [eR e]) 0 (i + 1) = some ((R.take i).map eR ++ [eR e]) := seg_all (by simp; omega)
        have b1 : (0 : Int) ≤ (i : Int) := by omega
        have b2 : (i : Int) ≤ (R.length : Int) := by omega
        have l1 : ((R.take i).map eR).length = i := by simp; omega
        have l2 : ((R.drop i).map eR).length = R.length - i := by simp
        have hli : (ins EN.k ltK R e).length = i + 1 + (R.length - i) := by simp [ins, ← hu2]; omega
        have hin : (ins EN.k ltK R e).map eR = (R.take i).map eR ++ (eR e :: (R.drop i).map eR) := by simp [ins, ← hu2]
        rw [hli, hin]
        repeat' first
          | with_reducible rfl
          | simp only [seg_one, q1, hlt, s1, s2, s3, s4, b0, b1, b2, hyl, l1, l2, seg_nil, Int.toNat_natCast, Nat.sub_zero, g2, g3, g4, g6, eR_len, List.length_map, List.append_assoc, e_nil, e_cons, e_gd, e_gdt, e_gdf, e_g0, e_g1, e_op, e_step, e_stepG, e_stepN, e_clo, e_cloF, e_ret, e_put, e_junk, e_skip, e_reg, e_draw, e_seq, e_cond, e_block, e_exit, e_r, e_label, e_loop, q_sn, q_sr, q_se, q_bn, q_br, q_be, q_rr, q_rn, e_res0, e_res1, e_res2, e_b, d_nil, d_cons, d_op, d_step, d_stepG, d_stepN, d_clo, d_cloF, d_ret, d_put, d_junk, d_inf, d_fin, g_not, g_and, argsTM, stepE, stBuiltin, stBox, stAlloc, stLoad, stStore, stField, stExtract, stBin, stUn, stConv, stNilCheck, stFieldV, stIndex, stIndexAddr, stLen, stMin, stMax, stBuild, fillI, stBuildSlice, setRows, stMakeSlice, stAppend, srcR, rdCells, stSlice, bnd, stArr, stCopy, stConv2, isIntV, cutR, byteRows, rowByte, binStr, Option.map_some, Option.map_none, eq_self, canTL, canT, canH, canL, patL, gcH, gcT, gcI, get_gcT, mapC, pullS, pullI, pushS, push1, pushI, pushC, pullHW, roC, ix, List.map_map, Function.comp_def, List.zip_cons_cons, List.zip_nil_left, List.zip_nil_right, List.range'_zero, List.range'_succ, rd, get, put, IV.cells, ofValue, seg, spl, ldIV, binInt, eqI, cellsEq, leafEq, resI, flat, isT, upd, up1, nextM, cR, ptrC, nAl, isAl, List.length_cons, List.length_nil, List.length_append, List.length_replicate, List.length_set, Nat.reduceAdd, Nat.reduceMul, Nat.reduceEqDiff, Nat.reduceLeDiff, Nat.zero_add, Nat.add_zero, ne_eq, reduceCtorEq, not_false_eq_true, not_true_eq_false, reduceIte, true_and, and_true, and_false, false_and, and_self, List.nil_append, List.cons_append, List.append_nil, List.getElem?_cons_zero, List.getElem?_cons_succ, List.drop_succ_cons, List.drop_zero, List.take_succ_cons, List.take_zero, List.set_cons_zero, List.set_cons_succ, List.getElem?_toArray, Option.bind_some, Bool.false_eq_true, Nat.add_one_ne_zero, Nat.succ_ne_self, List.map_cons, List.map_nil, Bool.not_true, Bool.not_false, List.replicate_succ, List.replicate_zero, List.mem_cons, List.not_mem_nil, or_false, false_or, or_true, true_or, forall_const, false_implies, implies_true, true_implies, Int.reduceToNat, Int.reduceLE, Int.reduceLT, Int.cast_ofNat_Int, bne, Int.reduceEq, Int.reduceNe, Int.reduceNeg, Int.reduceAdd, Int.reduceSub, Int.reduceMul, beq_self_eq_true, Int.reduceBEq, Int.reduceBNe, Bool.true_and, Bool.false_and, Bool.and_true, Bool.and_false, Bool.true_or, Bool.false_or, Bool.or_true, Bool.or_false, Nat.reduceLT, Nat.reduceSub, Nat.zero_min, Nat.min_zero, Nat.min_self, List.flatMap_cons, List.flatMap_nil, Int.toNat_natCast, strEq_self, Bool.not_eq_true', decide_true, decide_false, WLS, ty_ag_102, ty_ag_27, ty_ag_54, ty_ag_97, ty_ag_99, ty_by_97, ty_of_102_0, ty_of_102_1, ty_of_99_2, ty_sl_97, ty_sr_97, ty_sz_102, ty_sz_27, ty_sz_54, ty_sz_97, ty_sz_99, ty_ze_99, ty_zs_97]
          | (with_reducible refine drawK_id ?_); refine drawK_auto hmix (by kernel_rfl) ?_
          | (with_reducible refine draw_fin ?_ ?_); · kernel_rfl
          | (with_reducible refine draw_id ?_); kernel_rfl
          | (with_reducible refine callD_id (f := 93) (args := [.a (eR y), .a (eR e)]) ?_); refine callD_of (c93) rfl rfl ?_
          | exact ⟨.a [.raw (.int .i64 m), .raw (.int .i64 l), .slice 1 0 (i + 1 + (R.length - i))], [.rows true 9 ((R.take i).map eR ++ (eR e :: (R.drop i).map eR))], WkR.to (WkR.gc [0, 8] rfl (by decide)) (by simp [gcI, pullI, pullS, ix]) (by simp [gcH, rows_pull, pullS, ix, mapC, pull_one, Function.comp_def]), by simp, rfl, rfl⟩
          | exact ⟨.a [.raw (.int .i64 m), .raw (.int .i64 l), .slice 1 0 (i + 1 + (R.length - i))], [.rows true 9 ((R.take i).map eR ++ (eR e :: (R.drop i).map eR))], WkR.to (WkR.gc [0, 7] rfl (by decide)) (by simp [gcI, pullI, pullS, ix]) (by simp [gcH, rows_pull, pullS, ix, mapC, pull_one, Function.comp_def]), by simp, rfl, rfl⟩
          | exact ⟨.a [.raw (.int .i64 m), .raw (.int .i64 l), .slice 1 0 (i + 1 + (R.length - i))], [.rows true 9 ((R.take i).map eR ++ (eR e :: (R.drop i).map eR))], WkR.to (WkR.gc [0, 9] rfl (by decide)) (by simp [gcI, pullI, pullS, ix]) (by simp [gcH, rows_pull, pullS, ix, mapC, pull_one, Function.comp_def]), by simp, rfl, rfl⟩
          | (with_reducible refine And.intro ?_ ?_; · omega)
    · have q1 : decide ((i : Int) < (R.length : Int)) = false := decide_eq_false (by omega)
      have hu2 : i = upTo EN.k ltK R e.k := by have := upTo_le (key := EN.k) (lt := ltK) R e.k; omega
      have s1 := seg_take (R := R) (k := i) (by omega)
      have s2 := seg_drop (R := R) (k := i) (by omega)
      have s3 : segR ((R.take i).map eR) 0 i = some ((R.take i).map eR) := seg_all (by simp; omega)
      have s4 : segR ((R.take i).map eR ++ [eR e]) 0 (i + 1) = some ((R.take i).map eR ++ [eR e]) := seg_all (by simp; omega)
      have b1 : (0 : Int) ≤ (i : Int) := by omega
      have b2 : (i : Int) ≤ (R.length : Int) := by omega
      have l1 : ((R.take i).map eR).length = i := by simp; omega
      have l2 : ((R.drop i).map eR).length = R.length - i := by simp
      have hli : (ins EN.k ltK R e).length = i + 1 + (R.length - i) := by simp [ins, ← hu2]; omega
      have hin : (ins EN.k ltK R e).map eR = (R.take i).map eR ++ (eR e :: (R.drop i).map eR) := by simp [ins, ← hu2]
      rw [hli, hin]
      repeat' first
        | with_reducible rfl
        | simp only [seg_one, q1, s1, s2, s3, s4, b1, b2, l1, l2, seg_nil, Int.toNat_natCast, Nat.sub_zero, g2, g3, g4, g6, eR_len, List.length_map, List.append_assoc, e_nil, e_cons, e_gd, e_gdt, e_gdf, e_g0, e_g1, e_op, e_step, e_stepG, e_stepN, e_clo, e_cloF, e_ret, e_put, e_junk, e_skip, e_reg, e_draw, e_seq, e_cond, e_block, e_exit, e_r, e_label, e_loop, q_sn, q_sr, q_se, q_bn, q_br, q_be, q_rr, q_rn, e_res0, e_res1, e_res2, e_b, d_nil, d_cons, d_op, d_step, d_stepG, d_stepN, d_clo, d_cloF, d_ret, d_put, d_junk, d_inf, d_fin, g_not, g_and, argsTM, stepE, stBuiltin, stBox, stAlloc, stLoad, stStore, stField, stExtract, stBin, stUn, stConv, stNilCheck, stFieldV, stIndex, stIndexAddr, stLen, stMin, stMax, stBuild, fillI, stBuildSlice, setRows, stMakeSlice, stAppend, srcR, rdCells, stSlice, bnd, stArr, stCopy, stConv2, isIntV, cutR, byteRows, rowByte, binStr, Option.map_some, Option.map_none, eq_self, canTL, canT, canH, canL, patL, gcH, gcT, gcI, get_gcT, mapC, pullS, pullI, pushS, push1, pushI, pushC, pullHW, roC, ix, List.map_map, Function.comp_def, List.zip_cons_cons, List.zip_nil_left, List.zip_nil_right, List.range'_zero, List.range'_succ, rd, get, put, IV.cells, ofValue, seg, spl, ldIV, binInt, eqI, cellsEq, leafEq, resI, flat, isT, upd, up1, nextM, cR, ptrC, nAl, isAl, List.length_cons, List.length_nil, List.length_append, List.length_replicate, List.length_set, Nat.reduceAdd, Nat.reduceMul, Nat.reduceEqDiff, Nat.reduceLeDiff, Nat.zero_add, Nat.add_zero, ne_eq, reduceCtorEq, not_false_eq_true, not_true_eq_false, reduceIte, true_and, and_true, and_false, false_and, and_self, List.nil_append, List.cons_append, List.append_nil, List.getElem?_cons_zero, List.getElem?_cons_succ, List.drop_succ_cons, List.drop_zero, List.take_succ_cons, List.take_zero, List.set_cons_zero, List.set_cons_succ, List.getElem?_toArray, Option.bind_some, Bool.false_eq_true, Nat.add_one_ne_zero, Nat.succ_ne_self, List.map_cons, List.map_nil, Bool.not_true, Bool.not_false, List.replicate_succ, List.replicate_zero, List.mem_cons, List.not_mem_nil, or_false, false_or, or_true, true_or, forall_const, false_implies, implies_true, true_implies, Int.reduceToNat, Int.reduceLE, Int.reduceLT, Int.cast_ofNat_Int, bne, Int.reduceEq, Int.reduceNe, Int.reduceNeg, Int.reduceAdd, Int.reduceSub, Int.reduceMul, beq_self_eq_true, Int.reduceBEq, Int.reduceBNe, Bool.true_and, Bool.false_and, Bool.and_true, Bool.and_false, Bool.true_or, Bool.false_or, Bool.or_true, Bool.or_false, Nat.reduceLT, Nat.reduceSub, Nat.zero_min, Nat.min_zero, Nat.min_self, List.flatMap_cons, List.flatMap_nil, Int.toNat_natCast, strEq_self, Bool.not_eq_true', decide_true, decide_false, WLS, ty_ag_102, ty_ag_27, ty_ag_54, ty_ag_97, ty_ag_99, ty_by_97, ty_of_102_0, ty_of_102_1, ty_of_99_2, ty_sl_97, ty_sr_97, ty_sz_102, ty_sz_27, ty_sz_54, ty_sz_97, ty_sz_99, ty_ze_99, ty_zs_97]
        | (with_reducible refine drawK_id ?_); refine drawK_auto hmix (by kernel_rfl) ?_
        | (with_reducible refine draw_fin ?_ ?_); · kernel_rfl
        | (with_reducible refine draw_id ?_); kernel_rfl
        | exact ⟨.a [.raw (.int .i64 m), .raw (.int .i64 l), .slice 1 0 (i + 1 + (R.length - i))], [.rows true 9 ((R.take i).map eR ++ (eR e :: (R.drop i).map eR))], WkR.to (WkR.gc [0, 8] rfl (by decide)) (by simp [gcI, pullI, pullS, ix]) (by simp [gcH, rows_pull, pullS, ix, mapC, pull_one, Function.comp_def]), by simp, rfl, rfl⟩
        | exact ⟨.a [.raw (.int .i64 m), .raw (.int .i64 l), .slice 1 0 (i + 1 + (R.length - i))], [.rows true 9 ((R.take i).map eR ++ (eR e :: (R.drop i).map eR))], WkR.to (WkR.gc [0, 7] rfl (by decide)) (by simp [gcI, pullI, pullS, ix]) (by simp [gcH, rows_pull, pullS, ix, mapC, pull_one, Function.comp_def]), by simp, rfl, rfl⟩
        | exact ⟨.a [.raw (.int .i64 m), .raw (.int .i64 l), .slice 1 0 (i + 1 + (R.length - i))], [.rows true 9 ((R.take i).map eR ++ (eR e :: (R.drop i).map eR))], WkR.to (WkR.gc [0, 9] rfl (by decide)) (by simp [gcI, pullI, pullS, ix]) (by simp [gcH, rows_pull, pullS, ix, mapC, pull_one, Function.comp_def]), by simp, rfl, rfl⟩
        | (with_reducible refine And.intro ?_ ?_; · omega)
  · have hd : delE (R1 ++ x :: R2) e.k = R1 ++ R2 := by rw [← hk]; exact del_hit R1 x R2 (fun y hy => by rw [hk]; exact h0 y hy)
    have hp : putR (R1 ++ x :: R2) e = ins EN.k ltK (R1 ++ R2) e := by unfold putR; rw [hd]
    have hc : cutE (R1 ++ x :: R2) R1.length = R1 ++ R2 := by simp [cutE]
    have c74 := f74 (R1 ++ x :: R2) hb R1.length (by simp)
    have z0 : decide ((0 : Int) ≤ (R1.length : Int)) = true := decide_eq_true (by omega)
    rw [hc] at c74
    rw [hp]
    rw [h1] at c46
    unfold rR at c74
    obtain ⟨RR, hRR⟩ : ∃ RR, R1 ++ R2 = RR := ⟨_, rfl⟩
    have hs2 : Sorted EN.k ltK RR := by rw [← hRR]; exact sorted_del hs
    have hv2 : ∀ y ∈ RR, KOK y.k := fun y hy => hv y (by rw [← hRR] at hy; rcases List.mem_append.1 hy with h | h <;> simp [h])
    have hb2 : RR.length ≤ 100000 := by rw [← hRR]; simp at hb ⊢; omega
    obtain ⟨R0, hR0⟩ : ∃ R0, R1 ++ x :: R2 = R0 := ⟨_, rfl⟩
    rw [hRR] at c74 ⊢
    rw [hR0] at c74 c46 ⊢
    refine callK_inline (rs := [.cell 4 99]) (n := 52) Try.func73 rfl rfl rfl (by kernel_rfl) (by kernel_rfl) (by simp only [List.length_cons, List.length_nil]; decide) ?_
    repeat' first
      | with_reducible rfl
      | simp only [eR_def, encM, kd, z0, e_nil, e_cons, e_gd, e_gdt, e_gdf, e_g0, e_g1, e_op, e_step, e_stepG, e_stepN, e_clo, e_cloF, e_ret, e_put, e_junk, e_skip, e_reg, e_draw, e_seq, e_cond, e_block, e_exit, e_r, e_label, e_loop, q_sn, q_sr, q_se, q_bn, q_br, q_be, q_rr, q_rn, e_res0, e_res1, e_res2, e_b, d_nil, d_cons, d_op, d_step, d_stepG, d_stepN, d_clo, d_cloF, d_ret, d_put, d_junk, d_inf, d_fin, g_not, g_and, argsTM, stepE, stBuiltin, stBox, stAlloc, stLoad, stStore, stField, stExtract, stBin, stUn, stConv, stNilCheck, stFieldV, stIndex, stIndexAddr, stLen, stMin, stMax, stBuild, fillI, stBuildSlice, setRows, stMakeSlice, stAppend, srcR, segR, rdCells, stSlice, bnd, stArr, stCopy, stConv2, isIntV, cutR, byteRows, rowByte, binStr, Option.map_some, Option.map_none, eq_self, canTL, canT, canH, canL, patL, gcH, gcT, gcI, get_gcT, mapC, pullS, pullI, pushS, push1, pushI, pushC, pullHW, roC, ix, List.map_map, Function.comp_def, List.zip_cons_cons, List.zip_nil_left, List.zip_nil_right, List.range'_zero, List.range'_succ, rd, get, put, IV.cells, ofValue, seg, spl, ldIV, binInt, eqI, cellsEq, leafEq, resI, flat, isT, upd, up1, nextM, cR, ptrC, nAl, isAl, List.length_cons, List.length_nil, List.length_append, List.length_replicate, List.length_set, Nat.reduceAdd, Nat.reduceMul, Nat.reduceEqDiff, Nat.reduceLeDiff, Nat.zero_add, Nat.add_zero, ne_eq, reduceCtorEq, not_false_eq_true, not_true_eq_false, reduceIte, true_and, and_true, and_false, false_and, and_self, List.nil_append, List.cons_append, List.append_nil, List.getElem?_cons_zero, List.getElem?_cons_succ, List.drop_succ_cons, List.drop_zero, List.take_succ_cons, List.take_zero, List.set_cons_zero, List.set_cons_succ, List.getElem?_toArray, Option.bind_some, Bool.false_eq_true, Nat.add_one_ne_zero, Nat.succ_ne_self, List.map_cons, List.map_nil, Bool.not_true, Bool.not_false, List.replicate_succ, List.replicate_zero, List.mem_cons, List.not_mem_nil, or_false, false_or, or_true, true_or, forall_const, false_implies, implies_true, true_implies, Int.reduceToNat, Int.reduceLE, Int.reduceLT, Int.cast_ofNat_Int, bne, Int.reduceEq, Int.reduceNe, Int.reduceNeg, Int.reduceAdd, Int.reduceSub, Int.reduceMul, beq_self_eq_true, Int.reduceBEq, Int.reduceBNe, Bool.true_and, Bool.false_and, Bool.and_true, Bool.and_false, Bool.true_or, Bool.false_or, Bool.or_true, Bool.or_false, Nat.reduceLT, Nat.reduceSub, Nat.zero_min, Nat.min_zero, Nat.min_self, List.flatMap_cons, List.flatMap_nil, Int.toNat_natCast, strEq_self, Bool.not_eq_true', decide_true, decide_false, WLS, ty_ag_102, ty_ag_27, ty_ag_54, ty_ag_97, ty_ag_99, ty_by_97, ty_of_102_0, ty_of_102_1, ty_of_99_2, ty_sl_97, ty_sr_97, ty_sz_102, ty_sz_27, ty_sz_54, ty_sz_97, ty_sz_99, ty_ze_99, ty_zs_97]
      | (with_reducible refine drawK_id ?_); refine drawK_auto hmix (by kernel_rfl) ?_
      | (with_reducible refine draw_fin ?_ ?_); · kernel_rfl
      | (with_reducible refine draw_id ?_); kernel_rfl
      | ((with_reducible refine callK_id (f := 46) ?_); refine callK_funR [0] (r := .s (.raw (.int .i64 (R1.length : Int)))) (by simp [pullH, roC, pullI, pullS, ix, pull_eR]; exact c46) rfl ?_)
      | ((with_reducible refine callK_id (f := 74) ?_); refine callK_funW [0] [] (c74) (by simp [pullHW, roC, pullS, ix, pull_one, Function.comp_def]) rfl rfl (by decide) (by simp) (by simp [pullI, pullS, ix]) ?_; rintro r Hn ⟨rfl, rfl⟩ -; skip)
      | (with_reducible refine And.intro ?_ ?_; · omega)
    refine loopK_wk (by kernel_rfl) (I73 R0 RR 4 m l e [.rows true 9 (RR.map eR)]) RR.length ⟨_, _, Wk.refl, 0, by omega, by omega, by omega, ?_, ?_, ?_, ?_, ?_⟩ ?_ <;> first | with_reducible rfl | (simp [get]; done) | (simp [rR, fbx, eR_def]; done) | skip
    rintro mm tm H ⟨i, rfl, hi, hu, g2, g3, g4, g6, rfl⟩
    unfold rR fbx
    have hw : IntKind.i64.wrap ((i : Int) + 1) = ((i + 1 : Nat) : Int) := by rw [wr_i64 (by omega) (by omega)]; rfl
    by_cases hq : i < RR.length
    · have q1 : decide ((i : Int) < (RR.length : Int)) = true := decide_eq_true (by omega)
      have b0 : (0 : Int) ≤ (i : Int) := by omega
      have b2 : (i : Int) < (RR.length : Int) := by omega
      obtain ⟨y, hy⟩ : ∃ y, RR[i]? = some y := ⟨_, List.getElem?_eq_getElem hq⟩
      have hyl : (RR.map eR)[i]? = some (eR y) := by rw [List.getElem?_map, hy]; rfl
      have hyk := hv2 y (List.mem_of_getElem? hy)
      have c93 := f93 y e hyk he
      cases hlt : ltK y.k e.k with
      | true =>
        have hu2 : i + 1 ≤ upTo EN.k ltK RR e.k := by
          rcases Nat.lt_or_eq_of_le hu with h | h
          · exact h
          · rw [h] at hy; rw [upTo_stop hy] at hlt; cases hlt
        repeat' first
          | with_reducible rfl
          | simp only [eR_len, q1, b0, b2, hyl, hw, hlt, g2, g3, g4, g6, List.length_map, Int.toNat_natCast, e_nil, e_cons, e_gd, e_gdt, e_gdf, e_g0, e_g1, e_op, e_step, e_stepG, e_stepN, e_clo, e_cloF, e_ret, e_put, e_junk, e_skip, e_reg, e_draw, e_seq, e_cond, e_block, e_exit, e_r, e_label, e_loop, q_sn, q_sr, q_se, q_bn, q_br, q_be, q_rr, q_rn, e_res0, e_res1, e_res2, e_b, d_nil, d_cons, d_op, d_step, d_stepG, d_stepN, d_clo, d_cloF, d_ret, d_put, d_junk, d_inf, d_fin, g_not, g_and, argsTM, stepE, stBuiltin, stBox, stAlloc, stLoad, stStore, stField, stExtract, stBin, stUn, stConv, stNilCheck, stFieldV, stIndex, stIndexAddr, stLen, stMin, stMax, stBuild, fillI, stBuildSlice, setRows, stMakeSlice, stAppend, srcR, segR, rdCells, stSlice, bnd, stArr, stCopy, stConv2, isIntV, cutR, byteRows, rowByte, binStr, Option.map_some, Option.map_none, eq_self, canTL, canT, canH, canL, patL, gcH, gcT, gcI, get_gcT, mapC, pullS, pullI, pushS, push1, pushI, pushC, pullHW, roC, ix, List.map_map, Function.comp_def, List.zip_cons_cons, List.zip_nil_left, List.zip_nil_right, List.range'_zero, List.range'_succ, rd, get, put, IV.cells, ofValue, seg, spl, ldIV, binInt, eqI, cellsEq, leafEq, resI, flat, isT, upd, up1, nextM, cR, ptrC, nAl, isAl, List.length_cons, List.length_nil, List.length_append, List.length_replicate, List.length_set, Nat.reduceAdd, Nat.reduceMul, Nat.reduceEqDiff, Nat.reduceLeDiff, Nat.zero_add, Nat.add_zero, ne_eq, reduceCtorEq, not_false_eq_true, not_true_eq_false, reduceIte, true_and, and_true, and_false, false_and, and_self, List.nil_append, List.cons_append, List.append_nil, List.getElem?_cons_zero, List.getElem?_cons_succ, List.drop_succ_cons, List.drop_zero, List.take_succ_cons, List.take_zero, List.set_cons_zero, List.set_cons_succ, List.getElem?_toArray, Option.bind_some, Bool.false_eq_true, Nat.add_one_ne_zero, Nat.succ_ne_self, List.map_cons, List.map_nil, Bool.not_true, Bool.not_false, List.replicate_succ, List.replicate_zero, List.mem_cons, List.not_mem_nil, or_false, false_or, or_true, true_or, forall_const, false_implies, implies_true, true_implies, Int.reduceToNat, Int.reduceLE, Int.reduceLT, Int.cast_ofNat_Int, bne, Int.reduceEq, Int.reduceNe, Int.reduceNeg, Int.reduceAdd, Int.reduceSub, Int.reduceMul, beq_self_eq_true, Int.reduceBEq, Int.reduceBNe, Bool.true_and, Bool.false_and, Bool.and_true, Bool.and_false, Bool.true_or, Bool.false_or, Bool.or_true, Bool.or_false, Nat.reduceLT, Nat.reduceSub, Nat.zero_min, Nat.min_zero, Nat.min_self, List.flatMap_cons, List.flatMap_nil, Int.toNat_natCast, strEq_self, Bool.not_eq_true', decide_true, decide_false, WLS, ty_ag_102, ty_ag_27, ty_ag_54, ty_ag_97, ty_ag_99, ty_by_97, ty_of_102_0, ty_of_102_1, ty_of_99_2, ty_sl_97, ty_sr_97, ty_sz_102, ty_sz_27, ty_sz_54, ty_sz_97, ty_sz_99, ty_ze_99, ty_zs_97]
          | (with_reducible refine drawK_id ?_); refine drawK_auto hmix (by kernel_rfl) ?_
          | (with_reducible refine draw_fin ?_ ?_); · kernel_rfl
          | (with_reducible refine draw_id ?_); kernel_rfl
          | (with_reducible refine callD_id (f := 93) (args := [.a (eR y), .a (eR e)]) ?_); refine callD_of (c93) rfl rfl ?_
          | (with_reducible refine And.intro ?_ ?_; · omega)
        refine ⟨RR.length - (i + 1), _, _, by omega, Wk.gc [0, 1, 2, 3, 4] rfl (by decide), i + 1, rfl, by omega, hu2, ?_, ?_, ?_, ?_, ?_⟩ <;> first | with_reducible rfl | (simp [Function.comp_def, get_gcT, get, put, gcI, pullI, pullS, gcH, patL, canL, canH, canTL, canT, rows_pull, ix, g2, g3, g4, g6]; done) | (simp [Function.comp_def, get_gcT, get, put, gcI, pullI, pullS, gcH, patL, canL, canH, canTL, canT, rows_pull, ix, rR, fbx, pull_one]; done)
      | false =>
        have hu2 : i = upTo EN.k ltK RR e.k := by
          rcases Nat.lt_or_eq_of_le hu with h | h
          · rw [upTo_lt h hy] at hlt; cases hlt
          · exact h
        have s1 := seg_take (R := RR) (k := i) (by omega)
        have s2 := seg_drop (R := RR) (k := i) (by omega)
        have s3 : segR ((RR.take i).map eR) 0 i = some ((RR.take i).map eR) := seg_all (by simp; omega)
        have s4 : segR ((RR.take i).map eR ++ [eR e]) 0 (i + 1) = some ((RR.take i).map eR ++ [eR e]) := seg_all (by simp; omega)
        have b1 : (0 : Int) ≤ (i : Int) := by omega
        have b2 : (i : Int) ≤ (RR.length : Int) := by omega
        have l1 : ((RR.take i).map eR).length = i := by simp; omega
        have l2 : ((RR.drop i).map eR).length = RR.length - i := by simp
        have hli : (ins EN.k ltK RR e).length = i + 1 + (RR.length - i) := by simp [ins, ← hu2]; omega
        have hin : (ins EN.k ltK RR e).map eR = (RR.take i).map eR ++ (eR e :: (RR.drop i).map eR) := by simp [ins, ← hu2]
        rw [hli, hin]
        repeat' first
          | with_reducible rfl
          | simp only [seg_one, q1, hlt, s1, s2, s3, s4, b0, b1, b2, hyl, l1, l2, seg_nil, Int.toNat_natCast, Nat.sub_zero, g2, g3, g4, g6, eR_len, List.length_map, List.append_assoc, e_nil, e_cons, e_gd, e_gdt, e_gdf, e_g0, e_g1, e_op, e_step, e_stepG, e_stepN, e_clo, e_cloF, e_ret, e_put, e_junk, e_skip, e_reg, e_draw, e_seq, e_cond, e_block, e_exit, e_r, e_label, e_loop, q_sn, q_sr, q_se, q_bn, q_br, q_be, q_rr, q_rn, e_res0, e_res1, e_res2, e_b, d_nil, d_cons, d_op, d_step, d_stepG, d_stepN, d_clo, d_cloF, d_ret, d_put, d_junk, d_inf, d_fin, g_not, g_and, argsTM, stepE, stBuiltin, stBox, stAlloc, stLoad, stStore, stField, stExtract, stBin, stUn, stConv, stNilCheck, stFieldV, stIndex, stIndexAddr, stLen, stMin, stMax, stBuild, fillI, stBuildSlice, setRows, stMakeSlice, stAppend, srcR, rdCells, stSlice, bnd, stArr, stCopy, stConv2, isIntV, cutR, byteRows, rowByte, binStr, Option.map_some, Option.map_none, eq_self, canTL, canT, canH, canL, patL, gcH, gcT, gcI, get_gcT, mapC, pullS, pullI, pushS, push1, pushI, pushC, pullHW, roC, ix, List.map_map, Function.comp_def, List.zip_cons_cons, List.zip_nil_left, List.zip_nil_right, List.range'_zero, List.range'_succ, rd, get, put, IV.cells, ofValue, seg, spl, ldIV, binInt, eqI, cellsEq, leafEq, resI, flat, isT, upd, up1, nextM, cR, ptrC, nAl, isAl, List.length_cons, List.length_nil, List.length_append, List.length_replicate, List.length_set, Nat.reduceAdd, Nat.reduceMul, Nat.reduceEqDiff, Nat.reduceLeDiff, Nat.zero_add, Nat.add_zero, ne_eq, reduceCtorEq, not_false_eq_true, not_true_eq_false, reduceIte, true_and, and_true, and_false, false_and, and_self, List.nil_append, List.cons_append, List.append_nil, List.getElem?_cons_zero, List.getElem?_cons_succ, List.drop_succ_cons, List.drop_zero, List.take_succ_cons, List.take_zero, List.set_cons_zero, List.set_cons_succ, List.getElem?_toArray, Option.bind_some, Bool.false_eq_true, Nat.add_one_ne_zero, Nat.succ_ne_self, List.map_cons, List.map_nil, Bool.not_true, Bool.not_false, List.replicate_succ, List.replicate_zero, List.mem_cons, List.not_mem_nil, or_false, false_or, or_true, true_or, forall_const, false_implies, implies_true, true_implies, Int.reduceToNat, Int.reduceLE, Int.reduceLT, Int.cast_ofNat_Int, bne, Int.reduceEq, Int.reduceNe, Int.reduceNeg, Int.reduceAdd, Int.reduceSub, Int.reduceMul, beq_self_eq_true, Int.reduceBEq, Int.reduceBNe, Bool.true_and, Bool.false_and, Bool.and_true, Bool.and_false, Bool.true_or, Bool.false_or, Bool.or_true, Bool.or_false, Nat.reduceLT, Nat.reduceSub, Nat.zero_min, Nat.min_zero, Nat.min_self, List.flatMap_cons, List.flatMap_nil, Int.toNat_natCast, strEq_self, Bool.not_eq_true', decide_true, decide_false, WLS, ty_ag_102, ty_ag_27, ty_ag_54, ty_ag_97, ty_ag_99, ty_by_97, ty_of_102_0, ty_of_102_1, ty_of_99_2, ty_sl_97, ty_sr_97, ty_sz_102, ty_sz_27, ty_sz_54, ty_sz_97, ty_sz_99, ty_ze_99, ty_zs_97]
          | (with_reducible refine drawK_id ?_); refine drawK_auto hmix (by kernel_rfl) ?_
          | (with_reducible refine draw_fin ?_ ?_); · kernel_rfl
          | (with_reducible refine draw_id ?_); kernel_rfl
          | (with_reducible refine callD_id (f := 93) (args := [.a (eR y), .a (eR e)]) ?_); refine callD_of (c93) rfl rfl ?_
          | exact ⟨.a [.raw (.int .i64 m), .raw (.int .i64 l), .slice 1 0 (i + 1 + (RR.length - i))], [.rows true 9 ((RR.take i).map eR ++ (eR e :: (RR.drop i).map eR))], WkR.to (WkR.gc [0, 9] rfl (by decide)) (by simp [gcI, pullI, pullS, ix]) (by simp [gcH, rows_pull, pullS, ix, mapC, pull_one, Function.comp_def]), by simp, rfl, rfl⟩
          | exact ⟨.a [.raw (.int .i64 m), .raw (.int .i64 l), .slice 1 0 (i + 1 + (RR.length - i))], [.rows true 9 ((RR.take i).map eR ++ (eR e :: (RR.drop i).map eR))], WkR.to (WkR.gc [0, 8] rfl (by decide)) (by simp [gcI, pullI, pullS, ix]) (by simp [gcH, rows_pull, pullS, ix, mapC, pull_one, Function.comp_def]), by simp, rfl, rfl⟩
          | exact ⟨.a [.raw (.int .i64 m), .raw (.int .i64 l), .slice 1 0 (i + 1 + (RR.length - i))], [.rows true 9 ((RR.take i).map eR ++ (eR e :: (RR.drop i).map eR))], WkR.to (WkR.gc [0, 10] rfl (by decide)) (by simp [gcI, pullI, pullS, ix]) (by simp [gcH, rows_pull, pullS, ix, mapC, pull_one, Function.comp_def]), by simp, rfl, rfl⟩
          | (with_reducible refine And.intro ?_ ?_; · omega)
    · have q1 : decide ((i : Int) < (RR.length : Int)) = false := decide_eq_false (by omega)
      have hu2 : i = upTo EN.k ltK RR e.k := by have := upTo_le (key := EN.k) (lt := ltK) RR e.k; omega
      have s1 := seg_take (R := RR) (k := i) (by omega)
      have s2 := seg_drop (R := RR) (k := i) (by omega)
      have s3 : segR ((RR.take i).map eR) 0 i = some ((RR.take i).map eR) := seg_all (by simp; omega)
      have s4 : segR ((RR.take i).map eR ++ [eR e]) 0 (i + 1) = some ((RR.take i).map eR ++ [eR e]) := seg_all (by simp; omega)
      have b1 : (0 : Int) ≤ (i : Int) := by omega
      have b2 : (i : Int) ≤ (RR.length : Int) := by omega
      have l1 : ((RR.take i).map eR).length = i := by simp; omega
      have l2 : ((RR.drop i).map eR).length = RR.length - i := by simp
      have hli : (ins EN.k ltK RR e).length = i + 1 + (RR.length - i) := by simp [ins, ← hu2]; omega
      have hin : (ins EN.k ltK RR e).map eR = (RR.take i).map eR ++ (eR e :: (RR.drop i).map eR) := by simp [ins, ← hu2]
      rw [hli, hin]
      repeat' first
        | with_reducible rfl
        | simp only [seg_one, q1, s1, s2, s3, s4, b1, b2, l1, l2, seg_nil, Int.toNat_natCast, Nat.sub_zero, g2, g3, g4, g6, eR_len, List.length_map, List.append_assoc, e_nil, e_cons, e_gd, e_gdt, e_gdf, e_g0, e_g1, e_op, e_step, e_stepG, e_stepN, e_clo, e_cloF, e_ret, e_put, e_junk, e_skip, e_reg, e_draw, e_seq, e_cond, e_block, e_exit, e_r, e_label, e_loop, q_sn, q_sr, q_se, q_bn, q_br, q_be, q_rr, q_rn, e_res0, e_res1, e_res2, e_b, d_nil, d_cons, d_op, d_step, d_stepG, d_stepN, d_clo, d_cloF, d_ret, d_put, d_junk, d_inf, d_fin, g_not, g_and, argsTM, stepE, stBuiltin, stBox, stAlloc, stLoad, stStore, stField, stExtract, stBin, stUn, stConv, stNilCheck, stFieldV, stIndex, stIndexAddr, stLen, stMin, stMax, stBuild, fillI, stBuildSlice, setRows, stMakeSlice, stAppend, srcR, rdCells, stSlice, bnd, stArr, stCopy, stConv2, isIntV, cutR, byteRows, rowByte, binStr, Option.map_some, Option.map_none, eq_self, canTL, canT, canH, canL, patL, gcH, gcT, gcI, get_gcT, mapC, pullS, pullI, pushS, push1, pushI, pushC, pullHW, roC, ix, List.map_map, Function.comp_def, List.zip_cons_cons, List.zip_nil_left, List.zip_nil_right, List.range'_zero, List.range'_succ, rd, get, put, IV.cells, ofValue, seg, spl, ldIV, binInt, eqI, cellsEq, leafEq, resI, flat, isT, upd, up1, nextM, cR, ptrC, nAl, isAl, List.length_cons, List.length_nil, List.length_append, List.length_replicate, List.length_set, Nat.reduceAdd, Nat.reduceMul, Nat.reduceEqDiff, Nat.reduceLeDiff, Nat.zero_add, Nat.add_zero, ne_eq, reduceCtorEq, not_false_eq_true, not_true_eq_false, reduceIte, true_and, and_true, and_false, false_and, and_self, List.nil_append, List.cons_append, List.append_nil, List.getElem?_cons_zero, List.getElem?_cons_succ, List.drop_succ_cons, List.drop_zero, List.take_succ_cons, List.take_zero, List.set_cons_zero, List.set_cons_succ, List.getElem?_toArray, Option.bind_some, Bool.false_eq_true, Nat.add_one_ne_zero, Nat.succ_ne_self, List.map_cons, List.map_nil, Bool.not_true, Bool.not_false, List.replicate_succ, List.replicate_zero, List.mem_cons, List.not_mem_nil, or_false, false_or, or_true, true_or, forall_const, false_implies, implies_true, true_implies, Int.reduceToNat, Int.reduceLE, Int.reduceLT, Int.cast_ofNat_Int, bne, Int.reduceEq, Int.reduceNe, Int.reduceNeg, Int.reduceAdd, Int.reduceSub, Int.reduceMul, beq_self_eq_true, Int.reduceBEq, Int.reduceBNe, Bool.true_and, Bool.false_and, Bool.and_true, Bool.and_false, Bool.true_or, Bool.false_or, Bool.or_true, Bool.or_false, Nat.reduceLT, Nat.reduceSub, Nat.zero_min, Nat.min_zero, Nat.min_self, List.flatMap_cons, List.flatMap_nil, Int.toNat_natCast, strEq_self, Bool.not_eq_true', decide_true, decide_false, WLS, ty_ag_102, ty_ag_27, ty_ag_54, ty_ag_97, ty_ag_99, ty_by_97, ty_of_102_0, ty_of_102_1, ty_of_99_2, ty_sl_97, ty_sr_97, ty_sz_102, ty_sz_27, ty_sz_54, ty_sz_97, ty_sz_99, ty_ze_99, ty_zs_97]
        | (with_reducible refine drawK_id ?_); refine drawK_auto hmix (by kernel_rfl) ?_
        | (with_reducible refine draw_fin ?_ ?_); · kernel_rfl
        | (with_reducible refine draw_id ?_); kernel_rfl
        | exact ⟨.a [.raw (.int .i64 m), .raw (.int .i64 l), .slice 1 0 (i + 1 + (RR.length - i))], [.rows true 9 ((RR.take i).map eR ++ (eR e :: (RR.drop i).map eR))], WkR.to (WkR.gc [0, 9] rfl (by decide)) (by simp [gcI, pullI, pullS, ix]) (by simp [gcH, rows_pull, pullS, ix, mapC, pull_one, Function.comp_def]), by simp, rfl, rfl⟩
        | exact ⟨.a [.raw (.int .i64 m), .raw (.int .i64 l), .slice 1 0 (i + 1 + (RR.length - i))], [.rows true 9 ((RR.take i).map eR ++ (eR e :: (RR.drop i).map eR))], WkR.to (WkR.gc [0, 8] rfl (by decide)) (by simp [gcI, pullI, pullS, ix]) (by simp [gcH, rows_pull, pullS, ix, mapC, pull_one, Function.comp_def]), by simp, rfl, rfl⟩
        | exact ⟨.a [.raw (.int .i64 m), .raw (.int .i64 l), .slice 1 0 (i + 1 + (RR.length - i))], [.rows true 9 ((RR.take i).map eR ++ (eR e :: (RR.drop i).map eR))], WkR.to (WkR.gc [0, 10] rfl (by decide)) (by simp [gcI, pullI, pullS, ix]) (by simp [gcH, rows_pull, pullS, ix, mapC, pull_one, Function.comp_def]), by simp, rfl, rfl⟩
        | (with_reducible refine And.intro ?_ ?_; · omega)
end Go.Ev
