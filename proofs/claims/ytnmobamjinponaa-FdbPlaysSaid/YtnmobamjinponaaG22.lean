/- A part of the proof: contracts of the functions that the statement reaches. -/
import Derived.Test.YtnmobamjinponaaG21
namespace Go.Ev
open Go.Proofs
set_option maxRecDepth 100000
set_option linter.unusedSimpArgs false
set_option linter.unusedVariables false
set_option maxHeartbeats 4000000
open Srt
def gAt (R : List EN) (i : Nat) : Int := ((R[i]?).map (·.g)).getD 0
/-- The place of the first of the oldest. -/
def oldI (R : List EN) : Nat → Nat
  | 0 => 0
  | i + 1 => if gAt R (oldI R i) < gAt R i then i else oldI R i
theorem oldI_lt (R : List EN) (h : 1 ≤ R.length) : ∀ i, i ≤ R.length → oldI R i < R.length
  | 0, _ => by simp [oldI]; omega
  | i + 1, hi => by
    have := oldI_lt R h i (by omega)
    rw [oldI]; split <;> omega
theorem oldI_max (R : List EN) : ∀ i, i ≤ R.length → ∀ j, j < i → gAt R j ≤ gAt R (oldI R i)
  | 0, _, j, hj => by omega
  | i + 1, hi, j, hj => by
    have ih := oldI_max R i (by omega)
    rw [oldI]
    split
    · rename_i h
      rcases Nat.lt_or_eq_of_le (Nat.le_of_lt_succ hj) with h2 | rfl
      · have := ih j h2; omega
      · omega
    · rename_i h
      rcases Nat.lt_or_eq_of_le (Nat.le_of_lt_succ hj) with h2 | rfl
      · exact ih j h2
      · omega
theorem oldI_first (R : List EN) : ∀ i, i ≤ R.length → ∀ j, j < oldI R i → gAt R j < gAt R (oldI R i)
  | 0, _, j, hj => by simp [oldI] at hj
  | i + 1, hi, j, hj => by
    have ih := oldI_first R i (by omega)
    rw [oldI] at hj ⊢
    split at hj
    · rename_i h
      rw [if_pos h]
      have := oldI_max R i (by omega) j hj
      omega
    · rename_i h
      rw [if_neg h]
      exact ih j hj
def e0 (e : EN) : EN := ⟨e.k, e.p, 0, e.s⟩
theorem e0_k (e : EN) : (e0 e).k = e.k := rfl
def zR : IV := .a [.raw (.int .u16 0), .raw (.int .u8 0), .raw (.int .u8 0), .raw (.int .u8 0), .raw (.int .u8 0), .raw (.int .u8 0), .raw (.int .u8 0), .raw (.int .i64 0), .raw (.int .i64 0)]
def I47 (R : List EN) (m l : Int) (e : EN) (mm : Nat) (tm : TM) (H : Heap) : Prop := ∃ i : Nat, mm = R.length - i ∧ i ≤ R.length ∧ get tm 2 = .s (.ptr 1 0 0) ∧ get tm 3 = .s (.ptr 2 0 0) ∧ get tm 4 = .s (.ptr 3 0 0) ∧ get tm 5 = .s (.ptr 4 0 0) ∧ get tm 6 = .s (.raw (.bool false)) ∧ get tm 7 = .s (.raw (.int .i64 (oldI R i : Int))) ∧ get tm 8 = .s (.raw (.int .i64 (i : Int))) ∧
  H = [rR R, fbx m l 0 R.length, .rows true 9 [eR (e0 e)], zfb, .rows true 9 [zR.cells]]
theorem f47_bad (R : List EN) (hs : Sorted EN.k ltK R) (hv : ∀ x ∈ R, KOK x.k) (hb : R.length ≤ 100000) (m l : Int) (e : EN) (he : KOK e.k) (h0 : goodB e.k e.p = false) : FunW Try.prog 47 [rR R] [] [.a [.raw (.int .i64 m), .raw (.int .i64 l), .slice 0 0 R.length], .a (eR e)] fun r Hn => r = .t [.a [.raw (.int .i64 m), .raw (.int .i64 l), .slice 0 0 R.length], zR, .s (.raw (.bool false))] ∧ Hn = [] := by
  refine funW_of fun X => ?_
  have c72 := f72 (e0 e) he
  have c46 := f46 R hb e.k m l
  have kd : (⟨e.k.v, ⟨e.k.m.m0, e.k.m.m1, e.k.m.m2, e.k.m.m3, e.k.m.m4, e.k.m.m5⟩⟩ : KEY) = e.k := rfl
  have hg : goodB (e0 e).k (e0 e).p = goodB e.k e.p := rfl
  rw [hg, h0] at c72
  unfold rR at c46 ⊢
  unfold zR
  refine callK_inline (rs := [.cell 4 99, .cell 5 102, .tmp 6]) (n := 70) Try.func47 rfl rfl rfl (by kernel_rfl) (by kernel_rfl) (by simp only [List.length_cons, List.length_nil]; decide) ?_
  repeat' first
    | with_reducible rfl
    | simp only [eR_def, encM, kd, e0, List.length_map, e_nil, e_cons, e_gd, e_gdt, e_gdf, e_g0, e_g1, e_op, e_step, e_stepG, e_stepN, e_clo, e_cloF, e_ret, e_put, e_junk, e_skip, e_reg, e_draw, e_seq, e_cond, e_block, e_exit, e_r, e_label, e_loop, q_sn, q_sr, q_se, q_bn, q_br, q_be, q_rr, q_rn, e_res0, e_res1, e_res2, e_b, d_nil, d_cons, d_op, d_step, d_stepG, d_stepN, d_clo, d_cloF, d_ret, d_put, d_junk, d_inf, d_fin, g_not, g_and, argsTM, stepE, stBuiltin, stBox, stAlloc, stLoad, stStore, stField, stExtract, stBin, stUn, stConv, stNilCheck, stFieldV, stIndex, stIndexAddr, stLen, stMin, stMax, stBuild, fillI, stBuildSlice, setRows, stMakeSlice, stAppend, srcR, segR, rdCells, stSlice, bnd, stArr, stCopy, stConv2, isIntV, cutR, byteRows, rowByte, binStr, Option.map_some, Option.map_none, eq_self, canTL, canT, canH, canL, patL, gcH, gcT, gcI, get_gcT, mapC, pullS, pullI, pushS, push1, pushI, pushC, pullHW, roC, ix, List.map_map, Function.comp_def, List.zip_cons_cons, List.zip_nil_left, List.zip_nil_right, List.range'_zero, List.range'_succ, rd, get, put, IV.cells, ofValue, seg, spl, ldIV, binInt, eqI, cellsEq, leafEq, resI, flat, isT, upd, up1, nextM, cR, ptrC, nAl, isAl, List.length_cons, List.length_nil, List.length_append, List.length_replicate, List.length_set, Nat.reduceAdd, Nat.reduceMul, Nat.reduceEqDiff, Nat.reduceLeDiff, Nat.zero_add, Nat.add_zero, ne_eq, reduceCtorEq, not_false_eq_true, not_true_eq_false, reduceIte, true_and, and_true, and_false, false_and, and_self, List.nil_append, List.cons_append, List.append_nil, List.getElem?_cons_zero, List.getElem?_cons_succ, List.drop_succ_cons, List.drop_zero, List.take_succ_cons, List.take_zero, List.set_cons_zero, List.set_cons_succ, List.getElem?_toArray, Option.bind_some, Bool.false_eq_true, Nat.add_one_ne_zero, Nat.succ_ne_self, List.map_cons, List.map_nil, Bool.not_true, Bool.not_false, List.replicate_succ, List.replicate_zero, List.mem_cons, List.not_mem_nil, or_false, false_or, or_true, true_or, forall_const, false_implies, implies_true, true_implies, Int.reduceToNat, Int.reduceLE, Int.reduceLT, Int.cast_ofNat_Int, bne, Int.reduceEq, Int.reduceNe, Int.reduceNeg, Int.reduceAdd, Int.reduceSub, Int.reduceMul, beq_self_eq_true, Int.reduceBEq, Int.reduceBNe, Bool.true_and, Bool.false_and, Bool.and_true, Bool.and_false, Bool.true_or, Bool.false_or, Bool.or_true, Bool.or_false, Nat.reduceLT, Nat.reduceSub, Nat.zero_min, Nat.min_zero, Nat.min_self, List.flatMap_cons, List.flatMap_nil, Int.toNat_natCast, strEq_self, Bool.not_eq_true', decide_true, decide_false, WLS, ty_ag_102, ty_ag_27, ty_ag_3, ty_ag_54, ty_ag_97, ty_ag_99, ty_of_102_0, ty_of_102_1, ty_of_102_3, ty_of_99_0, ty_of_99_2, ty_ok_102, ty_sl_97, ty_sz_102, ty_sz_27, ty_sz_3, ty_sz_54, ty_sz_97, ty_sz_99, ty_ze_102, ty_ze_99]
    | (with_reducible refine drawK_id ?_); refine drawK_auto hmix (by kernel_rfl) ?_
    | (with_reducible refine draw_fin ?_ ?_); · kernel_rfl
    | (with_reducible refine draw_id ?_); kernel_rfl
    | ((with_reducible refine callK_id (f := 72) ?_); refine callK_fun c72 rfl rfl ?_)
    | exact ⟨.t [.a [.raw (.int .i64 m), .raw (.int .i64 l), .slice 0 0 R.length], (.a [.raw (.int .u16 0), .raw (.int .u8 0), .raw (.int .u8 0), .raw (.int .u8 0), .raw (.int .u8 0), .raw (.int .u8 0), .raw (.int .u8 0), .raw (.int .i64 0), .raw (.int .i64 0)]), .s (.raw (.bool false))], [], WkR.to (WkR.gc [0] rfl (by decide)) (by simp [gcI, pullI, pullS, ix, pull_one]; try rfl) (by simp [gcH, rows_pull, pull_one, Function.comp_def]; try (intros; rfl)), by simp, rfl, rfl⟩
    | (with_reducible refine And.intro ?_ ?_; · omega)
theorem f47_put (R : List EN) (hs : Sorted EN.k ltK R) (hv : ∀ x ∈ R, KOK x.k) (hb : R.length ≤ 100000) (m l : Int) (e : EN) (he : KOK e.k) (h0 : goodB e.k e.p = true) (h1 : (decide (0 ≤ atI EN.k R e.k) || decide ((R.length : Int) < m)) = true) : FunW Try.prog 47 [rR R] [] [.a [.raw (.int .i64 m), .raw (.int .i64 l), .slice 0 0 R.length], .a (eR e)] fun r Hn => r = .t [.a [.raw (.int .i64 m), .raw (.int .i64 l), .slice 1 0 (putR R (e0 e)).length], zR, .s (.raw (.bool false))] ∧ Hn = [.rows true 9 ((putR R (e0 e)).map eR)] := by
  refine funW_of fun X => ?_
  have c72 := f72 (e0 e) he
  have c46 := f46 R hb e.k m l
  have kd : (⟨e.k.v, ⟨e.k.m.m0, e.k.m.m1, e.k.m.m2, e.k.m.m3, e.k.m.m4, e.k.m.m5⟩⟩ : KEY) = e.k := rfl
  have hg : goodB (e0 e).k (e0 e).p = goodB e.k e.p := rfl
  rw [hg, h0] at c72
  have c73 := f73 R hs hv hb m l (e0 e) he
  unfold rR at c46 c73 ⊢
  unfold zR
  refine callK_inline (rs := [.cell 4 99, .cell 5 102, .tmp 6]) (n := 70) Try.func47 rfl rfl rfl (by kernel_rfl) (by kernel_rfl) (by simp only [List.length_cons, List.length_nil]; decide) ?_
  cases h2 : decide (0 ≤ atI EN.k R e.k) with
  | true =>
    repeat' first
      | with_reducible rfl
      | simp only [eR_def, encM, kd, e0, List.length_map, h2, e_nil, e_cons, e_gd, e_gdt, e_gdf, e_g0, e_g1, e_op, e_step, e_stepG, e_stepN, e_clo, e_cloF, e_ret, e_put, e_junk, e_skip, e_reg, e_draw, e_seq, e_cond, e_block, e_exit, e_r, e_label, e_loop, q_sn, q_sr, q_se, q_bn, q_br, q_be, q_rr, q_rn, e_res0, e_res1, e_res2, e_b, d_nil, d_cons, d_op, d_step, d_stepG, d_stepN, d_clo, d_cloF, d_ret, d_put, d_junk, d_inf, d_fin, g_not, g_and, argsTM, stepE, stBuiltin, stBox, stAlloc, stLoad, stStore, stField, stExtract, stBin, stUn, stConv, stNilCheck, stFieldV, stIndex, stIndexAddr, stLen, stMin, stMax, stBuild, fillI, stBuildSlice, setRows, stMakeSlice, stAppend, srcR, segR, rdCells, stSlice, bnd, stArr, stCopy, stConv2, isIntV, cutR, byteRows, rowByte, binStr, Option.map_some, Option.map_none, eq_self, canTL, canT, canH, canL, patL, gcH, gcT, gcI, get_gcT, mapC, pullS, pullI, pushS, push1, pushI, pushC, pullHW, roC, ix, List.map_map, Function.comp_def, List.zip_cons_cons, List.zip_nil_left, List.zip_nil_right, List.range'_zero, List.range'_succ, rd, get, put, IV.cells, ofValue, seg, spl, ldIV, binInt, eqI, cellsEq, leafEq, resI, flat, isT, upd, up1, nextM, cR, ptrC, nAl, isAl, List.length_cons, List.length_nil, List.length_append, List.length_replicate, List.length_set, Nat.reduceAdd, Nat.reduceMul, Nat.reduceEqDiff, Nat.reduceLeDiff, Nat.zero_add, Nat.add_zero, ne_eq, reduceCtorEq, not_false_eq_true, not_true_eq_false, reduceIte, true_and, and_true, and_false, false_and, and_self, List.nil_append, List.cons_append, List.append_nil, List.getElem?_cons_zero, List.getElem?_cons_succ, List.drop_succ_cons, List.drop_zero, List.take_succ_cons, List.take_zero, List.set_cons_zero, List.set_cons_succ, List.getElem?_toArray, Option.bind_some, Bool.false_eq_true, Nat.add_one_ne_zero, Nat.succ_ne_self, List.map_cons, List.map_nil, Bool.not_true, Bool.not_false, List.replicate_succ, List.replicate_zero, List.mem_cons, List.not_mem_nil, or_false, false_or, or_true, true_or, forall_const, false_implies, implies_true, true_implies, Int.reduceToNat, Int.reduceLE, Int.reduceLT, Int.cast_ofNat_Int, bne, Int.reduceEq, Int.reduceNe, Int.reduceNeg, Int.reduceAdd, Int.reduceSub, Int.reduceMul, beq_self_eq_true, Int.reduceBEq, Int.reduceBNe, Bool.true_and, Bool.false_and, Bool.and_true, Bool.and_false, Bool.true_or, Bool.false_or, Bool.or_true, Bool.or_false, Nat.reduceLT, Nat.reduceSub, Nat.zero_min, Nat.min_zero, Nat.min_self, List.flatMap_cons, List.flatMap_nil, Int.toNat_natCast, strEq_self, Bool.not_eq_true', decide_true, decide_false, WLS, ty_ag_102, ty_ag_27, ty_ag_3, ty_ag_54, ty_ag_97, ty_ag_99, ty_of_102_0, ty_of_102_1, ty_of_102_3, ty_of_99_0, ty_of_99_2, ty_ok_102, ty_sl_97, ty_sz_102, ty_sz_27, ty_sz_3, ty_sz_54, ty_sz_97, ty_sz_99, ty_ze_102, ty_ze_99]
      | (with_reducible refine drawK_id ?_); refine drawK_auto hmix (by kernel_rfl) ?_
      | (with_reducible refine draw_fin ?_ ?_); · kernel_rfl
      | (with_reducible refine draw_id ?_); kernel_rfl
      | ((with_reducible refine callK_id (f := 72) ?_); refine callK_fun c72 rfl rfl ?_)
      | ((with_reducible refine callK_id (f := 46) ?_); refine callK_funR [0] (r := .s (.raw (.int .i64 (atI EN.k R e.k)))) (by simp [pullH, roC, pullI, pullS, ix, pull_eR]; exact c46) rfl ?_)
      | ((with_reducible refine callK_id (f := 73) ?_); refine callK_funW [0] [] (c73) (by simp [pullHW, roC, pullS, ix, pull_one, Function.comp_def]) rfl rfl (by decide) (by simp) (by simp [pullI, pullS, ix, pull_one, eR_def, e0]) ?_; rintro r Hn ⟨rfl, rfl⟩ -; skip)
      | exact ⟨.t [.a [.raw (.int .i64 m), .raw (.int .i64 l), .slice 1 0 (putR R (e0 e)).length], (.a [.raw (.int .u16 0), .raw (.int .u8 0), .raw (.int .u8 0), .raw (.int .u8 0), .raw (.int .u8 0), .raw (.int .u8 0), .raw (.int .u8 0), .raw (.int .i64 0), .raw (.int .i64 0)]), .s (.raw (.bool false))], [.rows true 9 ((putR R (e0 e)).map eR)], WkR.to (WkR.gc [0, 5] rfl (by decide)) (by simp [gcI, pullI, pullS, ix, pull_one]; try rfl) (by simp [gcH, rows_pull, pull_one, Function.comp_def]; try (intros; rfl)), by simp, rfl, rfl⟩
      | (with_reducible refine And.intro ?_ ?_; · omega)
  | false =>
    have h3 : decide ((R.length : Int) < m) = true := by rw [h2, Bool.false_or] at h1; exact h1
    repeat' first
      | with_reducible rfl
      | simp only [eR_def, encM, kd, e0, List.length_map, h2, h3, e_nil, e_cons, e_gd, e_gdt, e_gdf, e_g0, e_g1, e_op, e_step, e_stepG, e_stepN, e_clo, e_cloF, e_ret, e_put, e_junk, e_skip, e_reg, e_draw, e_seq, e_cond, e_block, e_exit, e_r, e_label, e_loop, q_sn, q_sr, q_se, q_bn, q_br, q_be, q_rr, q_rn, e_res0, e_res1, e_res2, e_b, d_nil, d_cons, d_op, d_step, d_stepG, d_stepN, d_clo, d_cloF, d_ret, d_put, d_junk, d_inf, d_fin, g_not, g_and, argsTM, stepE, stBuiltin, stBox, stAlloc, stLoad, stStore, stField, stExtract, stBin, stUn, stConv, stNilCheck, stFieldV, stIndex, stIndexAddr, stLen, stMin, stMax, stBuild, fillI, stBuildSlice, setRows, stMakeSlice, stAppend, srcR, segR, rdCells, stSlice, bnd, stArr, stCopy, stConv2, isIntV, cutR, byteRows, rowByte, binStr, Option.map_some, Option.map_none, eq_self, canTL, canT, canH, canL, patL, gcH, gcT, gcI, get_gcT, mapC, pullS, pullI, pushS, push1, pushI, pushC, pullHW, roC, ix, List.map_map, Function.comp_def, List.zip_cons_cons, List.zip_nil_left, List.zip_nil_right, List.range'_zero, List.range'_succ, rd, get, put, IV.cells, ofValue, seg, spl, ldIV, binInt, eqI, cellsEq, leafEq, resI, flat, isT, upd, up1, nextM, cR, ptrC, nAl, isAl, List.length_cons, List.length_nil, List.length_append, List.length_replicate, List.length_set, Nat.reduceAdd, Nat.reduceMul, Nat.reduceEqDiff, Nat.reduceLeDiff, Nat.zero_add, Nat.add_zero, ne_eq, reduceCtorEq, not_false_eq_true, not_true_eq_false, reduceIte, true_and, and_true, and_false, false_and, and_self, List.nil_append, List.cons_append, List.append_nil, List.getElem?_cons_zero, List.getElem?_cons_succ, List.drop_succ_cons, List.drop_zero, List.take_succ_cons, List.take_zero, List.set_cons_zero, List.set_cons_succ, List.getElem?_toArray, Option.bind_some, Bool.false_eq_true, Nat.add_one_ne_zero, Nat.succ_ne_self, List.map_cons, List.map_nil, Bool.not_true, Bool.not_false, List.replicate_succ, List.replicate_zero, List.mem_cons, List.not_mem_nil, or_false, false_or, or_true, true_or, forall_const, false_implies, implies_true, true_implies, Int.reduceToNat, Int.reduceLE, Int.reduceLT, Int.cast_ofNat_Int, bne, Int.reduceEq, Int.reduceNe, Int.reduceNeg, Int.reduceAdd, Int.reduceSub, Int.reduceMul, beq_self_eq_true, Int.reduceBEq, Int.reduceBNe, Bool.true_and, Bool.false_and, Bool.and_true, Bool.and_false, Bool.true_or, Bool.false_or, Bool.or_true, Bool.or_false, Nat.reduceLT, Nat.reduceSub, Nat.zero_min, Nat.min_zero, Nat.min_self, List.flatMap_cons, List.flatMap_nil, Int.toNat_natCast, strEq_self, Bool.not_eq_true', decide_true, decide_false, WLS, ty_ag_102, ty_ag_27, ty_ag_3, ty_ag_54, ty_ag_97, ty_ag_99, ty_of_102_0, ty_of_102_1, ty_of_102_3, ty_of_99_0, ty_of_99_2, ty_ok_102, ty_sl_97, ty_sz_102, ty_sz_27, ty_sz_3, ty_sz_54, ty_sz_97, ty_sz_99, ty_ze_102, ty_ze_99]
      | (with_reducible refine drawK_id ?_); refine drawK_auto hmix (by kernel_rfl) ?_
      | (with_reducible refine draw_fin ?_ ?_); · kernel_rfl
      | (with_reducible refine draw_id ?_); kernel_rfl
      | ((with_reducible refine callK_id (f := 72) ?_); refine callK_fun c72 rfl rfl ?_)
      | ((with_reducible refine callK_id (f := 46) ?_); refine callK_funR [0] (r := .s (.raw (.int .i64 (atI EN.k R e.k)))) (by simp [pullH, roC, pullI, pullS, ix, pull_eR]; exact c46) rfl ?_)
      | ((with_reducible refine callK_id (f := 73) ?_); refine callK_funW [0] [] (c73) (by simp [pullHW, roC, pullS, ix, pull_one, Function.comp_def]) rfl rfl (by decide) (by simp) (by simp [pullI, pullS, ix, pull_one, eR_def, e0]) ?_; rintro r Hn ⟨rfl, rfl⟩ -; skip)
      | exact ⟨.t [.a [.raw (.int .i64 m), .raw (.int .i64 l), .slice 1 0 (putR R (e0 e)).length], (.a [.raw (.int .u16 0), .raw (.int .u8 0), .raw (.int .u8 0), .raw (.int .u8 0), .raw (.int .u8 0), .raw (.int .u8 0), .raw (.int .u8 0), .raw (.int .i64 0), .raw (.int .i64 0)]), .s (.raw (.bool false))], [.rows true 9 ((putR R (e0 e)).map eR)], WkR.to (WkR.gc [0, 5] rfl (by decide)) (by simp [gcI, pullI, pullS, ix, pull_one]; try rfl) (by simp [gcH, rows_pull, pull_one, Function.comp_def]; try (intros; rfl)), by simp, rfl, rfl⟩
      | (with_reducible refine And.intro ?_ ?_; · omega)
theorem cutE_sub (R : List EN) (a : Nat) : (cutE R a).Sublist R := by
  unfold cutE
  conv => rhs; rw [← List.take_append_drop a R]
  refine List.Sublist.append_left ?_ _
  rw [show a + 1 = a + 1 from rfl, ← List.drop_drop]
  exact List.drop_sublist ..
theorem gAt_some {R : List EN} {i : Nat} {x : EN} (h : R[i]? = some x) : gAt R i = x.g := by simp [gAt, h]
theorem f47_full (R : List EN) (hs : Sorted EN.k ltK R) (hv : ∀ x ∈ R, KOK x.k) (hb : R.length ≤ 100000) (m l : Int) (e : EN) (he : KOK e.k) (h0 : goodB e.k e.p = true) (h1 : (decide (0 ≤ atI EN.k R e.k) || decide ((R.length : Int) < m)) = false) (hl : 1 ≤ R.length) (o : EN) (ho : R[oldI R R.length]? = some o) : FunW Try.prog 47 [rR R] [] [.a [.raw (.int .i64 m), .raw (.int .i64 l), .slice 0 0 R.length], .a (eR e)] fun r Hn => r = .t [.a [.raw (.int .i64 m), .raw (.int .i64 l), .slice 1 0 (putR (cutE R (oldI R R.length)) (e0 e)).length], .a (eR o), .s (.raw (.bool true))] ∧ Hn = [.rows true 9 ((putR (cutE R (oldI R R.length)) (e0 e)).map eR)] := by
  refine funW_of fun X => ?_
  have c72 := f72 (e0 e) he
  have c46 := f46 R hb e.k m l
  have kd : (⟨e.k.v, ⟨e.k.m.m0, e.k.m.m1, e.k.m.m2, e.k.m.m3, e.k.m.m4, e.k.m.m5⟩⟩ : KEY) = e.k := rfl
  have hg : goodB (e0 e).k (e0 e).p = goodB e.k e.p := rfl
  rw [hg, h0] at c72
  simp only [Bool.or_eq_false_iff] at h1
  obtain ⟨h2, h3⟩ := h1
  have hol := oldI_lt R hl R.length (Nat.le_refl _)
  have c74 := f74 R hb (oldI R R.length) hol
  obtain ⟨C, hC⟩ : ∃ C, cutE R (oldI R R.length) = C := ⟨_, rfl⟩
  have hsub := cutE_sub R (oldI R R.length)
  rw [hC] at c74 hsub ⊢
  have hCl : C.length ≤ 100000 := Nat.le_trans hsub.length_le hb
  have c73 := f73 C (List.Pairwise.sublist hsub hs) (fun x hx => hv x (hsub.subset hx)) hCl m l (e0 e) he
  unfold rR at c46 c73 c74 ⊢
  refine callK_inline (rs := [.cell 4 99, .cell 5 102, .tmp 6]) (n := 70) Try.func47 rfl rfl rfl (by kernel_rfl) (by kernel_rfl) (by simp only [List.length_cons, List.length_nil]; decide) ?_
  repeat' first
    | with_reducible rfl
    | simp only [eR_def, encM, kd, e0, List.length_map, h2, h3, e_nil, e_cons, e_gd, e_gdt, e_gdf, e_g0, e_g1, e_op, e_step, e_stepG, e_stepN, e_clo, e_cloF, e_ret, e_put, e_junk, e_skip, e_reg, e_draw, e_seq, e_cond, e_block, e_exit, e_r, e_label, e_loop, q_sn, q_sr, q_se, q_bn, q_br, q_be, q_rr, q_rn, e_res0, e_res1, e_res2, e_b, d_nil, d_cons, d_op, d_step, d_stepG, d_stepN, d_clo, d_cloF, d_ret, d_put, d_junk, d_inf, d_fin, g_not, g_and, argsTM, stepE, stBuiltin, stBox, stAlloc, stLoad, stStore, stField, stExtract, stBin, stUn, stConv, stNilCheck, stFieldV, stIndex, stIndexAddr, stLen, stMin, stMax, stBuild, fillI, stBuildSlice, setRows, stMakeSlice, stAppend, srcR, segR, rdCells, stSlice, bnd, stArr, stCopy, stConv2, isIntV, cutR, byteRows, rowByte, binStr, Option.map_some, Option.map_none, eq_self, canTL, canT, canH, canL, patL, gcH, gcT, gcI, get_gcT, mapC, pullS, pullI, pushS, push1, pushI, pushC, pullHW, roC, ix, List.map_map, Function.comp_def, List.zip_cons_cons, List.zip_nil_left, List.zip_nil_right, List.range'_zero, List.range'_succ, rd, get, put, IV.cells, ofValue, seg, spl, ldIV, binInt, eqI, cellsEq, leafEq, resI, flat, isT, upd, up1, nextM, cR, ptrC, nAl, isAl, List.length_cons, List.length_nil, List.length_append, List.length_replicate, List.length_set, Nat.reduceAdd, Nat.reduceMul, Nat.reduceEqDiff, Nat.reduceLeDiff, Nat.zero_add, Nat.add_zero, ne_eq, reduceCtorEq, not_false_eq_true, not_true_eq_false, reduceIte, true_and, and_true, and_false, false_and, and_self, List.nil_append, List.cons_append, List.append_nil, List.getElem?_cons_zero, List.getElem?_cons_succ, List.drop_succ_cons, List.drop_zero, List.take_succ_cons, List.take_zero, List.set_cons_zero, List.set_cons_succ, List.getElem?_toArray, Option.bind_some, Bool.false_eq_true, Nat.add_one_ne_zero, Nat.succ_ne_self, List.map_cons, List.map_nil, Bool.not_true, Bool.not_false, List.replicate_succ, List.replicate_zero, List.mem_cons, List.not_mem_nil, or_false, false_or, or_true, true_or, forall_const, false_implies, implies_true, true_implies, Int.reduceToNat, Int.reduceLE, Int.reduceLT, Int.cast_ofNat_Int, bne, Int.reduceEq, Int.reduceNe, Int.reduceNeg, Int.reduceAdd, Int.reduceSub, Int.reduceMul, beq_self_eq_true, Int.reduceBEq, Int.reduceBNe, Bool.true_and, Bool.false_and, Bool.and_true, Bool.and_false, Bool.true_or, Bool.false_or, Bool.or_true, Bool.or_false, Nat.reduceLT, Nat.reduceSub, Nat.zero_min, Nat.min_zero, Nat.min_self, List.flatMap_cons, List.flatMap_nil, Int.toNat_natCast, strEq_self, Bool.not_eq_true', decide_true, decide_false, WLS, ty_ag_102, ty_ag_27, ty_ag_3, ty_ag_54, ty_ag_97, ty_ag_99, ty_of_102_0, ty_of_102_1, ty_of_102_3, ty_of_99_0, ty_of_99_2, ty_ok_102, ty_sl_97, ty_sz_102, ty_sz_27, ty_sz_3, ty_sz_54, ty_sz_97, ty_sz_99, ty_ze_102, ty_ze_99]
    | (with_reducible refine drawK_id ?_); refine drawK_auto hmix (by kernel_rfl) ?_
    | (with_reducible refine draw_fin ?_ ?_); · kernel_rfl
    | (with_reducible refine draw_id ?_); kernel_rfl
    | ((with_reducible refine callK_id (f := 72) ?_); refine callK_fun c72 rfl rfl ?_)
    | ((with_reducible refine callK_id (f := 46) ?_); refine callK_funR [0] (r := .s (.raw (.int .i64 (atI EN.k R e.k)))) (by simp [pullH, roC, pullI, pullS, ix, pull_eR]; exact c46) rfl ?_)
    | (with_reducible refine And.intro ?_ ?_; · omega)
  refine loopK_wk (by kernel_rfl) (I47 R m l e) R.length ⟨_, _, Wk.refl, 0, by omega, by omega, ?_, ?_, ?_, ?_, ?_, ?_, ?_, ?_⟩ ?_ <;> first | with_reducible rfl | (simp [get]; done) | rfl | skip
  rintro mm tm H ⟨i, rfl, hi, g2, g3, g4, g5, g6, g7, g8, rfl⟩
  unfold rR fbx zfb zR
  have hw : IntKind.i64.wrap ((i : Int) + 1) = ((i + 1 : Nat) : Int) := by rw [wr_i64 (by omega) (by omega)]; rfl
  by_cases hq : i < R.length
  · have q1 : decide ((i : Int) < (R.length : Int)) = true := decide_eq_true (by omega)
    have b0 : (0 : Int) ≤ (i : Int) := by omega
    have b2 : (i : Int) < (R.length : Int) := by omega
    have hoi := oldI_lt R hl i hi
    have b3 : (0 : Int) ≤ (oldI R i : Int) := by omega
    have b4 : (oldI R i : Int) < (R.length : Int) := by omega
    obtain ⟨x, hx⟩ : ∃ x, R[i]? = some x := ⟨_, List.getElem?_eq_getElem hq⟩
    obtain ⟨y, hy⟩ : ∃ y, R[oldI R i]? = some y := ⟨_, List.getElem?_eq_getElem hoi⟩
    have hxl : (R.map eR)[i]? = some (eR x) := by rw [List.getElem?_map, hx]; rfl
    have hyl : (R.map eR)[oldI R i]? = some (eR y) := by rw [List.getElem?_map, hy]; rfl
    cases hk : decide (y.g < x.g) with
    | true =>
      have hnx : oldI R (i + 1) = i := by rw [oldI, gAt_some hx, gAt_some hy, if_pos (of_decide_eq_true hk)]
      repeat' first
        | with_reducible rfl
        | simp only [q1, b0, b2, b3, b4, hxl, hyl, hw, hk, eR_len, eR_def, g2, g3, g4, g5, g6, g7, g8, Int.toNat_natCast, List.length_map, e_nil, e_cons, e_gd, e_gdt, e_gdf, e_g0, e_g1, e_op, e_step, e_stepG, e_stepN, e_clo, e_cloF, e_ret, e_put, e_junk, e_skip, e_reg, e_draw, e_seq, e_cond, e_block, e_exit, e_r, e_label, e_loop, q_sn, q_sr, q_se, q_bn, q_br, q_be, q_rr, q_rn, e_res0, e_res1, e_res2, e_b, d_nil, d_cons, d_op, d_step, d_stepG, d_stepN, d_clo, d_cloF, d_ret, d_put, d_junk, d_inf, d_fin, g_not, g_and, argsTM, stepE, stBuiltin, stBox, stAlloc, stLoad, stStore, stField, stExtract, stBin, stUn, stConv, stNilCheck, stFieldV, stIndex, stIndexAddr, stLen, stMin, stMax, stBuild, fillI, stBuildSlice, setRows, stMakeSlice, stAppend, srcR, segR, rdCells, stSlice, bnd, stArr, stCopy, stConv2, isIntV, cutR, byteRows, rowByte, binStr, Option.map_some, Option.map_none, eq_self, canTL, canT, canH, canL, patL, gcH, gcT, gcI, get_gcT, mapC, pullS, pullI, pushS, push1, pushI, pushC, pullHW, roC, ix, List.map_map, Function.comp_def, List.zip_cons_cons, List.zip_nil_left, List.zip_nil_right, List.range'_zero, List.range'_succ, rd, get, put, IV.cells, ofValue, seg, spl, ldIV, binInt, eqI, cellsEq, leafEq, resI, flat, isT, upd, up1, nextM, cR, ptrC, nAl, isAl, List.length_cons, List.length_nil, List.length_append, List.length_replicate, List.length_set, Nat.reduceAdd, Nat.reduceMul, Nat.reduceEqDiff, Nat.reduceLeDiff, Nat.zero_add, Nat.add_zero, ne_eq, reduceCtorEq, not_false_eq_true, not_true_eq_false, reduceIte, true_and, and_true, and_false, false_and, and_self, List.nil_append, List.cons_append, List.append_nil, List.getElem?_cons_zero, List.getElem?_cons_succ, List.drop_succ_cons, List.drop_zero, List.take_succ_cons, List.take_zero, List.set_cons_zero, List.set_cons_succ, List.getElem?_toArray, Option.bind_some, Bool.false_eq_true, Nat.add_one_ne_zero, Nat.succ_ne_self, List.map_cons, List.map_nil, Bool.not_true, Bool.not_false, List.replicate_succ, List.replicate_zero, List.mem_cons, List.not_mem_nil, or_false, false_or, or_true, true_or, forall_const, false_implies, implies_true, true_implies, Int.reduceToNat, Int.reduceLE, Int.reduceLT, Int.cast_ofNat_Int, bne, Int.reduceEq, Int.reduceNe, Int.reduceNeg, Int.reduceAdd, Int.reduceSub, Int.reduceMul, beq_self_eq_true, Int.reduceBEq, Int.reduceBNe, Bool.true_and, Bool.false_and, Bool.and_true, Bool.and_false, Bool.true_or, Bool.false_or, Bool.or_true, Bool.or_false, Nat.reduceLT, Nat.reduceSub, Nat.zero_min, Nat.min_zero, Nat.min_self, List.flatMap_cons, List.flatMap_nil, Int.toNat_natCast, strEq_self, Bool.not_eq_true', decide_true, decide_false, WLS, ty_ag_102, ty_ag_27, ty_ag_3, ty_ag_54, ty_ag_97, ty_ag_99, ty_of_102_0, ty_of_102_1, ty_of_102_3, ty_of_99_0, ty_of_99_2, ty_ok_102, ty_sl_97, ty_sz_102, ty_sz_27, ty_sz_3, ty_sz_54, ty_sz_97, ty_sz_99, ty_ze_102, ty_ze_99]
        | (with_reducible refine drawK_id ?_); refine drawK_auto hmix (by kernel_rfl) ?_
        | (with_reducible refine draw_fin ?_ ?_); · kernel_rfl
        | (with_reducible refine draw_id ?_); kernel_rfl
        | (with_reducible refine And.intro ?_ ?_; · omega)
      refine ⟨R.length - (i + 1), _, _, by omega, Wk.gc [0, 1, 2, 3, 4] rfl (by decide), i + 1, rfl, by omega, ?_, ?_, ?_, ?_, ?_, ?_, ?_, ?_⟩ <;> first | with_reducible rfl | (simp [Function.comp_def, get_gcT, get, put, gcI, pullI, pullS, gcH, patL, canL, canH, canTL, canT, rows_pull, ix, g2, g3, g4, g5, g6, g7, g8, hnx]; done) | (simp [Function.comp_def, get_gcT, get, put, gcI, pullI, pullS, gcH, patL, canL, canH, canTL, canT, rows_pull, ix, rR, fbx, zfb, zR, IV.cells, pull_one, hnx]; done) | (simp [Function.comp_def, get_gcT, get, put, gcI, pullI, pullS, gcH, patL, canL, canH, canTL, canT, rows_pull, ix, rR, fbx, zfb, zR, IV.cells, pull_one, hnx]; rfl)
    | false =>
      have hnx : oldI R (i + 1) = oldI R i := by rw [oldI, gAt_some hx, gAt_some hy, if_neg (of_decide_eq_false hk)]
      repeat' first
        | with_reducible rfl
        | simp only [q1, b0, b2, b3, b4, hxl, hyl, hw, hk, eR_len, eR_def, g2, g3, g4, g5, g6, g7, g8, Int.toNat_natCast, List.length_map, e_nil, e_cons, e_gd, e_gdt, e_gdf, e_g0, e_g1, e_op, e_step, e_stepG, e_stepN, e_clo, e_cloF, e_ret, e_put, e_junk, e_skip, e_reg, e_draw, e_seq, e_cond, e_block, e_exit, e_r, e_label, e_loop, q_sn, q_sr, q_se, q_bn, q_br, q_be, q_rr, q_rn, e_res0, e_res1, e_res2, e_b, d_nil, d_cons, d_op, d_step, d_stepG, d_stepN, d_clo, d_cloF, d_ret, d_put, d_junk, d_inf, d_fin, g_not, g_and, argsTM, stepE, stBuiltin, stBox, stAlloc, stLoad, stStore, stField, stExtract, stBin, stUn, stConv, stNilCheck, stFieldV, stIndex, stIndexAddr, stLen, stMin, stMax, stBuild, fillI, stBuildSlice, setRows, stMakeSlice, stAppend, srcR, segR, rdCells, stSlice, bnd, stArr, stCopy, stConv2, isIntV, cutR, byteRows, rowByte, binStr, Option.map_some, Option.map_none, eq_self, canTL, canT, canH, canL, patL, gcH, gcT, gcI, get_gcT, mapC, pullS, pullI, pushS, push1, pushI, pushC, pullHW, roC, ix, List.map_map, Function.comp_def, List.zip_cons_cons, List.zip_nil_left, List.zip_nil_right, List.range'_zero, List.range'_succ, rd, get, put, IV.cells, ofValue, seg, spl, ldIV, binInt, eqI, cellsEq, leafEq, resI, flat, isT, upd, up1, nextM, cR, ptrC, nAl, isAl, List.length_cons, List.length_nil, List.length_append, List.length_replicate, List.length_set, Nat.reduceAdd, Nat.reduceMul, Nat.reduceEqDiff, Nat.reduceLeDiff, Nat.zero_add, Nat.add_zero, ne_eq, reduceCtorEq, not_false_eq_true, not_true_eq_false, reduceIte, true_and, and_true, and_false, false_and, and_self, List.nil_append, List.cons_append, List.append_nil, List.getElem?_cons_zero, List.getElem?_cons_succ, List.drop_succ_cons, List.drop_zero, List.take_succ_cons, List.take_zero, List.set_cons_zero, List.set_cons_succ, List.getElem?_toArray, Option.bind_some, Bool.false_eq_true, Nat.add_one_ne_zero, Nat.succ_ne_self, List.map_cons, List.map_nil, Bool.not_true, Bool.not_false, List.replicate_succ, List.replicate_zero, List.mem_cons, List.not_mem_nil, or_false, false_or, or_true, true_or, forall_const, false_implies, implies_true, true_implies, Int.reduceToNat, Int.reduceLE, Int.reduceLT, Int.cast_ofNat_Int, bne, Int.reduceEq, Int.reduceNe, Int.reduceNeg, Int.reduceAdd, Int.reduceSub, Int.reduceMul, beq_self_eq_true, Int.reduceBEq, Int.reduceBNe, Bool.true_and, Bool.false_and, Bool.and_true, Bool.and_false, Bool.true_or, Bool.false_or, Bool.or_true, Bool.or_false, Nat.reduceLT, Nat.reduceSub, Nat.zero_min, Nat.min_zero, Nat.min_self, List.flatMap_cons, List.flatMap_nil, Int.toNat_natCast, strEq_self, Bool.not_eq_true', decide_true, decide_false, WLS, ty_ag_102, ty_ag_27, ty_ag_3, ty_ag_54, ty_ag_97, ty_ag_99, ty_of_102_0, ty_of_102_1, ty_of_102_3, ty_of_99_0, ty_of_99_2, ty_ok_102, ty_sl_97, ty_sz_102, ty_sz_27, ty_sz_3, ty_sz_54, ty_sz_97, ty_sz_99, ty_ze_102, ty_ze_99]
        | (with_reducible refine drawK_id ?_); refine drawK_auto hmix (by kernel_rfl) ?_
        | (with_reducible refine draw_fin ?_ ?_); · kernel_rfl
        | (with_reducible refine draw_id ?_); kernel_rfl
        | (with_reducible refine And.intro ?_ ?_; · omega)
      refine ⟨R.length - (i + 1), _, _, by omega, Wk.gc [0, 1, 2, 3, 4] rfl (by decide), i + 1, rfl, by omega, ?_, ?_, ?_, ?_, ?_, ?_, ?_, ?_⟩ <;> first | with_reducible rfl | (simp [Function.comp_def, get_gcT, get, put, gcI, pullI, pullS, gcH, patL, canL, canH, canTL, canT, rows_pull, ix, g2, g3, g4, g5, g6, g7, g8, hnx]; done) | (simp [Function.comp_def, get_gcT, get, put, gcI, pullI, pullS, gcH, patL, canL, canH, canTL, canT, rows_pull, ix, rR, fbx, zfb, zR, IV.cells, pull_one, hnx]; done) | (simp [Function.comp_def, get_gcT, get, put, gcI, pullI, pullS, gcH, patL, canL, canH, canTL, canT, rows_pull, ix, rR, fbx, zfb, zR, IV.cells, pull_one, hnx]; rfl)
  · have q1 : decide ((i : Int) < (R.length : Int)) = false := decide_eq_false (by omega)
    obtain rfl : i = R.length := by omega
    have b3 : (0 : Int) ≤ (oldI R R.length : Int) := by omega
    have b4 : (oldI R R.length : Int) < (R.length : Int) := by omega
    have hol : (R.map eR)[oldI R R.length]? = some (eR o) := by rw [List.getElem?_map, ho]; rfl
    repeat' first
      | with_reducible rfl
      | simp only [q1, b3, b4, hol, eR_len, g2, g3, g4, g5, g6, g7, g8, Int.toNat_natCast, List.length_map, e0_k, pull_one, push_one, e_nil, e_cons, e_gd, e_gdt, e_gdf, e_g0, e_g1, e_op, e_step, e_stepG, e_stepN, e_clo, e_cloF, e_ret, e_put, e_junk, e_skip, e_reg, e_draw, e_seq, e_cond, e_block, e_exit, e_r, e_label, e_loop, q_sn, q_sr, q_se, q_bn, q_br, q_be, q_rr, q_rn, e_res0, e_res1, e_res2, e_b, d_nil, d_cons, d_op, d_step, d_stepG, d_stepN, d_clo, d_cloF, d_ret, d_put, d_junk, d_inf, d_fin, g_not, g_and, argsTM, stepE, stBuiltin, stBox, stAlloc, stLoad, stStore, stField, stExtract, stBin, stUn, stConv, stNilCheck, stFieldV, stIndex, stIndexAddr, stLen, stMin, stMax, stBuild, fillI, stBuildSlice, setRows, stMakeSlice, stAppend, srcR, segR, rdCells, stSlice, bnd, stArr, stCopy, stConv2, isIntV, cutR, byteRows, rowByte, binStr, Option.map_some, Option.map_none, eq_self, canTL, canT, canH, canL, patL, gcH, gcT, gcI, get_gcT, mapC, pullS, pullI, pushS, push1, pushI, pushC, pullHW, roC, ix, List.map_map, Function.comp_def, List.zip_cons_cons, List.zip_nil_left, List.zip_nil_right, List.range'_zero, List.range'_succ, rd, get, put, IV.cells, ofValue, seg, spl, ldIV, binInt, eqI, cellsEq, leafEq, resI, flat, isT, upd, up1, nextM, cR, ptrC, nAl, isAl, List.length_cons, List.length_nil, List.length_append, List.length_replicate, List.length_set, Nat.reduceAdd, Nat.reduceMul, Nat.reduceEqDiff, Nat.reduceLeDiff, Nat.zero_add, Nat.add_zero, ne_eq, reduceCtorEq, not_false_eq_true, not_true_eq_false, reduceIte, true_and, and_true, and_false, false_and, and_self, List.nil_append, List.cons_append, List.append_nil, List.getElem?_cons_zero, List.getElem?_cons_succ, List.drop_succ_cons, List.drop_zero, List.take_succ_cons, List.take_zero, List.set_cons_zero, List.set_cons_succ, List.getElem?_toArray, Option.bind_some, Bool.false_eq_true, Nat.add_one_ne_zero, Nat.succ_ne_self, List.map_cons, List.map_nil, Bool.not_true, Bool.not_false, List.replicate_succ, List.replicate_zero, List.mem_cons, List.not_mem_nil, or_false, false_or, or_true, true_or, forall_const, false_implies, implies_true, true_implies, Int.reduceToNat, Int.reduceLE, Int.reduceLT, Int.cast_ofNat_Int, bne, Int.reduceEq, Int.reduceNe, Int.reduceNeg, Int.reduceAdd, Int.reduceSub, Int.reduceMul, beq_self_eq_true, Int.reduceBEq, Int.reduceBNe, Bool.true_and, Bool.false_and, Bool.and_true, Bool.and_false, Bool.true_or, Bool.false_or, Bool.or_true, Bool.or_false, Nat.reduceLT, Nat.reduceSub, Nat.zero_min, Nat.min_zero, Nat.min_self, List.flatMap_cons, List.flatMap_nil, Int.toNat_natCast, strEq_self, Bool.not_eq_true', decide_true, decide_false, WLS, ty_ag_102, ty_ag_27, ty_ag_3, ty_ag_54, ty_ag_97, ty_ag_99, ty_of_102_0, ty_of_102_1, ty_of_102_3, ty_of_99_0, ty_of_99_2, ty_ok_102, ty_sl_97, ty_sz_102, ty_sz_27, ty_sz_3, ty_sz_54, ty_sz_97, ty_sz_99, ty_ze_102, ty_ze_99]
      | (with_reducible refine drawK_id (id := 14) ?_); refine drawK_of 1 hmix (by kernel_rfl) ?_
      | (with_reducible refine drawK_id ?_); refine drawK_auto hmix (by kernel_rfl) ?_
      | (with_reducible refine draw_fin ?_ ?_); · kernel_rfl
      | (with_reducible refine draw_id ?_); kernel_rfl
      | ((with_reducible refine callK_id (f := 74) ?_); refine callK_funW [0] [] (c74) (by simp [pullHW, roC, pullS, ix, pull_one, Function.comp_def]) rfl rfl (by decide) (by simp) (by simp [pullI, pullS, ix]) ?_; rintro r Hn ⟨rfl, rfl⟩ -; skip)
      | ((with_reducible refine callD_id (f := 73) ?_); refine callD_new (Hw' := []) (Nw := [.rows true 9 ((putR C (e0 e)).map eR)]) [6] [] (FunW_eq c73) (by simp [pullHW, roC, pullS, ix, pull_one, Function.comp_def]) rfl rfl (by decide) (by simp) (by simp [pullI, pullS, ix, pull_one, eR_def, e0]) (by simp) ?_)
      | exact ⟨.t [.a [.raw (.int .i64 m), .raw (.int .i64 l), .slice 1 0 (putR C (e0 e)).length], .a (eR o), .s (.raw (.bool true))], [.rows true 9 ((putR C (e0 e)).map eR)], WkR.to (WkR.gc [0, 7] rfl (by decide)) (by simp [gcI, pullI, pullS, ix, pull_one]; try rfl) (by simp [gcH, rows_pull, pull_one, Function.comp_def]; try (intros; rfl)), by simp, rfl, rfl⟩
      | (with_reducible refine And.intro ?_ ?_; · omega)
end Go.Ev
