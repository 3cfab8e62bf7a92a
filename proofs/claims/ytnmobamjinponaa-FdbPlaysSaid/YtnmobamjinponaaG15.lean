/- A part of the proof: contracts of the functions that the statement reaches. -/
import Derived.Test.YtnmobamjinponaaG14
namespace Go.Ev
open Go.Proofs
set_option maxRecDepth 100000
set_option linter.unusedSimpArgs false
set_option linter.unusedVariables false
set_option maxHeartbeats 4000000
structure ACT where
  w : Int
  v : Int
  m : M6
  p : Int
  a : Int
  deriving Inhabited
def encA (x : ACT) : List SV := [.raw (.int .u8 x.w), .raw (.int .u16 x.v), .raw (.int .u8 x.m.m0), .raw (.int .u8 x.m.m1), .raw (.int .u8 x.m.m2), .raw (.int .u8 x.m.m3), .raw (.int .u8 x.m.m4), .raw (.int .u8 x.m.m5), .raw (.int .i64 x.p), .raw (.int .i64 x.a)]
def aK (x : ACT) : KEY := ⟨x.v, x.m⟩
theorem kC_exp (v a0 a1 a2 a3 a4 a5 : Int) : [SV.raw (.int .u16 v), .raw (.int .u8 a0), .raw (.int .u8 a1), .raw (.int .u8 a2), .raw (.int .u8 a3), .raw (.int .u8 a4), .raw (.int .u8 a5)] = kC ⟨v, ⟨a0, a1, a2, a3, a4, a5⟩⟩ := rfl
theorem kC_d1 (k : KEY) : (List.drop 1 (kC k)).length = 6 := rfl
theorem kC_d6 (k : KEY) : List.drop 6 (List.drop 1 (kC k)) = [] := rfl
theorem kC_mac (k : KEY) : List.take 6 (List.drop 1 (kC k)) = [.raw (.int .u8 k.m.m0), .raw (.int .u8 k.m.m1), .raw (.int .u8 k.m.m2), .raw (.int .u8 k.m.m3), .raw (.int .u8 k.m.m4), .raw (.int .u8 k.m.m5)] := rfl
theorem aK_eta (x : ACT) : (⟨x.v, ⟨x.m.m0, x.m.m1, x.m.m2, x.m.m3, x.m.m4, x.m.m5⟩⟩ : KEY) = aK x := rfl
theorem aK_m (x : ACT) : (aK x).m = x.m := rfl
def portI (p : Int) : Int := 1 + Int.tmod (Int.tmod p 16 + 16) 16
theorem portI_rng (p : Int) : 1 ≤ portI p ∧ portI p ≤ 16 := by
  unfold portI
  have a := Int.tmod_lt_of_pos p (show (0 : Int) < 16 by decide)
  have b := Int.lt_tmod_of_pos p (show (0 : Int) < 16 by decide)
  rw [Int.tmod_eq_emod_of_nonneg (by omega)]
  omega
theorem pull_act (σ : List Nat) (x : ACT) : (encA x).map (pullS σ) = encA x := rfl
theorem f_tt : (true == true) = true := rfl
theorem f_tf : (true == false) = false := rfl
theorem f_ft : (false == true) = false := rfl
theorem f_ff : (false == false) = true := rfl
def fdb2 (m l : Int) : Chunk := .rows true 3 [[.raw (.int .i64 m), .raw (.int .i64 l), .ref 2]]
def I8 (xs : List ACT) (n T : Int) (mm : Nat) (tm : TM) (H : Heap) : Prop := ∃ (i clock : Nat) (L : List EN), mm = xs.length - i ∧ i ≤ xs.length ∧ OKF n T clock L ∧ get tm 2 = .s (.slice 0 0 xs.length) ∧ get tm 7 = .s (.raw (.int .i64 n)) ∧ get tm 8 = .s (.raw (.int .i64 T)) ∧ get tm 9 = .s (.ptr 1 0 0) ∧ get tm 10 = .s (.raw (.int .i64 (i : Int))) ∧
  H = [.rows false 10 (xs.map encA), fdb2 n T, mpC clock L]
def k7 : KEY := ⟨7, fromC 12⟩
def I8b (xs : List ACT) (n T : Int) (mm : Nat) (tm : TM) (H : Heap) : Prop := ∃ (j clock : Nat) (L : List EN) (e : EN), mm = T.toNat - j ∧ 1 ≤ j ∧ (j : Int) ≤ T ∧ OKF n T clock L ∧ look L k7 = some e ∧ e.p = 3 ∧ e.g = (j : Int) - 1 ∧ (∀ x ∈ L, (j : Int) - 1 ≤ x.g) ∧ get tm 8 = .s (.raw (.int .i64 T)) ∧ get tm 9 = .s (.ptr 1 0 0) ∧ get tm 16 = .s (.ptr 3 0 0) ∧ get tm 17 = .s (.raw (.int .i64 (j : Int))) ∧
  H = [.rows false 10 (xs.map encA), fdb2 n T, mpC clock L, .rows true 7 [kC k7]]
theorem law8 (a b : Int) (a0 : 0 ≤ a) (a1 : a ≤ 255) (b0 : 0 ≤ b) (b1 : b ≤ 255) (xs : List ACT) (has : ∀ x ∈ xs, KOK (aK x)) : FunR Try.prog 8 [.rows false 10 (xs.map encA)] [.s (.raw (.int .u8 a)), .s (.raw (.int .u8 b)), .s (.slice 0 0 xs.length)] (.s (.raw (.bool true))) := by
  refine funR_of rfl fun X => ?_
  obtain ⟨n, hn, n1, n2⟩ : ∃ n, IntKind.i64.wrap (1 + Int.tmod (IntKind.i64.wrap a) 64) = n ∧ 1 ≤ n ∧ n ≤ 64 := by
    have w : IntKind.i64.wrap a = a := wr_i64 (by omega) (by omega)
    rw [w, Int.tmod_eq_emod_of_nonneg a0, wr_i64 (by omega) (by omega)]
    exact ⟨_, rfl, by omega, by omega⟩
  obtain ⟨T, hT, t1, t2⟩ : ∃ T, IntKind.i64.wrap (1 + Int.tmod (IntKind.i64.wrap b) 20) = T ∧ 1 ≤ T ∧ T ≤ 20 := by
    have w : IntKind.i64.wrap b = b := wr_i64 (by omega) (by omega)
    rw [w, Int.tmod_eq_emod_of_nonneg b0, wr_i64 (by omega) (by omega)]
    exact ⟨_, rfl, by omega, by omega⟩
  have c33 := f33 n T
  have hmn : mostI n = n := by unfold mostI; rw [if_neg (show ¬ n < 1 by omega), if_neg (by omega)]
  have hlT : liveI T = T := by unfold liveI; rw [if_neg (show ¬ T < 1 by omega), if_neg (by omega)]
  rw [hmn, hlT] at c33
  unfold fdbC mpC at c33
  simp only [List.map_nil] at c33
  refine callK_inline (rs := [.tmp 6]) (n := 133) Try.func8 rfl rfl rfl (by kernel_rfl) (by kernel_rfl) (by simp only [List.length_cons, List.length_nil]; decide) ?_
  repeat' first
    | with_reducible rfl
    | simp only [hn, hT, List.length_map, e_nil, e_cons, e_gd, e_gdt, e_gdf, e_g0, e_g1, e_op, e_step, e_stepG, e_stepN, e_clo, e_cloF, e_ret, e_put, e_junk, e_skip, e_reg, e_draw, e_seq, e_cond, e_block, e_exit, e_r, e_label, e_loop, q_sn, q_sr, q_se, q_bn, q_br, q_be, q_rr, q_rn, e_res0, e_res1, e_res2, e_b, d_nil, d_cons, d_op, d_step, d_stepG, d_stepN, d_clo, d_cloF, d_ret, d_put, d_junk, d_inf, d_fin, g_not, g_and, argsTM, stepE, stBuiltin, stBox, stAlloc, stLoad, stStore, stField, stExtract, stBin, stUn, stConv, stNilCheck, stFieldV, stIndex, stIndexAddr, stLen, stMin, stMax, stBuild, fillI, stBuildSlice, setRows, stMakeSlice, stAppend, srcR, segR, rdCells, stSlice, bnd, stArr, stCopy, stConv2, isIntV, cutR, byteRows, rowByte, binStr, Option.map_some, Option.map_none, eq_self, canTL, canT, canH, canL, patL, gcH, gcT, gcI, get_gcT, mapC, pullS, pullI, pushS, push1, pushI, pushC, pullHW, roC, ix, List.map_map, Function.comp_def, List.zip_cons_cons, List.zip_nil_left, List.zip_nil_right, List.range'_zero, List.range'_succ, rd, get, put, IV.cells, ofValue, seg, spl, ldIV, binInt, eqI, cellsEq, leafEq, resI, flat, isT, upd, up1, nextM, cR, ptrC, nAl, isAl, List.length_cons, List.length_nil, List.length_append, List.length_replicate, List.length_set, Nat.reduceAdd, Nat.reduceMul, Nat.reduceEqDiff, Nat.reduceLeDiff, Nat.zero_add, Nat.add_zero, ne_eq, reduceCtorEq, not_false_eq_true, not_true_eq_false, reduceIte, true_and, and_true, and_false, false_and, and_self, List.nil_append, List.cons_append, List.append_nil, List.getElem?_cons_zero, List.getElem?_cons_succ, List.drop_succ_cons, List.drop_zero, List.take_succ_cons, List.take_zero, List.set_cons_zero, List.set_cons_succ, List.getElem?_toArray, Option.bind_some, Bool.false_eq_true, Nat.add_one_ne_zero, Nat.succ_ne_self, List.map_cons, List.map_nil, Bool.not_true, Bool.not_false, List.replicate_succ, List.replicate_zero, List.mem_cons, List.not_mem_nil, or_false, false_or, or_true, true_or, forall_const, false_implies, implies_true, true_implies, Int.reduceToNat, Int.reduceLE, Int.reduceLT, Int.cast_ofNat_Int, bne, Int.reduceEq, Int.reduceNe, Int.reduceNeg, Int.reduceAdd, Int.reduceSub, Int.reduceMul, beq_self_eq_true, Int.reduceBEq, Int.reduceBNe, Bool.true_and, Bool.false_and, Bool.and_true, Bool.and_false, Bool.true_or, Bool.false_or, Bool.or_true, Bool.or_false, Nat.reduceLT, Nat.reduceSub, Nat.zero_min, Nat.min_zero, Nat.min_self, List.flatMap_cons, List.flatMap_nil, Int.toNat_natCast, strEq_self, Bool.not_eq_true', decide_true, decide_false, WLS, Try.underlying3, Try.underlying4, Try.underlying5, ty_ag_27, ty_ag_3, ty_ag_54, ty_ag_57, ty_ag_59, ty_ag_86, ty_of_59_1, ty_of_86_1, ty_of_86_2, ty_of_86_3, ty_ok_59, ty_pl_59_0, ty_pl_59_1, ty_sl_82, ty_sl_93, ty_sz_27, ty_sz_3, ty_sz_54, ty_sz_57, ty_sz_59, ty_sz_86, ty_ze_59, ty_ze_86]
    | with_reducible refine gdb_split (fun h => ?_) (fun h => ?_)
    | (with_reducible refine drawK_id ?_); refine drawK_auto hmix (by kernel_rfl) ?_
    | (with_reducible refine draw_fin ?_ ?_); · kernel_rfl
    | (with_reducible refine draw_id ?_); kernel_rfl
    | (with_reducible refine callK_id (f := 29) ?_); refine callK_fun (f29) rfl rfl ?_
    | ((with_reducible refine callK_id (f := 33) ?_); refine callK_funW [] [] (c33) (by simp [pullHW, Function.comp_def, rows_pull, pullS, ix, pullI, mapC, kC_pull, mE_k, mE_v, mE_fold]) rfl rfl (by decide) (by simp) (by simp [pullI, pullS, ix, kC_pull, kC]) ?_; rintro r Hn ⟨rfl, rfl⟩ -; skip)
    | (with_reducible refine And.intro ?_ ?_; · omega)
  refine loopK_wk (by kernel_rfl) (I8 xs n T) xs.length ⟨_, _, Wk.gc [0, 1, 2] rfl (by decide), 0, 0, [], by omega, by omega, ⟨List.nodup_nil, List.nodup_nil, by simp, by simp, by simp; omega, by simp, by simp⟩, by simp [Function.comp_def, get_gcT, get, put, gcI, pullI, pullS, gcH, patL, canL, canH, canTL, canT, segR, rows_pull, iter_pull, ix], by simp [Function.comp_def, get_gcT, get, put, gcI, pullI, pullS, gcH, patL, canL, canH, canTL, canT, segR, rows_pull, iter_pull, ix], by simp [Function.comp_def, get_gcT, get, put, gcI, pullI, pullS, gcH, patL, canL, canH, canTL, canT, segR, rows_pull, iter_pull, ix], by simp [Function.comp_def, get_gcT, get, put, gcI, pullI, pullS, gcH, patL, canL, canH, canTL, canT, segR, rows_pull, iter_pull, ix], by simp [Function.comp_def, get_gcT, get, put, gcI, pullI, pullS, gcH, patL, canL, canH, canTL, canT, segR, rows_pull, iter_pull, ix], ?_⟩ ?_
  · simp [Function.comp_def, get_gcT, get, put, gcI, pullI, pullS, gcH, patL, canL, canH, canTL, canT, segR, rows_pull, iter_pull, ix, fdb2, mpC, pull_act, mapC]
  rintro mm tm H ⟨i, clock, L, rfl, hi, hok, g2, g7, g8, g9, g10, rfl⟩
  have hL1 : L.length ≤ 100000 := by have := hok.len; omega
  by_cases hq : i < xs.length ∧ i < 60
  · have q1 : decide ((i : Int) < (xs.length : Int)) = true := decide_eq_true (by omega)
    have q2 : decide ((i : Int) < 60) = true := decide_eq_true (by omega)
    have z0 : (0 : Int) ≤ (i : Int) := by omega
    have z1 : (i : Int) < (xs.length : Int) := by omega
    have hi1 : IntKind.i64.wrap ((i : Int) + 1) = ((i + 1 : Nat) : Int) := by rw [wr_i64 (by omega) (by omega)]; rfl
    obtain ⟨x, hx⟩ : ∃ x, xs[i]? = some x := ⟨_, List.getElem?_eq_getElem hq.1⟩
    have hel : (xs.map encA)[i]? = some (encA x) := by rw [List.getElem?_map, hx]; rfl
    have hkx := has x (List.mem_of_getElem? hx)
    have hpr := portI_rng x.p
    have w1 : IntKind.i64.wrap (Int.tmod x.p 16 + 16) = Int.tmod x.p 16 + 16 := by
      have a := Int.tmod_lt_of_pos x.p (show (0 : Int) < 16 by decide)
      have b := Int.lt_tmod_of_pos x.p (show (0 : Int) < 16 by decide)
      exact wr_i64 (by omega) (by omega)
    have w2 : IntKind.i64.wrap (1 + Int.tmod (Int.tmod x.p 16 + 16) 16) = portI x.p := wr_i64 (by have := hpr.1; unfold portI at this; omega) (by have := hpr.2; unfold portI at this; omega)
    have c34 := f34 n T clock L hok.k hok.s hok.c n1 hL1 (sort_ok L hok.k hok.v hL1) (aK x) (portI x.p)
    have hlo := learn_ok hok n1 t1 hkx hpr.1 hpr.2
    obtain ⟨c', L', gg, bb, hlk⟩ : ∃ c' L' gg bb, learnK n clock L (aK x) (portI x.p) = ((c', L'), gg, bb) := ⟨_, _, _, _, rfl⟩
    rw [hlk] at c34 hlo
    dsimp only at hlo c34
    obtain ⟨hok', hlg, hlu⟩ := hlo
    have hL2 : L'.length ≤ 100000 := by have := hok'.len; omega
    have hlen : decide (n < (L'.length : Int)) = false := decide_eq_false (by have := hok'.len; omega)
    have c35 := f35 n T c' L' hok'.k (aK x)
    have c37 := f37 n T c' L' hok'.s hok'.c hL2 (sort_ok L' hok'.k hok'.v hL2)
    unfold fdbC mpC at c34 c35 c37
    unfold fdb2 mpC
    cases hgr : grpB (aK x) with
    | true =>
      have hgr2 : (bAnd .u8 x.m.m0 1 == 1) = true := hgr
      rw [hlg hgr] at c35
      simp only [Option.map_none, Option.getD_none, Option.isSome_none] at c35
      repeat' first
        | with_reducible rfl
        | simp only [q1, q2, z0, z1, hi1, hel, w1, w2, hlen, hgr2, g2, g7, g8, g9, g10, List.length_map, Int.toNat_natCast, encA, kC_exp, aK_eta, kC_mac, kC_d1, kC_d6, aK_m, srt_len, f_tt, f_tf, f_ft, f_ff, push_one, pull_one, kC_push, kC_pull, mE_k, mE_v, mE_fold, kC_len, eR_len, e_nil, e_cons, e_gd, e_gdt, e_gdf, e_g0, e_g1, e_op, e_step, e_stepG, e_stepN, e_clo, e_cloF, e_ret, e_put, e_junk, e_skip, e_reg, e_draw, e_seq, e_cond, e_block, e_exit, e_r, e_label, e_loop, q_sn, q_sr, q_se, q_bn, q_br, q_be, q_rr, q_rn, e_res0, e_res1, e_res2, e_b, d_nil, d_cons, d_op, d_step, d_stepG, d_stepN, d_clo, d_cloF, d_ret, d_put, d_junk, d_inf, d_fin, g_not, g_and, argsTM, stepE, stBuiltin, stBox, stAlloc, stLoad, stStore, stField, stExtract, stBin, stUn, stConv, stNilCheck, stFieldV, stIndex, stIndexAddr, stLen, stMin, stMax, stBuild, fillI, stBuildSlice, setRows, stMakeSlice, stAppend, srcR, segR, rdCells, stSlice, bnd, stArr, stCopy, stConv2, isIntV, cutR, byteRows, rowByte, binStr, Option.map_some, Option.map_none, eq_self, canTL, canT, canH, canL, patL, gcH, gcT, gcI, get_gcT, mapC, pullS, pullI, pushS, push1, pushI, pushC, pullHW, roC, ix, List.map_map, Function.comp_def, List.zip_cons_cons, List.zip_nil_left, List.zip_nil_right, List.range'_zero, List.range'_succ, rd, get, put, IV.cells, ofValue, seg, spl, ldIV, binInt, eqI, cellsEq, leafEq, resI, flat, isT, upd, up1, nextM, cR, ptrC, nAl, isAl, List.length_cons, List.length_nil, List.length_append, List.length_replicate, List.length_set, Nat.reduceAdd, Nat.reduceMul, Nat.reduceEqDiff, Nat.reduceLeDiff, Nat.zero_add, Nat.add_zero, ne_eq, reduceCtorEq, not_false_eq_true, not_true_eq_false, reduceIte, true_and, and_true, and_false, false_and, and_self, List.nil_append, List.cons_append, List.append_nil, List.getElem?_cons_zero, List.getElem?_cons_succ, List.drop_succ_cons, List.drop_zero, List.take_succ_cons, List.take_zero, List.set_cons_zero, List.set_cons_succ, List.getElem?_toArray, Option.bind_some, Bool.false_eq_true, Nat.add_one_ne_zero, Nat.succ_ne_self, List.map_cons, List.map_nil, Bool.not_true, Bool.not_false, List.replicate_succ, List.replicate_zero, List.mem_cons, List.not_mem_nil, or_false, false_or, or_true, true_or, forall_const, false_implies, implies_true, true_implies, Int.reduceToNat, Int.reduceLE, Int.reduceLT, Int.cast_ofNat_Int, bne, Int.reduceEq, Int.reduceNe, Int.reduceNeg, Int.reduceAdd, Int.reduceSub, Int.reduceMul, beq_self_eq_true, Int.reduceBEq, Int.reduceBNe, Bool.true_and, Bool.false_and, Bool.and_true, Bool.and_false, Bool.true_or, Bool.false_or, Bool.or_true, Bool.or_false, Nat.reduceLT, Nat.reduceSub, Nat.zero_min, Nat.min_zero, Nat.min_self, List.flatMap_cons, List.flatMap_nil, Int.toNat_natCast, strEq_self, Bool.not_eq_true', decide_true, decide_false, WLS, Try.underlying3, Try.underlying4, Try.underlying5, ty_ag_27, ty_ag_3, ty_ag_54, ty_ag_57, ty_ag_59, ty_ag_86, ty_of_59_1, ty_of_86_1, ty_of_86_2, ty_of_86_3, ty_ok_59, ty_pl_59_0, ty_pl_59_1, ty_sl_82, ty_sl_93, ty_sz_27, ty_sz_3, ty_sz_54, ty_sz_57, ty_sz_59, ty_sz_86, ty_ze_59, ty_ze_86]
        | (with_reducible refine drawK_id ?_); refine drawK_auto hmix (by kernel_rfl) ?_
        | (with_reducible refine draw_fin ?_ ?_); · kernel_rfl
        | (with_reducible refine draw_id ?_); kernel_rfl
        | (with_reducible refine callK_id (f := 36) ?_); refine callK_fun (f36 _ _ _ _ _ _) rfl rfl ?_
        | ((with_reducible refine callK_id (f := 34) ?_); refine callK_funW [] [1, 2] (c34) (by simp [pullHW, Function.comp_def, rows_pull, pullS, ix, pullI, mapC, kC_pull, mE_k, mE_v, mE_fold]) rfl rfl (by decide) (by simp) (by simp [pullI, pullS, ix, kC_pull, kC]) ?_; rintro r Hn ⟨rfl, rfl⟩ -; skip)
        | ((with_reducible refine callK_id (f := 35) ?_); refine callK_funW [] [1, 2] (c35) (by simp [pullHW, Function.comp_def, rows_pull, pullS, ix, pullI, mapC, kC_pull, mE_k, mE_v, mE_fold]) rfl rfl (by decide) (by simp) (by simp [pullI, pullS, ix, kC_pull, kC]) ?_; rintro r Hn ⟨rfl, rfl⟩ -; skip)
        | ((with_reducible refine callK_id (f := 37) ?_); refine callK_funW [] [1, 2] (c37) (by simp [pullHW, Function.comp_def, rows_pull, pullS, ix, pullI, mapC, kC_pull, mE_k, mE_v, mE_fold]) rfl rfl (by decide) (by simp) (by simp [pullI, pullS, ix, kC_pull, kC]) ?_; rintro r Hn ⟨rfl, rfl⟩ -; skip)
        | (with_reducible refine And.intro ?_ ?_; · omega)
      refine ⟨xs.length - (i + 1), _, _, by omega, Wk.gc [0, 1, 2] rfl (by decide), i + 1, c', L', rfl, by omega, hok', ?_, ?_, ?_, ?_, ?_, ?_⟩ <;> first | with_reducible rfl | (simp [Function.comp_def, get_gcT, get, put, gcI, pullI, pullS, gcH, patL, canL, canH, canTL, canT, segR, rows_pull, iter_pull, ix, g2, g7, g8, g9, g10]; done) | (simp [Function.comp_def, get_gcT, get, put, gcI, pullI, pullS, gcH, patL, canL, canH, canTL, canT, segR, rows_pull, iter_pull, ix, fdb2, mpC, pull_act, mapC, kC_pull, mE_k, mE_v, mE_fold]; done) | skip
    | false =>
      have hgr2 : (bAnd .u8 x.m.m0 1 == 1) = false := hgr
      obtain ⟨s, hlook⟩ := hlu hgr
      rw [hlook] at c35
      simp only [Option.map_some, Option.getD_some, Option.isSome_some] at c35
      repeat' first
        | with_reducible rfl
        | simp only [q1, q2, z0, z1, hi1, hel, w1, w2, hlen, hgr2, g2, g7, g8, g9, g10, List.length_map, Int.toNat_natCast, encA, kC_exp, aK_eta, kC_mac, kC_d1, kC_d6, aK_m, srt_len, f_tt, f_tf, f_ft, f_ff, push_one, pull_one, kC_push, kC_pull, mE_k, mE_v, mE_fold, kC_len, eR_len, e_nil, e_cons, e_gd, e_gdt, e_gdf, e_g0, e_g1, e_op, e_step, e_stepG, e_stepN, e_clo, e_cloF, e_ret, e_put, e_junk, e_skip, e_reg, e_draw, e_seq, e_cond, e_block, e_exit, e_r, e_label, e_loop, q_sn, q_sr, q_se, q_bn, q_br, q_be, q_rr, q_rn, e_res0, e_res1, e_res2, e_b, d_nil, d_cons, d_op, d_step, d_stepG, d_stepN, d_clo, d_cloF, d_ret, d_put, d_junk, d_inf, d_fin, g_not, g_and, argsTM, stepE, stBuiltin, stBox, stAlloc, stLoad, stStore, stField, stExtract, stBin, stUn, stConv, stNilCheck, stFieldV, stIndex, stIndexAddr, stLen, stMin, stMax, stBuild, fillI, stBuildSlice, setRows, stMakeSlice, stAppend, srcR, segR, rdCells, stSlice, bnd, stArr, stCopy, stConv2, isIntV, cutR, byteRows, rowByte, binStr, Option.map_some, Option.map_none, eq_self, canTL, canT, canH, canL, patL, gcH, gcT, gcI, get_gcT, mapC, pullS, pullI, pushS, push1, pushI, pushC, pullHW, roC, ix, List.map_map, Function.comp_def, List.zip_cons_cons, List.zip_nil_left, List.zip_nil_right, List.range'_zero, List.range'_succ, rd, get, put, IV.cells, ofValue, seg, spl, ldIV, binInt, eqI, cellsEq, leafEq, resI, flat, isT, upd, up1, nextM, cR, ptrC, nAl, isAl, List.length_cons, List.length_nil, List.length_append, List.length_replicate, List.length_set, Nat.reduceAdd, Nat.reduceMul, Nat.reduceEqDiff, Nat.reduceLeDiff, Nat.zero_add, Nat.add_zero, ne_eq, reduceCtorEq, not_false_eq_true, not_true_eq_false, reduceIte, true_and, and_true, and_false, false_and, and_self, List.nil_append, List.cons_append, List.append_nil, List.getElem?_cons_zero, List.getElem?_cons_succ, List.drop_succ_cons, List.drop_zero, List.take_succ_cons, List.take_zero, List.set_cons_zero, List.set_cons_succ, List.getElem?_toArray, Option.bind_some, Bool.false_eq_true, Nat.add_one_ne_zero, Nat.succ_ne_self, List.map_cons, List.map_nil, Bool.not_true, Bool.not_false, List.replicate_succ, List.replicate_zero, List.mem_cons, List.not_mem_nil, or_false, false_or, or_true, true_or, forall_const, false_implies, implies_true, true_implies, Int.reduceToNat, Int.reduceLE, Int.reduceLT, Int.cast_ofNat_Int, bne, Int.reduceEq, Int.reduceNe, Int.reduceNeg, Int.reduceAdd, Int.reduceSub, Int.reduceMul, beq_self_eq_true, Int.reduceBEq, Int.reduceBNe, Bool.true_and, Bool.false_and, Bool.and_true, Bool.and_false, Bool.true_or, Bool.false_or, Bool.or_true, Bool.or_false, Nat.reduceLT, Nat.reduceSub, Nat.zero_min, Nat.min_zero, Nat.min_self, List.flatMap_cons, List.flatMap_nil, Int.toNat_natCast, strEq_self, Bool.not_eq_true', decide_true, decide_false, WLS, Try.underlying3, Try.underlying4, Try.underlying5, ty_ag_27, ty_ag_3, ty_ag_54, ty_ag_57, ty_ag_59, ty_ag_86, ty_of_59_1, ty_of_86_1, ty_of_86_2, ty_of_86_3, ty_ok_59, ty_pl_59_0, ty_pl_59_1, ty_sl_82, ty_sl_93, ty_sz_27, ty_sz_3, ty_sz_54, ty_sz_57, ty_sz_59, ty_sz_86, ty_ze_59, ty_ze_86]
        | (with_reducible refine drawK_id ?_); refine drawK_auto hmix (by kernel_rfl) ?_
        | (with_reducible refine draw_fin ?_ ?_); · kernel_rfl
        | (with_reducible refine draw_id ?_); kernel_rfl
        | (with_reducible refine callK_id (f := 36) ?_); refine callK_fun (f36 _ _ _ _ _ _) rfl rfl ?_
        | ((with_reducible refine callK_id (f := 34) ?_); refine callK_funW [] [1, 2] (c34) (by simp [pullHW, Function.comp_def, rows_pull, pullS, ix, pullI, mapC, kC_pull, mE_k, mE_v, mE_fold]) rfl rfl (by decide) (by simp) (by simp [pullI, pullS, ix, kC_pull, kC]) ?_; rintro r Hn ⟨rfl, rfl⟩ -; skip)
        | ((with_reducible refine callK_id (f := 35) ?_); refine callK_funW [] [1, 2] (c35) (by simp [pullHW, Function.comp_def, rows_pull, pullS, ix, pullI, mapC, kC_pull, mE_k, mE_v, mE_fold]) rfl rfl (by decide) (by simp) (by simp [pullI, pullS, ix, kC_pull, kC]) ?_; rintro r Hn ⟨rfl, rfl⟩ -; skip)
        | ((with_reducible refine callK_id (f := 37) ?_); refine callK_funW [] [1, 2] (c37) (by simp [pullHW, Function.comp_def, rows_pull, pullS, ix, pullI, mapC, kC_pull, mE_k, mE_v, mE_fold]) rfl rfl (by decide) (by simp) (by simp [pullI, pullS, ix, kC_pull, kC]) ?_; rintro r Hn ⟨rfl, rfl⟩ -; skip)
        | (with_reducible refine And.intro ?_ ?_; · omega)
      refine ⟨xs.length - (i + 1), _, _, by omega, Wk.gc [0, 1, 2] rfl (by decide), i + 1, c', L', rfl, by omega, hok', ?_, ?_, ?_, ?_, ?_, ?_⟩ <;> first | with_reducible rfl | (simp [Function.comp_def, get_gcT, get, put, gcI, pullI, pullS, gcH, patL, canL, canH, canTL, canT, segR, rows_pull, iter_pull, ix, g2, g7, g8, g9, g10]; done) | (simp [Function.comp_def, get_gcT, get, put, gcI, pullI, pullS, gcH, patL, canL, canH, canTL, canT, segR, rows_pull, iter_pull, ix, fdb2, mpC, pull_act, mapC, kC_pull, mE_k, mE_v, mE_fold]; done) | skip
  unfold fdb2 mpC
  refine' (fun (key : ∀ (tm : TM), (get tm 2 = .s (.slice 0 0 xs.length) ∧ get tm 7 = .s (.raw (.int .i64 n)) ∧ get tm 8 = .s (.raw (.int .i64 T)) ∧ get tm 9 = .s (.ptr 1 0 0)) → gdb ((xs.length : Int) == 0) _ _ tm _) => ?main) ?key
  case main =>
    cases q1 : decide ((i : Int) < (xs.length : Int)) with
    | true =>
      have q2 : decide ((i : Int) < 60) = false := decide_eq_false (by have := of_decide_eq_true q1; omega)
      repeat' first
        | with_reducible rfl
        | simp only [q1, q2, g2, g7, g8, g9, g10, List.length_map, push_one, pull_one, kC_push, kC_pull, mE_k, mE_v, mE_fold, kC_len, eR_len, e_nil, e_cons, e_gd, e_gdt, e_gdf, e_g0, e_g1, e_op, e_step, e_stepG, e_stepN, e_clo, e_cloF, e_ret, e_put, e_junk, e_skip, e_reg, e_draw, e_seq, e_cond, e_block, e_exit, e_r, e_label, e_loop, q_sn, q_sr, q_se, q_bn, q_br, q_be, q_rr, q_rn, e_res0, e_res1, e_res2, e_b, d_nil, d_cons, d_op, d_step, d_stepG, d_stepN, d_clo, d_cloF, d_ret, d_put, d_junk, d_inf, d_fin, g_not, g_and, argsTM, stepE, stBuiltin, stBox, stAlloc, stLoad, stStore, stField, stExtract, stBin, stUn, stConv, stNilCheck, stFieldV, stIndex, stIndexAddr, stLen, stMin, stMax, stBuild, fillI, stBuildSlice, setRows, stMakeSlice, stAppend, srcR, segR, rdCells, stSlice, bnd, stArr, stCopy, stConv2, isIntV, cutR, byteRows, rowByte, binStr, Option.map_some, Option.map_none, eq_self, canTL, canT, canH, canL, patL, gcH, gcT, gcI, get_gcT, mapC, pullS, pullI, pushS, push1, pushI, pushC, pullHW, roC, ix, List.map_map, Function.comp_def, List.zip_cons_cons, List.zip_nil_left, List.zip_nil_right, List.range'_zero, List.range'_succ, rd, get, put, IV.cells, ofValue, seg, spl, ldIV, binInt, eqI, cellsEq, leafEq, resI, flat, isT, upd, up1, nextM, cR, ptrC, nAl, isAl, List.length_cons, List.length_nil, List.length_append, List.length_replicate, List.length_set, Nat.reduceAdd, Nat.reduceMul, Nat.reduceEqDiff, Nat.reduceLeDiff, Nat.zero_add, Nat.add_zero, ne_eq, reduceCtorEq, not_false_eq_true, not_true_eq_false, reduceIte, true_and, and_true, and_false, false_and, and_self, List.nil_append, List.cons_append, List.append_nil, List.getElem?_cons_zero, List.getElem?_cons_succ, List.drop_succ_cons, List.drop_zero, List.take_succ_cons, List.take_zero, List.set_cons_zero, List.set_cons_succ, List.getElem?_toArray, Option.bind_some, Bool.false_eq_true, Nat.add_one_ne_zero, Nat.succ_ne_self, List.map_cons, List.map_nil, Bool.not_true, Bool.not_false, List.replicate_succ, List.replicate_zero, List.mem_cons, List.not_mem_nil, or_false, false_or, or_true, true_or, forall_const, false_implies, implies_true, true_implies, Int.reduceToNat, Int.reduceLE, Int.reduceLT, Int.cast_ofNat_Int, bne, Int.reduceEq, Int.reduceNe, Int.reduceNeg, Int.reduceAdd, Int.reduceSub, Int.reduceMul, beq_self_eq_true, Int.reduceBEq, Int.reduceBNe, Bool.true_and, Bool.false_and, Bool.and_true, Bool.and_false, Bool.true_or, Bool.false_or, Bool.or_true, Bool.or_false, Nat.reduceLT, Nat.reduceSub, Nat.zero_min, Nat.min_zero, Nat.min_self, List.flatMap_cons, List.flatMap_nil, Int.toNat_natCast, strEq_self, Bool.not_eq_true', decide_true, decide_false, WLS, Try.underlying3, Try.underlying4, Try.underlying5, ty_ag_27, ty_ag_3, ty_ag_54, ty_ag_57, ty_ag_59, ty_ag_86, ty_of_59_1, ty_of_86_1, ty_of_86_2, ty_of_86_3, ty_ok_59, ty_pl_59_0, ty_pl_59_1, ty_sl_82, ty_sl_93, ty_sz_27, ty_sz_3, ty_sz_54, ty_sz_57, ty_sz_59, ty_sz_86, ty_ze_59, ty_ze_86]
        | (with_reducible refine drawK_id ?_); refine drawK_auto hmix (by kernel_rfl) ?_
        | (with_reducible refine draw_fin ?_ ?_); · kernel_rfl
        | (with_reducible refine draw_id ?_); kernel_rfl
        | (with_reducible refine And.intro ?_ ?_; · omega)
      refine key _ ⟨?_, ?_, ?_, ?_⟩ <;> simp [get, g2, g7, g8, g9]
    | false =>
      repeat' first
        | with_reducible rfl
        | simp only [q1, g2, g7, g8, g9, g10, List.length_map, push_one, pull_one, kC_push, kC_pull, mE_k, mE_v, mE_fold, kC_len, eR_len, e_nil, e_cons, e_gd, e_gdt, e_gdf, e_g0, e_g1, e_op, e_step, e_stepG, e_stepN, e_clo, e_cloF, e_ret, e_put, e_junk, e_skip, e_reg, e_draw, e_seq, e_cond, e_block, e_exit, e_r, e_label, e_loop, q_sn, q_sr, q_se, q_bn, q_br, q_be, q_rr, q_rn, e_res0, e_res1, e_res2, e_b, d_nil, d_cons, d_op, d_step, d_stepG, d_stepN, d_clo, d_cloF, d_ret, d_put, d_junk, d_inf, d_fin, g_not, g_and, argsTM, stepE, stBuiltin, stBox, stAlloc, stLoad, stStore, stField, stExtract, stBin, stUn, stConv, stNilCheck, stFieldV, stIndex, stIndexAddr, stLen, stMin, stMax, stBuild, fillI, stBuildSlice, setRows, stMakeSlice, stAppend, srcR, segR, rdCells, stSlice, bnd, stArr, stCopy, stConv2, isIntV, cutR, byteRows, rowByte, binStr, Option.map_some, Option.map_none, eq_self, canTL, canT, canH, canL, patL, gcH, gcT, gcI, get_gcT, mapC, pullS, pullI, pushS, push1, pushI, pushC, pullHW, roC, ix, List.map_map, Function.comp_def, List.zip_cons_cons, List.zip_nil_left, List.zip_nil_right, List.range'_zero, List.range'_succ, rd, get, put, IV.cells, ofValue, seg, spl, ldIV, binInt, eqI, cellsEq, leafEq, resI, flat, isT, upd, up1, nextM, cR, ptrC, nAl, isAl, List.length_cons, List.length_nil, List.length_append, List.length_replicate, List.length_set, Nat.reduceAdd, Nat.reduceMul, Nat.reduceEqDiff, Nat.reduceLeDiff, Nat.zero_add, Nat.add_zero, ne_eq, reduceCtorEq, not_false_eq_true, not_true_eq_false, reduceIte, true_and, and_true, and_false, false_and, and_self, List.nil_append, List.cons_append, List.append_nil, List.getElem?_cons_zero, List.getElem?_cons_succ, List.drop_succ_cons, List.drop_zero, List.take_succ_cons, List.take_zero, List.set_cons_zero, List.set_cons_succ, List.getElem?_toArray, Option.bind_some, Bool.false_eq_true, Nat.add_one_ne_zero, Nat.succ_ne_self, List.map_cons, List.map_nil, Bool.not_true, Bool.not_false, List.replicate_succ, List.replicate_zero, List.mem_cons, List.not_mem_nil, or_false, false_or, or_true, true_or, forall_const, false_implies, implies_true, true_implies, Int.reduceToNat, Int.reduceLE, Int.reduceLT, Int.cast_ofNat_Int, bne, Int.reduceEq, Int.reduceNe, Int.reduceNeg, Int.reduceAdd, Int.reduceSub, Int.reduceMul, beq_self_eq_true, Int.reduceBEq, Int.reduceBNe, Bool.true_and, Bool.false_and, Bool.and_true, Bool.and_false, Bool.true_or, Bool.false_or, Bool.or_true, Bool.or_false, Nat.reduceLT, Nat.reduceSub, Nat.zero_min, Nat.min_zero, Nat.min_self, List.flatMap_cons, List.flatMap_nil, Int.toNat_natCast, strEq_self, Bool.not_eq_true', decide_true, decide_false, WLS, Try.underlying3, Try.underlying4, Try.underlying5, ty_ag_27, ty_ag_3, ty_ag_54, ty_ag_57, ty_ag_59, ty_ag_86, ty_of_59_1, ty_of_86_1, ty_of_86_2, ty_of_86_3, ty_ok_59, ty_pl_59_0, ty_pl_59_1, ty_sl_82, ty_sl_93, ty_sz_27, ty_sz_3, ty_sz_54, ty_sz_57, ty_sz_59, ty_sz_86, ty_ze_59, ty_ze_86]
        | (with_reducible refine drawK_id ?_); refine drawK_auto hmix (by kernel_rfl) ?_
        | (with_reducible refine draw_fin ?_ ?_); · kernel_rfl
        | (with_reducible refine draw_id ?_); kernel_rfl
        | (with_reducible refine And.intro ?_ ?_; · omega)
      refine key _ ⟨?_, ?_, ?_, ?_⟩ <;> simp [get, g2, g7, g8, g9]
  rintro tm ⟨g2, g7, g8, g9⟩
  refine gdb_split (fun h => ?_) (fun h => ?_)
  · skip
    repeat' first
      | with_reducible rfl
      | simp only [g2, g7, g8, g9, List.length_map, push_one, pull_one, kC_push, kC_pull, mE_k, mE_v, mE_fold, kC_len, eR_len, e_nil, e_cons, e_gd, e_gdt, e_gdf, e_g0, e_g1, e_op, e_step, e_stepG, e_stepN, e_clo, e_cloF, e_ret, e_put, e_junk, e_skip, e_reg, e_draw, e_seq, e_cond, e_block, e_exit, e_r, e_label, e_loop, q_sn, q_sr, q_se, q_bn, q_br, q_be, q_rr, q_rn, e_res0, e_res1, e_res2, e_b, d_nil, d_cons, d_op, d_step, d_stepG, d_stepN, d_clo, d_cloF, d_ret, d_put, d_junk, d_inf, d_fin, g_not, g_and, argsTM, stepE, stBuiltin, stBox, stAlloc, stLoad, stStore, stField, stExtract, stBin, stUn, stConv, stNilCheck, stFieldV, stIndex, stIndexAddr, stLen, stMin, stMax, stBuild, fillI, stBuildSlice, setRows, stMakeSlice, stAppend, srcR, segR, rdCells, stSlice, bnd, stArr, stCopy, stConv2, isIntV, cutR, byteRows, rowByte, binStr, Option.map_some, Option.map_none, eq_self, canTL, canT, canH, canL, patL, gcH, gcT, gcI, get_gcT, mapC, pullS, pullI, pushS, push1, pushI, pushC, pullHW, roC, ix, List.map_map, Function.comp_def, List.zip_cons_cons, List.zip_nil_left, List.zip_nil_right, List.range'_zero, List.range'_succ, rd, get, put, IV.cells, ofValue, seg, spl, ldIV, binInt, eqI, cellsEq, leafEq, resI, flat, isT, upd, up1, nextM, cR, ptrC, nAl, isAl, List.length_cons, List.length_nil, List.length_append, List.length_replicate, List.length_set, Nat.reduceAdd, Nat.reduceMul, Nat.reduceEqDiff, Nat.reduceLeDiff, Nat.zero_add, Nat.add_zero, ne_eq, reduceCtorEq, not_false_eq_true, not_true_eq_false, reduceIte, true_and, and_true, and_false, false_and, and_self, List.nil_append, List.cons_append, List.append_nil, List.getElem?_cons_zero, List.getElem?_cons_succ, List.drop_succ_cons, List.drop_zero, List.take_succ_cons, List.take_zero, List.set_cons_zero, List.set_cons_succ, List.getElem?_toArray, Option.bind_some, Bool.false_eq_true, Nat.add_one_ne_zero, Nat.succ_ne_self, List.map_cons, List.map_nil, Bool.not_true, Bool.not_false, List.replicate_succ, List.replicate_zero, List.mem_cons, List.not_mem_nil, or_false, false_or, or_true, true_or, forall_const, false_implies, implies_true, true_implies, Int.reduceToNat, Int.reduceLE, Int.reduceLT, Int.cast_ofNat_Int, bne, Int.reduceEq, Int.reduceNe, Int.reduceNeg, Int.reduceAdd, Int.reduceSub, Int.reduceMul, beq_self_eq_true, Int.reduceBEq, Int.reduceBNe, Bool.true_and, Bool.false_and, Bool.and_true, Bool.and_false, Bool.true_or, Bool.false_or, Bool.or_true, Bool.or_false, Nat.reduceLT, Nat.reduceSub, Nat.zero_min, Nat.min_zero, Nat.min_self, List.flatMap_cons, List.flatMap_nil, Int.toNat_natCast, strEq_self, Bool.not_eq_true', decide_true, decide_false, WLS, Try.underlying3, Try.underlying4, Try.underlying5, ty_ag_27, ty_ag_3, ty_ag_54, ty_ag_57, ty_ag_59, ty_ag_86, ty_of_59_1, ty_of_86_1, ty_of_86_2, ty_of_86_3, ty_ok_59, ty_pl_59_0, ty_pl_59_1, ty_sl_82, ty_sl_93, ty_sz_27, ty_sz_3, ty_sz_54, ty_sz_57, ty_sz_59, ty_sz_86, ty_ze_59, ty_ze_86]
      | with_reducible refine gdb_split (fun h => ?_) (fun h => ?_)
      | (with_reducible refine drawK_id ?_); refine drawK_auto hmix (by kernel_rfl) ?_
      | (with_reducible refine draw_fin ?_ ?_); · kernel_rfl
      | (with_reducible refine draw_id ?_); kernel_rfl
      | (with_reducible refine And.intro ?_ ?_; · omega)
  have c34 := f34 n T clock L hok.k hok.s hok.c n1 hL1 (sort_ok L hok.k hok.v hL1) k7 3
  have hlo := learn_ok hok n1 t1 (k := k7) (by unfold KOK; decide +kernel) (p := 3) (by decide) (by decide)
  obtain ⟨c', L', gg, bb, hlk⟩ : ∃ c' L' gg bb, learnK n clock L k7 3 = ((c', L'), gg, bb) := ⟨_, _, _, _, rfl⟩
  rw [hlk] at c34 hlo
  dsimp only at hlo c34
  obtain ⟨hok', -, hlu⟩ := hlo
  obtain ⟨s, hlook⟩ := hlu (by kernel_rfl)
  have hk7 : (⟨7, fromC 12⟩ : KEY) = k7 := rfl
  unfold fdbC mpC at c34
  repeat' first
    | with_reducible rfl
    | simp only [kC_fold, encM_len, hk7, g2, g7, g8, g9, List.length_map, push_one, pull_one, kC_push, kC_pull, mE_k, mE_v, mE_fold, kC_len, eR_len, e_nil, e_cons, e_gd, e_gdt, e_gdf, e_g0, e_g1, e_op, e_step, e_stepG, e_stepN, e_clo, e_cloF, e_ret, e_put, e_junk, e_skip, e_reg, e_draw, e_seq, e_cond, e_block, e_exit, e_r, e_label, e_loop, q_sn, q_sr, q_se, q_bn, q_br, q_be, q_rr, q_rn, e_res0, e_res1, e_res2, e_b, d_nil, d_cons, d_op, d_step, d_stepG, d_stepN, d_clo, d_cloF, d_ret, d_put, d_junk, d_inf, d_fin, g_not, g_and, argsTM, stepE, stBuiltin, stBox, stAlloc, stLoad, stStore, stField, stExtract, stBin, stUn, stConv, stNilCheck, stFieldV, stIndex, stIndexAddr, stLen, stMin, stMax, stBuild, fillI, stBuildSlice, setRows, stMakeSlice, stAppend, srcR, segR, rdCells, stSlice, bnd, stArr, stCopy, stConv2, isIntV, cutR, byteRows, rowByte, binStr, Option.map_some, Option.map_none, eq_self, canTL, canT, canH, canL, patL, gcH, gcT, gcI, get_gcT, mapC, pullS, pullI, pushS, push1, pushI, pushC, pullHW, roC, ix, List.map_map, Function.comp_def, List.zip_cons_cons, List.zip_nil_left, List.zip_nil_right, List.range'_zero, List.range'_succ, rd, get, put, IV.cells, ofValue, seg, spl, ldIV, binInt, eqI, cellsEq, leafEq, resI, flat, isT, upd, up1, nextM, cR, ptrC, nAl, isAl, List.length_cons, List.length_nil, List.length_append, List.length_replicate, List.length_set, Nat.reduceAdd, Nat.reduceMul, Nat.reduceEqDiff, Nat.reduceLeDiff, Nat.zero_add, Nat.add_zero, ne_eq, reduceCtorEq, not_false_eq_true, not_true_eq_false, reduceIte, true_and, and_true, and_false, false_and, and_self, List.nil_append, List.cons_append, List.append_nil, List.getElem?_cons_zero, List.getElem?_cons_succ, List.drop_succ_cons, List.drop_zero, List.take_succ_cons, List.take_zero, List.set_cons_zero, List.set_cons_succ, List.getElem?_toArray, Option.bind_some, Bool.false_eq_true, Nat.add_one_ne_zero, Nat.succ_ne_self, List.map_cons, List.map_nil, Bool.not_true, Bool.not_false, List.replicate_succ, List.replicate_zero, List.mem_cons, List.not_mem_nil, or_false, false_or, or_true, true_or, forall_const, false_implies, implies_true, true_implies, Int.reduceToNat, Int.reduceLE, Int.reduceLT, Int.cast_ofNat_Int, bne, Int.reduceEq, Int.reduceNe, Int.reduceNeg, Int.reduceAdd, Int.reduceSub, Int.reduceMul, beq_self_eq_true, Int.reduceBEq, Int.reduceBNe, Bool.true_and, Bool.false_and, Bool.and_true, Bool.and_false, Bool.true_or, Bool.false_or, Bool.or_true, Bool.or_false, Nat.reduceLT, Nat.reduceSub, Nat.zero_min, Nat.min_zero, Nat.min_self, List.flatMap_cons, List.flatMap_nil, Int.toNat_natCast, strEq_self, Bool.not_eq_true', decide_true, decide_false, WLS, Try.underlying3, Try.underlying4, Try.underlying5, ty_ag_27, ty_ag_3, ty_ag_54, ty_ag_57, ty_ag_59, ty_ag_86, ty_of_59_1, ty_of_86_1, ty_of_86_2, ty_of_86_3, ty_ok_59, ty_pl_59_0, ty_pl_59_1, ty_sl_82, ty_sl_93, ty_sz_27, ty_sz_3, ty_sz_54, ty_sz_57, ty_sz_59, ty_sz_86, ty_ze_59, ty_ze_86]
    | with_reducible refine gdb_split (fun h => ?_) (fun h => ?_)
    | (with_reducible refine drawK_id ?_); refine drawK_auto hmix (by kernel_rfl) ?_
    | (with_reducible refine draw_fin ?_ ?_); · kernel_rfl
    | (with_reducible refine draw_id ?_); kernel_rfl
    | (with_reducible refine callK_id (f := 32) ?_); refine callK_fun (f32 12) rfl rfl ?_
    | ((with_reducible refine callK_id (f := 34) ?_); refine callK_funW [] [1, 2] (c34) (by simp [pullHW, Function.comp_def, rows_pull, pullS, ix, pullI, mapC, kC_pull, mE_k, mE_v, mE_fold]) rfl rfl (by decide) (by simp) (by simp [pullI, pullS, ix, kC_pull, kC]) ?_; rintro r Hn ⟨rfl, rfl⟩ -; skip)
    | (with_reducible refine And.intro ?_ ?_; · omega)
  refine loopK_wk (by kernel_rfl) (I8b xs n T) (T.toNat - 1) ⟨_, _, Wk.gc [0, 1, 2, 3] rfl (by decide), 1, c', L', ⟨k7, 3, 0, s⟩, rfl, by omega, by omega, hok', hlook, rfl, by simp, fun x hx => by have := (hok'.g x hx).1; omega, by simp [Function.comp_def, get_gcT, get, put, gcI, pullI, pullS, gcH, patL, canL, canH, canTL, canT, segR, rows_pull, iter_pull, ix, g8], by simp [Function.comp_def, get_gcT, get, put, gcI, pullI, pullS, gcH, patL, canL, canH, canTL, canT, segR, rows_pull, iter_pull, ix, g9], by simp [Function.comp_def, get_gcT, get, put, gcI, pullI, pullS, gcH, patL, canL, canH, canTL, canT, segR, rows_pull, iter_pull, ix], by simp [Function.comp_def, get_gcT, get, put, gcI, pullI, pullS, gcH, patL, canL, canH, canTL, canT, segR, rows_pull, iter_pull, ix], ?_⟩ ?_
  · simp [Function.comp_def, get_gcT, get, put, gcI, pullI, pullS, gcH, patL, canL, canH, canTL, canT, segR, rows_pull, iter_pull, ix, fdb2, mpC, pull_act, mapC, kC_pull, mE_k, mE_v, mE_fold]
  clear g2 g7 g8 g9 hok hL1 c34 hok' hlook
  rintro mm tm H ⟨j, clock, L, e, rfl, hj1, hj2, hok, hlook, he3, heg, hage, g8, g9, g16, g17, rfl⟩
  have hL1 : L.length ≤ 100000 := by have := hok.len; omega
  have c38 := f38 n T clock L hok.k hok.s hok.c hL1
  unfold fdb2 mpC
  by_cases hq : (j : Int) < T
  · have q1 : decide ((j : Int) < T) = true := decide_eq_true hq
    have hi1 : IntKind.i64.wrap ((j : Int) + 1) = ((j + 1 : Nat) : Int) := by rw [wr_i64 (by omega) (by omega)]; rfl
    have hok2 := tick_ok hok (by omega)
    have hl2 := tick_look hok (by omega) hlook (by omega)
    have hem := (look_mem hlook).1
    have hg2 := inc_g hok (by omega) hem
    have hag2 := tick_age hok (by omega) hage
    have c35 := f35 n T clock (tickL T L) hok2.k k7
    have hp3 : (inc e).p = 3 := he3
    rw [hl2] at c35
    simp only [Option.map_some, Option.getD_some, Option.isSome_some, hp3] at c35
    unfold fdbC mpC at c35 c38
    repeat' first
      | with_reducible rfl
      | simp only [hi1, q1, g8, g9, g16, g17, List.length_map, push_one, pull_one, kC_push, kC_pull, mE_k, mE_v, mE_fold, kC_len, eR_len, e_nil, e_cons, e_gd, e_gdt, e_gdf, e_g0, e_g1, e_op, e_step, e_stepG, e_stepN, e_clo, e_cloF, e_ret, e_put, e_junk, e_skip, e_reg, e_draw, e_seq, e_cond, e_block, e_exit, e_r, e_label, e_loop, q_sn, q_sr, q_se, q_bn, q_br, q_be, q_rr, q_rn, e_res0, e_res1, e_res2, e_b, d_nil, d_cons, d_op, d_step, d_stepG, d_stepN, d_clo, d_cloF, d_ret, d_put, d_junk, d_inf, d_fin, g_not, g_and, argsTM, stepE, stBuiltin, stBox, stAlloc, stLoad, stStore, stField, stExtract, stBin, stUn, stConv, stNilCheck, stFieldV, stIndex, stIndexAddr, stLen, stMin, stMax, stBuild, fillI, stBuildSlice, setRows, stMakeSlice, stAppend, srcR, segR, rdCells, stSlice, bnd, stArr, stCopy, stConv2, isIntV, cutR, byteRows, rowByte, binStr, Option.map_some, Option.map_none, eq_self, canTL, canT, canH, canL, patL, gcH, gcT, gcI, get_gcT, mapC, pullS, pullI, pushS, push1, pushI, pushC, pullHW, roC, ix, List.map_map, Function.comp_def, List.zip_cons_cons, List.zip_nil_left, List.zip_nil_right, List.range'_zero, List.range'_succ, rd, get, put, IV.cells, ofValue, seg, spl, ldIV, binInt, eqI, cellsEq, leafEq, resI, flat, isT, upd, up1, nextM, cR, ptrC, nAl, isAl, List.length_cons, List.length_nil, List.length_append, List.length_replicate, List.length_set, Nat.reduceAdd, Nat.reduceMul, Nat.reduceEqDiff, Nat.reduceLeDiff, Nat.zero_add, Nat.add_zero, ne_eq, reduceCtorEq, not_false_eq_true, not_true_eq_false, reduceIte, true_and, and_true, and_false, false_and, and_self, List.nil_append, List.cons_append, List.append_nil, List.getElem?_cons_zero, List.getElem?_cons_succ, List.drop_succ_cons, List.drop_zero, List.take_succ_cons, List.take_zero, List.set_cons_zero, List.set_cons_succ, List.getElem?_toArray, Option.bind_some, Bool.false_eq_true, Nat.add_one_ne_zero, Nat.succ_ne_self, List.map_cons, List.map_nil, Bool.not_true, Bool.not_false, List.replicate_succ, List.replicate_zero, List.mem_cons, List.not_mem_nil, or_false, false_or, or_true, true_or, forall_const, false_implies, implies_true, true_implies, Int.reduceToNat, Int.reduceLE, Int.reduceLT, Int.cast_ofNat_Int, bne, Int.reduceEq, Int.reduceNe, Int.reduceNeg, Int.reduceAdd, Int.reduceSub, Int.reduceMul, beq_self_eq_true, Int.reduceBEq, Int.reduceBNe, Bool.true_and, Bool.false_and, Bool.and_true, Bool.and_false, Bool.true_or, Bool.false_or, Bool.or_true, Bool.or_false, Nat.reduceLT, Nat.reduceSub, Nat.zero_min, Nat.min_zero, Nat.min_self, List.flatMap_cons, List.flatMap_nil, Int.toNat_natCast, strEq_self, Bool.not_eq_true', decide_true, decide_false, WLS, Try.underlying3, Try.underlying4, Try.underlying5, ty_ag_27, ty_ag_3, ty_ag_54, ty_ag_57, ty_ag_59, ty_ag_86, ty_of_59_1, ty_of_86_1, ty_of_86_2, ty_of_86_3, ty_ok_59, ty_pl_59_0, ty_pl_59_1, ty_sl_82, ty_sl_93, ty_sz_27, ty_sz_3, ty_sz_54, ty_sz_57, ty_sz_59, ty_sz_86, ty_ze_59, ty_ze_86]
      | with_reducible refine gdb_split (fun h => ?_) (fun h => ?_)
      | (with_reducible refine drawK_id ?_); refine drawK_auto hmix (by kernel_rfl) ?_
      | (with_reducible refine draw_fin ?_ ?_); · kernel_rfl
      | (with_reducible refine draw_id ?_); kernel_rfl
      | ((with_reducible refine callK_id (f := 38) ?_); refine callK_funW [] [1, 2] (c38) (by simp [pullHW, Function.comp_def, rows_pull, pullS, ix, pullI, mapC, kC_pull, mE_k, mE_v, mE_fold]) rfl rfl (by decide) (by simp) (by simp [pullI, pullS, ix, kC_pull, kC]) ?_; rintro r Hn ⟨rfl, rfl⟩ -; skip)
      | ((with_reducible refine callK_id (f := 35) ?_); refine callK_funW [] [1, 2] (c35) (by simp [pullHW, Function.comp_def, rows_pull, pullS, ix, pullI, mapC, kC_pull, mE_k, mE_v, mE_fold]) rfl rfl (by decide) (by simp) (by simp [pullI, pullS, ix, kC_pull, kC]) ?_; rintro r Hn ⟨rfl, rfl⟩ -; skip)
      | (with_reducible refine And.intro ?_ ?_; · omega)
    refine ⟨T.toNat - (j + 1), _, _, by omega, Wk.gc [0, 1, 2, 3] rfl (by decide), j + 1, clock, tickL T L, inc e, rfl, by omega, by omega, hok2, hl2, hp3, by rw [hg2]; omega, fun x hx => by have := hag2 x hx; omega, ?_, ?_, ?_, ?_, ?_⟩ <;> first | with_reducible rfl | (simp [Function.comp_def, get_gcT, get, put, gcI, pullI, pullS, gcH, patL, canL, canH, canTL, canT, segR, rows_pull, iter_pull, ix, g8, g9, g16, g17]; done) | (simp [Function.comp_def, get_gcT, get, put, gcI, pullI, pullS, gcH, patL, canL, canH, canTL, canT, segR, rows_pull, iter_pull, ix, fdb2, mpC, pull_act, mapC, kC_pull, mE_k, mE_v, mE_fold]; done)
  · have q1 : decide ((j : Int) < T) = false := decide_eq_false hq
    have htk : tickL T L = [] := tick_end hok (by omega) (fun x hx => by have := hage x hx; omega)
    have c35 := f35 n T clock [] List.nodup_nil k7
    have c37 := f37 n T clock [] List.nodup_nil (by simp) (by simp) (sort_small [] (by simp))
    have hl0 : look [] k7 = none := rfl
    rw [htk] at c38
    rw [hl0] at c35
    simp only [Option.map_none, Option.getD_none, Option.isSome_none] at c35
    unfold fdbC mpC at c35 c37 c38
    simp only [List.map_nil, List.length_nil] at c35 c37 c38
    repeat' first
      | with_reducible rfl
      | simp only [q1, g8, g9, g16, g17, List.length_map, push_one, pull_one, kC_push, kC_pull, mE_k, mE_v, mE_fold, kC_len, eR_len, e_nil, e_cons, e_gd, e_gdt, e_gdf, e_g0, e_g1, e_op, e_step, e_stepG, e_stepN, e_clo, e_cloF, e_ret, e_put, e_junk, e_skip, e_reg, e_draw, e_seq, e_cond, e_block, e_exit, e_r, e_label, e_loop, q_sn, q_sr, q_se, q_bn, q_br, q_be, q_rr, q_rn, e_res0, e_res1, e_res2, e_b, d_nil, d_cons, d_op, d_step, d_stepG, d_stepN, d_clo, d_cloF, d_ret, d_put, d_junk, d_inf, d_fin, g_not, g_and, argsTM, stepE, stBuiltin, stBox, stAlloc, stLoad, stStore, stField, stExtract, stBin, stUn, stConv, stNilCheck, stFieldV, stIndex, stIndexAddr, stLen, stMin, stMax, stBuild, fillI, stBuildSlice, setRows, stMakeSlice, stAppend, srcR, segR, rdCells, stSlice, bnd, stArr, stCopy, stConv2, isIntV, cutR, byteRows, rowByte, binStr, Option.map_some, Option.map_none, eq_self, canTL, canT, canH, canL, patL, gcH, gcT, gcI, get_gcT, mapC, pullS, pullI, pushS, push1, pushI, pushC, pullHW, roC, ix, List.map_map, Function.comp_def, List.zip_cons_cons, List.zip_nil_left, List.zip_nil_right, List.range'_zero, List.range'_succ, rd, get, put, IV.cells, ofValue, seg, spl, ldIV, binInt, eqI, cellsEq, leafEq, resI, flat, isT, upd, up1, nextM, cR, ptrC, nAl, isAl, List.length_cons, List.length_nil, List.length_append, List.length_replicate, List.length_set, Nat.reduceAdd, Nat.reduceMul, Nat.reduceEqDiff, Nat.reduceLeDiff, Nat.zero_add, Nat.add_zero, ne_eq, reduceCtorEq, not_false_eq_true, not_true_eq_false, reduceIte, true_and, and_true, and_false, false_and, and_self, List.nil_append, List.cons_append, List.append_nil, List.getElem?_cons_zero, List.getElem?_cons_succ, List.drop_succ_cons, List.drop_zero, List.take_succ_cons, List.take_zero, List.set_cons_zero, List.set_cons_succ, List.getElem?_toArray, Option.bind_some, Bool.false_eq_true, Nat.add_one_ne_zero, Nat.succ_ne_self, List.map_cons, List.map_nil, Bool.not_true, Bool.not_false, List.replicate_succ, List.replicate_zero, List.mem_cons, List.not_mem_nil, or_false, false_or, or_true, true_or, forall_const, false_implies, implies_true, true_implies, Int.reduceToNat, Int.reduceLE, Int.reduceLT, Int.cast_ofNat_Int, bne, Int.reduceEq, Int.reduceNe, Int.reduceNeg, Int.reduceAdd, Int.reduceSub, Int.reduceMul, beq_self_eq_true, Int.reduceBEq, Int.reduceBNe, Bool.true_and, Bool.false_and, Bool.and_true, Bool.and_false, Bool.true_or, Bool.false_or, Bool.or_true, Bool.or_false, Nat.reduceLT, Nat.reduceSub, Nat.zero_min, Nat.min_zero, Nat.min_self, List.flatMap_cons, List.flatMap_nil, Int.toNat_natCast, strEq_self, Bool.not_eq_true', decide_true, decide_false, WLS, Try.underlying3, Try.underlying4, Try.underlying5, ty_ag_27, ty_ag_3, ty_ag_54, ty_ag_57, ty_ag_59, ty_ag_86, ty_of_59_1, ty_of_86_1, ty_of_86_2, ty_of_86_3, ty_ok_59, ty_pl_59_0, ty_pl_59_1, ty_sl_82, ty_sl_93, ty_sz_27, ty_sz_3, ty_sz_54, ty_sz_57, ty_sz_59, ty_sz_86, ty_ze_59, ty_ze_86]
      | with_reducible refine gdb_split (fun h => ?_) (fun h => ?_)
      | (with_reducible refine drawK_id ?_); refine drawK_auto hmix (by kernel_rfl) ?_
      | (with_reducible refine draw_fin ?_ ?_); · kernel_rfl
      | (with_reducible refine draw_id ?_); kernel_rfl
      | ((with_reducible refine callK_id (f := 38) ?_); refine callK_funW [] [1, 2] (c38) (by simp [pullHW, Function.comp_def, rows_pull, pullS, ix, pullI, mapC, kC_pull, mE_k, mE_v, mE_fold]) rfl rfl (by decide) (by simp) (by simp [pullI, pullS, ix, kC_pull, kC]) ?_; rintro r Hn ⟨rfl, rfl⟩ -; skip)
      | ((with_reducible refine callK_id (f := 35) ?_); refine callK_funW [] [1, 2] (c35) (by simp [pullHW, Function.comp_def, rows_pull, pullS, ix, pullI, mapC, kC_pull, mE_k, mE_v, mE_fold]) rfl rfl (by decide) (by simp) (by simp [pullI, pullS, ix, kC_pull, kC]) ?_; rintro r Hn ⟨rfl, rfl⟩ -; skip)
      | ((with_reducible refine callK_id (f := 37) ?_); refine callK_funW [] [1, 2] (c37) (by simp [pullHW, Function.comp_def, rows_pull, pullS, ix, pullI, mapC, kC_pull, mE_k, mE_v, mE_fold]) rfl rfl (by decide) (by simp) (by simp [pullI, pullS, ix, kC_pull, kC]) ?_; rintro r Hn ⟨rfl, rfl⟩ -; skip)
      | (with_reducible refine And.intro ?_ ?_; · omega)
end Go.Ev
