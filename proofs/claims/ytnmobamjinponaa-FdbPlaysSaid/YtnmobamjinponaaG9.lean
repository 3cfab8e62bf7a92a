/- A part of the proof: contracts of the functions that the statement reaches. -/
import Derived.Test.YtnmobamjinponaaG8
namespace Go.Ev
open Go.Proofs
set_option maxRecDepth 100000
set_option linter.unusedSimpArgs false
set_option linter.unusedVariables false
set_option maxHeartbeats 4000000
def ka : KEY := ⟨1, fromC 2⟩
def kb : KEY := ⟨1, fromC 4⟩
def ea : EN := ⟨ka, 3, 0, 0⟩
def eb : EN := ⟨kb, 5, 0, 1⟩
theorem ga : goodB ka 3 = true := by kernel_rfl
theorem gb : goodB kb 5 = true := by kernel_rfl
theorem nab : ka ≠ kb := by decide +kernel
theorem s1_l : learnK 1 0 [] ka 3 = ((1, [ea]), zEN, false) := by
  simp [learnK, ga, fullB, look, putE, ea]
theorem s2_l : learnK 1 1 [ea] kb 5 = ((2, [eb]), ea, true) := by
  simp [learnK, gb, fullB, look, putE, srt, minL, delE, ea, eb, nab]
theorem kEq2 (a b : KEY) : cellsEq [.int .u16, .int .u8, .int .u8, .int .u8, .int .u8, .int .u8, .int .u8] (kC a) (kC b) = some (decide (a = b)) := kEq a b
theorem kC_fold (v : Int) (m : M6) : SV.raw (.int .u16 v) :: encM m = kC ⟨v, m⟩ := rfl
theorem eR_7 (e : EN) : List.take 1 (List.drop 7 (eR e)) = [.raw (.int .i64 e.p)] := rfl
theorem eR_8 (e : EN) : List.take 1 (List.drop 8 (eR e)) = [.raw (.int .i64 e.g)] := rfl
theorem encM_len (m : M6) : (encM m).length = 6 := rfl
theorem f29 : Fun Try.prog 29 [] (.s (.raw (.bool true))) := by
  refine fun_of rfl fun X => ?_
  have c33 := f33 1 9
  have c34a := f34 1 9 0 [] List.nodup_nil List.nodup_nil (by simp) (by omega) (by simp) (sort_small [] (by simp)) ka 3
  have c34b := f34 1 9 1 [ea] (by simp [NDk]) (by simp [NDs]) (by simp [ea]) (by omega) (by simp) (sort_small [ea] (by simp)) kb 5
  have c35 := f35 1 9 2 [eb] (by simp [NDk]) kb
  have c37 := f37 1 9 2 [eb] (by simp [NDs]) (by simp [eb]) (by simp) (sort_small [eb] (by simp))
  rw [s1_l] at c34a
  rw [s2_l] at c34b
  have hl : look [eb] kb = some eb := by simp [look, eb]
  rw [hl] at c35
  rw [show mostI 1 = 1 from rfl, show liveI 9 = 9 from rfl] at c33
  unfold fdbC mpC at c33 c34a c34b c35 c37
  simp only [List.map_cons, List.map_nil] at c33 c34a c34b c35 c37
  have hka : (⟨1, fromC 2⟩ : KEY) = ka := rfl
  have hkb : (⟨1, fromC 4⟩ : KEY) = kb := rfl
  have he3 : (ea.p == 3) = true := rfl
  have hek : decide (ea.k = ka) = true := decide_eq_true rfl
  have hps : (some eb).isSome = true := rfl
  have hp1 : ((some eb).map (·.p)).getD 0 = 5 := rfl
  have hp2 : [eb].length = 1 := rfl
  have hl2 : (Option.map (fun x => x.p) (some eb)).getD 0 = 5 := rfl
  rw [hps, hl2] at c35
  refine callK_inline (rs := [.tmp 0]) (n := 53) Try.func29 rfl rfl rfl (by kernel_rfl) (by kernel_rfl) (by simp only [List.length_cons, List.length_nil]; decide) ?_
  repeat' first
    | with_reducible rfl
    | simp only [List.map_append, push_one, pull_one, kC_push, kC_pull, mE_k, mE_v, mE_fold, eR_len, kC_len, eR_take, kEq2, kC_fold, encM_len, eR_7, eR_8, hka, hkb, he3, hek, hl2, hps, hp1, hp2, List.length_map, srt_len, e_nil, e_cons, e_gd, e_gdt, e_gdf, e_g0, e_g1, e_op, e_step, e_stepG, e_stepN, e_clo, e_cloF, e_ret, e_put, e_junk, e_skip, e_reg, e_draw, e_seq, e_cond, e_block, e_exit, e_r, e_label, e_loop, q_sn, q_sr, q_se, q_bn, q_br, q_be, q_rr, q_rn, e_res0, e_res1, e_res2, e_b, d_nil, d_cons, d_op, d_step, d_stepG, d_stepN, d_clo, d_cloF, d_ret, d_put, d_junk, d_inf, d_fin, g_not, g_and, argsTM, stepE, stBuiltin, stBox, stAlloc, stLoad, stStore, stField, stExtract, stBin, stUn, stConv, stNilCheck, stFieldV, stIndex, stIndexAddr, stLen, stMin, stMax, stBuild, fillI, stBuildSlice, setRows, stMakeSlice, stAppend, srcR, segR, rdCells, stSlice, bnd, stArr, stCopy, stConv2, isIntV, cutR, byteRows, rowByte, binStr, Option.map_some, Option.map_none, eq_self, canTL, canT, canH, canL, patL, gcH, gcT, gcI, get_gcT, mapC, pullS, pullI, pushS, push1, pushI, pushC, pullHW, roC, ix, List.map_map, Function.comp_def, List.zip_cons_cons, List.zip_nil_left, List.zip_nil_right, List.range'_zero, List.range'_succ, rd, get, put, IV.cells, ofValue, seg, spl, ldIV, binInt, eqI, cellsEq, leafEq, resI, flat, isT, upd, up1, nextM, cR, ptrC, nAl, isAl, List.length_cons, List.length_nil, List.length_append, List.length_replicate, List.length_set, Nat.reduceAdd, Nat.reduceMul, Nat.reduceEqDiff, Nat.reduceLeDiff, Nat.zero_add, Nat.add_zero, ne_eq, reduceCtorEq, not_false_eq_true, not_true_eq_false, reduceIte, true_and, and_true, and_false, false_and, and_self, List.nil_append, List.cons_append, List.append_nil, List.getElem?_cons_zero, List.getElem?_cons_succ, List.drop_succ_cons, List.drop_zero, List.take_succ_cons, List.take_zero, List.set_cons_zero, List.set_cons_succ, List.getElem?_toArray, Option.bind_some, Bool.false_eq_true, Nat.add_one_ne_zero, Nat.succ_ne_self, List.map_cons, List.map_nil, Bool.not_true, Bool.not_false, List.replicate_succ, List.replicate_zero, List.mem_cons, List.not_mem_nil, or_false, false_or, or_true, true_or, forall_const, false_implies, implies_true, true_implies, Int.reduceToNat, Int.reduceLE, Int.reduceLT, Int.cast_ofNat_Int, bne, Int.reduceEq, Int.reduceNe, Int.reduceNeg, Int.reduceAdd, Int.reduceSub, Int.reduceMul, beq_self_eq_true, Int.reduceBEq, Int.reduceBNe, Bool.true_and, Bool.false_and, Bool.and_true, Bool.and_false, Bool.true_or, Bool.false_or, Bool.or_true, Bool.or_false, Nat.reduceLT, Nat.reduceSub, Nat.zero_min, Nat.min_zero, Nat.min_self, List.flatMap_cons, List.flatMap_nil, Int.toNat_natCast, strEq_self, Bool.not_eq_true', decide_true, decide_false, WLS, ty_ag_3, ty_ag_59, ty_eg_59, ty_lv_59, ty_of_88_0, ty_of_88_1, ty_ok_59, ty_pl_59_0, ty_pl_59_1, ty_sl_93, ty_sz_3, ty_sz_59, ty_sz_88, ty_ze_59, ty_ze_88]
    | with_reducible refine gdb_split (fun h => ?_) (fun h => ?_)
    | (with_reducible refine drawK_id ?_); refine drawK_auto hmix (by kernel_rfl) ?_
    | (with_reducible refine draw_fin ?_ ?_); · kernel_rfl
    | (with_reducible refine draw_id ?_); kernel_rfl
    | (with_reducible refine callK_id (f := 32) (args := [.s (.raw (.int .u64 2))]) ?_); refine callK_fun (f32 2) rfl rfl ?_
    | (with_reducible refine callK_id (f := 32) (args := [.s (.raw (.int .u64 4))]) ?_); refine callK_fun (f32 4) rfl rfl ?_
    | ((with_reducible refine callK_id (f := 33) ?_); refine callK_funW [] [] (c33) (by simp [pullHW, Function.comp_def, rows_pull, pullS, ix, mapC, pullI, kC_pull, mE_k, mE_v, mE_fold]) rfl rfl (by decide) (by simp) (by simp [pullI, pullS, ix, kC_pull, ka, kb]) ?_; rintro r Hn ⟨rfl, rfl⟩ -; skip)
    | ((with_reducible refine callK_id (f := 34) (args := [_, .a (kC ka), _]) ?_); refine callK_funW [] [0, 1] (c34a) (by simp [pullHW, Function.comp_def, rows_pull, pullS, ix, mapC, pullI, kC_pull, mE_k, mE_v, mE_fold]) rfl rfl (by decide) (by simp) (by simp [pullI, pullS, ix, kC_pull, ka, kb]) ?_; rintro r Hn ⟨rfl, rfl⟩ -; skip)
    | ((with_reducible refine callK_id (f := 34) (args := [_, .a (kC kb), _]) ?_); refine callK_funW [] [0, 1] (c34b) (by simp [pullHW, Function.comp_def, rows_pull, pullS, ix, mapC, pullI, kC_pull, mE_k, mE_v, mE_fold]) rfl rfl (by decide) (by simp) (by simp [pullI, pullS, ix, kC_pull, ka, kb]) ?_; rintro r Hn ⟨rfl, rfl⟩ -; skip)
    | ((with_reducible refine callK_id (f := 35) ?_); refine callK_funW [] [0, 1] (c35) (by simp [pullHW, Function.comp_def, rows_pull, pullS, ix, mapC, pullI, kC_pull, mE_k, mE_v, mE_fold]) rfl rfl (by decide) (by simp) (by simp [pullI, pullS, ix, kC_pull, ka, kb]) ?_; rintro r Hn ⟨rfl, rfl⟩ -; skip)
    | ((with_reducible refine callK_id (f := 37) ?_); refine callK_funW [] [0, 1] (c37) (by simp [pullHW, Function.comp_def, rows_pull, pullS, ix, mapC, pullI, kC_pull, mE_k, mE_v, mE_fold]) rfl rfl (by decide) (by simp) (by simp [pullI, pullS, ix, kC_pull, ka, kb]) ?_; rintro r Hn ⟨rfl, rfl⟩ -; skip)
    | (with_reducible refine And.intro ?_ ?_; · omega)
end Go.Ev
