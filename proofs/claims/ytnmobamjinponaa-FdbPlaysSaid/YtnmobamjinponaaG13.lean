/- A part of the proof: contracts of the functions that the statement reaches. -/
import Derived.Test.YtnmobamjinponaaG12
namespace Go.Ev
open Go.Proofs
set_option maxRecDepth 100000
set_option linter.unusedSimpArgs false
set_option linter.unusedVariables false
set_option maxHeartbeats 4000000
def inc (e : EN) : EN := ⟨e.k, e.p, IntKind.i64.wrap (e.g + 1), e.s⟩
def incL (L : List EN) (seen : List Nat) : List EN := L.map fun e => if e.s ∈ seen then inc e else e
theorem incL_nil (L : List EN) : incL L [] = L := by simp [incL]
theorem incL_all (L : List EN) {seen : List Nat} (h : ∀ e ∈ L, e.s ∈ seen) : incL L seen = L.map inc := by
  unfold incL
  exact List.map_congr_left fun e he => by rw [if_pos (h e he)]
theorem incL_k (L : List EN) (seen : List Nat) : (incL L seen).map (·.k) = L.map (·.k) := by
  unfold incL; rw [List.map_map]
  exact List.map_congr_left fun e _ => by simp only [Function.comp]; split <;> rfl
theorem incL_mem {L : List EN} {seen : List Nat} {x : EN} (h : x ∈ incL L seen) : ∃ e ∈ L, x.s = e.s := by
  obtain ⟨e, he, rfl⟩ := List.mem_map.1 h
  exact ⟨e, he, by show (if e.s ∈ seen then inc e else e).s = e.s; split <;> rfl⟩
theorem inc_one {L : List EN} (hs : NDs L) {e : EN} (he : e ∈ L) {seen : List Nat} (hn : e.s ∉ seen) :
    ∃ l1 l2, incL L seen = l1 ++ e :: l2 ∧ incL L (seen ++ [e.s]) = l1 ++ inc e :: l2 := by
  obtain ⟨l1, l2, rfl⟩ := List.append_of_mem he
  have hd : ∀ x ∈ l1 ++ l2, x.s ≠ e.s := fun x hx h => by
    unfold NDs at hs
    rw [List.map_append, List.map_cons, List.nodup_append] at hs
    rcases List.mem_append.1 hx with hx | hx
    · exact hs.2.2 _ (List.mem_map.2 ⟨x, hx, rfl⟩) _ (by simp) h
    · exact (List.nodup_cons.1 hs.2.1).1 (List.mem_map.2 ⟨x, hx, h⟩)
  have same : ∀ l : List EN, (∀ x ∈ l, x.s ≠ e.s) → incL l (seen ++ [e.s]) = incL l seen := fun l h => by
    unfold incL
    refine List.map_congr_left fun x hx => ?_
    have := h x hx
    simp [this]
  refine ⟨incL l1 seen, incL l2 seen, ?_, ?_⟩
  · simp [incL, hn]
  · have a := same l1 fun x hx => hd x (by simp [hx])
    have b := same l2 fun x hx => hd x (by simp [hx])
    have c : incL (l1 ++ e :: l2) (seen ++ [e.s]) = incL l1 (seen ++ [e.s]) ++ inc e :: incL l2 (seen ++ [e.s]) := by simp [incL]
    rw [c, a, b]
def tickL (l : Int) (L : List EN) : List EN := (L.map inc).filter fun e => !decide (l ≤ e.g)
def I38 (m l : Int) (clock : Nat) (L : List EN) (mm : Nat) (tm : TM) (H : Heap) : Prop := ∃ (M R : List EN), mm = R.length ∧ (M ++ R).Perm L ∧
  get tm 1 = .s (.ptr 2 0 0) ∧ get tm 11 = .s (.ref 3) ∧
  H = [fdbC m l, mpC clock (incL L (M.map (·.s))), bxC (.ptr 0 0 0), .iter (.ref 1) clock (M.map (·.s)) clock]
theorem inc_ND {L : List EN} (hn : NDk L) : NDk (L.map inc) := by unfold NDk at *; rw [List.map_map]; exact hn
theorem inc_NDs {L : List EN} (hn : NDs L) : NDs (L.map inc) := by unfold NDs at *; rw [List.map_map]; exact hn
theorem f38 (m l : Int) (clock : Nat) (L : List EN) (hn : NDk L) (hs : NDs L) (hc : ∀ e ∈ L, e.s < clock) (hb : L.length ≤ 100000) : FunW Try.prog 38 [] [fdbC m l, mpC clock L] [.s (.ptr 0 0 0)] fun r Hn => r = .s (.raw (.int .i64 (((L.map inc).filter (fun e => decide (l ≤ e.g))).length : Int))) ∧ Hn = [fdbC m l, mpC clock (tickL l L)] := by
  refine funW_of fun X => ?_
  have c68 := f68_69 m l clock (L.map inc) (inc_ND hn) (inc_NDs hs) (fun e he => by obtain ⟨x, hx, rfl⟩ := List.mem_map.1 he; exact hc x hx) (by simpa using hb)
  refine callK_inline (rs := [.tmp 2]) (n := 30) Try.func38 rfl rfl rfl (by kernel_rfl) (by kernel_rfl) (by simp only [List.length_cons, List.length_nil]; decide) ?_
  unfold fdbC mpC bxC at c68
  unfold fdbC mpC
  repeat' first
    | with_reducible rfl
    | simp only [*, e_nil, e_cons, e_gd, e_gdt, e_gdf, e_g0, e_g1, e_op, e_step, e_stepG, e_stepN, e_clo, e_cloF, e_ret, e_put, e_junk, e_skip, e_reg, e_draw, e_seq, e_cond, e_block, e_exit, e_r, e_label, e_loop, q_sn, q_sr, q_se, q_bn, q_br, q_be, q_rr, q_rn, e_res0, e_res1, e_res2, e_b, d_nil, d_cons, d_op, d_step, d_stepG, d_stepN, d_clo, d_cloF, d_ret, d_put, d_junk, d_inf, d_fin, g_not, g_and, argsTM, stepE, stBuiltin, stBox, stAlloc, stLoad, stStore, stField, stExtract, stBin, stUn, stConv, stNilCheck, stFieldV, stIndex, stIndexAddr, stLen, stMin, stMax, stBuild, fillI, stBuildSlice, setRows, stMakeSlice, stAppend, srcR, segR, rdCells, stSlice, bnd, stArr, stCopy, stConv2, isIntV, cutR, byteRows, rowByte, binStr, Option.map_some, Option.map_none, eq_self, canTL, canT, canH, canL, patL, gcH, gcT, gcI, get_gcT, mapC, pullS, pullI, pushS, push1, pushI, pushC, pullHW, roC, ix, List.map_map, Function.comp_def, List.zip_cons_cons, List.zip_nil_left, List.zip_nil_right, List.range'_zero, List.range'_succ, rd, get, put, IV.cells, ofValue, seg, spl, ldIV, binInt, eqI, cellsEq, leafEq, resI, flat, isT, upd, up1, nextM, cR, ptrC, nAl, isAl, List.length_cons, List.length_nil, List.length_append, List.length_replicate, List.length_set, Nat.reduceAdd, Nat.reduceMul, Nat.reduceEqDiff, Nat.reduceLeDiff, Nat.zero_add, Nat.add_zero, ne_eq, reduceCtorEq, not_false_eq_true, not_true_eq_false, reduceIte, true_and, and_true, and_false, false_and, and_self, List.nil_append, List.cons_append, List.append_nil, List.getElem?_cons_zero, List.getElem?_cons_succ, List.drop_succ_cons, List.drop_zero, List.take_succ_cons, List.take_zero, List.set_cons_zero, List.set_cons_succ, List.getElem?_toArray, Option.bind_some, Bool.false_eq_true, Nat.add_one_ne_zero, Nat.succ_ne_self, List.map_cons, List.map_nil, Bool.not_true, Bool.not_false, List.replicate_succ, List.replicate_zero, List.mem_cons, List.not_mem_nil, or_false, false_or, or_true, true_or, forall_const, false_implies, implies_true, true_implies, Int.reduceToNat, Int.reduceLE, Int.reduceLT, Int.cast_ofNat_Int, bne, Int.reduceEq, Int.reduceNe, Int.reduceNeg, Int.reduceAdd, Int.reduceSub, Int.reduceMul, beq_self_eq_true, Int.reduceBEq, Int.reduceBNe, Bool.true_and, Bool.false_and, Bool.and_true, Bool.and_false, Bool.true_or, Bool.false_or, Bool.or_true, Bool.or_false, Nat.reduceLT, Nat.reduceSub, Nat.zero_min, Nat.min_zero, Nat.min_self, List.flatMap_cons, List.flatMap_nil, Int.toNat_natCast, strEq_self, Bool.not_eq_true', decide_true, decide_false, WLS, Try.underlying83, ty_ag_140, ty_ag_146, ty_ag_3, ty_ag_59, ty_ag_83, ty_of_142_2, ty_of_146_1, ty_sz_140, ty_sz_146, ty_sz_3, ty_sz_59, ty_sz_83, ty_ze_146, ty_ze_59]
    | with_reducible refine gdb_split (fun h => ?_) (fun h => ?_)
    | (with_reducible refine drawK_id ?_); refine drawK_auto hmix (by kernel_rfl) ?_
    | (with_reducible refine draw_fin ?_ ?_); · kernel_rfl
    | (with_reducible refine draw_id ?_); kernel_rfl
    | ((with_reducible refine genK_id ?_); refine range_gen ty_mp rfl rfl ?_)
    | (with_reducible refine And.intro ?_ ?_; · omega)
  refine loopK_wk (by kernel_rfl) (I38 m l clock L) L.length ⟨_, _, Wk.refl, [], L, rfl, by simp, rfl, rfl, ?_⟩ ?_
  · simp only [List.map_nil, incL_nil]; rfl
  rintro mm tm H ⟨M, R, rfl, hp, g1, g11, rfl⟩
  unfold fdbC mpC bxC
  repeat' first
    | with_reducible rfl
    | simp only [g1, g11, e_nil, e_cons, e_gd, e_gdt, e_gdf, e_g0, e_g1, e_op, e_step, e_stepG, e_stepN, e_clo, e_cloF, e_ret, e_put, e_junk, e_skip, e_reg, e_draw, e_seq, e_cond, e_block, e_exit, e_r, e_label, e_loop, q_sn, q_sr, q_se, q_bn, q_br, q_be, q_rr, q_rn, e_res0, e_res1, e_res2, e_b, d_nil, d_cons, d_op, d_step, d_stepG, d_stepN, d_clo, d_cloF, d_ret, d_put, d_junk, d_inf, d_fin, g_not, g_and, argsTM, stepE, stBuiltin, stBox, stAlloc, stLoad, stStore, stField, stExtract, stBin, stUn, stConv, stNilCheck, stFieldV, stIndex, stIndexAddr, stLen, stMin, stMax, stBuild, fillI, stBuildSlice, setRows, stMakeSlice, stAppend, srcR, segR, rdCells, stSlice, bnd, stArr, stCopy, stConv2, isIntV, cutR, byteRows, rowByte, binStr, Option.map_some, Option.map_none, eq_self, canTL, canT, canH, canL, patL, gcH, gcT, gcI, get_gcT, mapC, pullS, pullI, pushS, push1, pushI, pushC, pullHW, roC, ix, List.map_map, Function.comp_def, List.zip_cons_cons, List.zip_nil_left, List.zip_nil_right, List.range'_zero, List.range'_succ, rd, get, put, IV.cells, ofValue, seg, spl, ldIV, binInt, eqI, cellsEq, leafEq, resI, flat, isT, upd, up1, nextM, cR, ptrC, nAl, isAl, List.length_cons, List.length_nil, List.length_append, List.length_replicate, List.length_set, Nat.reduceAdd, Nat.reduceMul, Nat.reduceEqDiff, Nat.reduceLeDiff, Nat.zero_add, Nat.add_zero, ne_eq, reduceCtorEq, not_false_eq_true, not_true_eq_false, reduceIte, true_and, and_true, and_false, false_and, and_self, List.nil_append, List.cons_append, List.append_nil, List.getElem?_cons_zero, List.getElem?_cons_succ, List.drop_succ_cons, List.drop_zero, List.take_succ_cons, List.take_zero, List.set_cons_zero, List.set_cons_succ, List.getElem?_toArray, Option.bind_some, Bool.false_eq_true, Nat.add_one_ne_zero, Nat.succ_ne_self, List.map_cons, List.map_nil, Bool.not_true, Bool.not_false, List.replicate_succ, List.replicate_zero, List.mem_cons, List.not_mem_nil, or_false, false_or, or_true, true_or, forall_const, false_implies, implies_true, true_implies, Int.reduceToNat, Int.reduceLE, Int.reduceLT, Int.cast_ofNat_Int, bne, Int.reduceEq, Int.reduceNe, Int.reduceNeg, Int.reduceAdd, Int.reduceSub, Int.reduceMul, beq_self_eq_true, Int.reduceBEq, Int.reduceBNe, Bool.true_and, Bool.false_and, Bool.and_true, Bool.and_false, Bool.true_or, Bool.false_or, Bool.or_true, Bool.or_false, Nat.reduceLT, Nat.reduceSub, Nat.zero_min, Nat.min_zero, Nat.min_self, List.flatMap_cons, List.flatMap_nil, Int.toNat_natCast, strEq_self, Bool.not_eq_true', decide_true, decide_false, WLS, Try.underlying83, ty_ag_140, ty_ag_146, ty_ag_3, ty_ag_59, ty_ag_83, ty_of_142_2, ty_of_146_1, ty_sz_140, ty_sz_146, ty_sz_3, ty_sz_59, ty_sz_83, ty_ze_146, ty_ze_59]
    | with_reducible refine gdb_split (fun h => ?_) (fun h => ?_)
    | (with_reducible refine drawK_id ?_); refine drawK_auto hmix (by kernel_rfl) ?_
    | (with_reducible refine draw_fin ?_ ?_); · kernel_rfl
    | (with_reducible refine draw_id ?_); kernel_rfl
    | (with_reducible refine And.intro ?_ ?_; · omega)
  have hnL : NDs (M ++ R) := ((hp.map fun e : EN => e.s).nodup_iff.2 (show (L.map fun e : EN => e.s).Nodup from hs) : ((M ++ R).map fun e : EN => e.s).Nodup)
  have hMR : ∀ y ∈ R, y.s ∉ M.map (·.s) := fun y hy h => by
    unfold NDs at hnL
    rw [List.map_append, List.nodup_append] at hnL
    exact hnL.2.2 _ h _ (List.mem_map.2 ⟨y, hy, rfl⟩) rfl
  refine next_gen (c := 3) (m := 1) (seen := M.map (·.s)) (by simp only [rd, g11]) rfl rfl (fun y hy => by obtain ⟨x, hx, rfl⟩ := List.mem_map.1 hy; obtain ⟨e, he, h⟩ := incL_mem hx; show x.s < clock; rw [h]; exact hc e he) (Nat.le_refl _) (fun hall => ?_) (fun y hy hns => ?_)
  · have hR : R = [] := by
      cases R with
      | nil => rfl
      | cons y R' =>
        exfalso
        have hyL : y ∈ L := hp.mem_iff.1 (by simp)
        have h1 := hMR y (by simp)
        exact h1 (hall (mE y) (List.mem_map.2 ⟨y, List.mem_map.2 ⟨y, hyL, by rw [if_neg h1]⟩, rfl⟩))
    subst hR
    rw [List.append_nil] at hp
    rw [incL_all L (seen := M.map (·.s)) fun e he => List.mem_map.2 ⟨e, hp.mem_iff.2 he, rfl⟩]
    repeat' first
      | with_reducible rfl
      | simp only [g1, g11, push_one, pull_one, kC_push, kC_pull, mE_k, mE_v, mE_fold, kC_len, e_nil, e_cons, e_gd, e_gdt, e_gdf, e_g0, e_g1, e_op, e_step, e_stepG, e_stepN, e_clo, e_cloF, e_ret, e_put, e_junk, e_skip, e_reg, e_draw, e_seq, e_cond, e_block, e_exit, e_r, e_label, e_loop, q_sn, q_sr, q_se, q_bn, q_br, q_be, q_rr, q_rn, e_res0, e_res1, e_res2, e_b, d_nil, d_cons, d_op, d_step, d_stepG, d_stepN, d_clo, d_cloF, d_ret, d_put, d_junk, d_inf, d_fin, g_not, g_and, argsTM, stepE, stBuiltin, stBox, stAlloc, stLoad, stStore, stField, stExtract, stBin, stUn, stConv, stNilCheck, stFieldV, stIndex, stIndexAddr, stLen, stMin, stMax, stBuild, fillI, stBuildSlice, setRows, stMakeSlice, stAppend, srcR, segR, rdCells, stSlice, bnd, stArr, stCopy, stConv2, isIntV, cutR, byteRows, rowByte, binStr, Option.map_some, Option.map_none, eq_self, canTL, canT, canH, canL, patL, gcH, gcT, gcI, get_gcT, mapC, pullS, pullI, pushS, push1, pushI, pushC, pullHW, roC, ix, List.map_map, Function.comp_def, List.zip_cons_cons, List.zip_nil_left, List.zip_nil_right, List.range'_zero, List.range'_succ, rd, get, put, IV.cells, ofValue, seg, spl, ldIV, binInt, eqI, cellsEq, leafEq, resI, flat, isT, upd, up1, nextM, cR, ptrC, nAl, isAl, List.length_cons, List.length_nil, List.length_append, List.length_replicate, List.length_set, Nat.reduceAdd, Nat.reduceMul, Nat.reduceEqDiff, Nat.reduceLeDiff, Nat.zero_add, Nat.add_zero, ne_eq, reduceCtorEq, not_false_eq_true, not_true_eq_false, reduceIte, true_and, and_true, and_false, false_and, and_self, List.nil_append, List.cons_append, List.append_nil, List.getElem?_cons_zero, List.getElem?_cons_succ, List.drop_succ_cons, List.drop_zero, List.take_succ_cons, List.take_zero, List.set_cons_zero, List.set_cons_succ, List.getElem?_toArray, Option.bind_some, Bool.false_eq_true, Nat.add_one_ne_zero, Nat.succ_ne_self, List.map_cons, List.map_nil, Bool.not_true, Bool.not_false, List.replicate_succ, List.replicate_zero, List.mem_cons, List.not_mem_nil, or_false, false_or, or_true, true_or, forall_const, false_implies, implies_true, true_implies, Int.reduceToNat, Int.reduceLE, Int.reduceLT, Int.cast_ofNat_Int, bne, Int.reduceEq, Int.reduceNe, Int.reduceNeg, Int.reduceAdd, Int.reduceSub, Int.reduceMul, beq_self_eq_true, Int.reduceBEq, Int.reduceBNe, Bool.true_and, Bool.false_and, Bool.and_true, Bool.and_false, Bool.true_or, Bool.false_or, Bool.or_true, Bool.or_false, Nat.reduceLT, Nat.reduceSub, Nat.zero_min, Nat.min_zero, Nat.min_self, List.flatMap_cons, List.flatMap_nil, Int.toNat_natCast, strEq_self, Bool.not_eq_true', decide_true, decide_false, WLS, Try.underlying83, ty_ag_140, ty_ag_146, ty_ag_3, ty_ag_59, ty_ag_83, ty_of_142_2, ty_of_146_1, ty_sz_140, ty_sz_146, ty_sz_3, ty_sz_59, ty_sz_83, ty_ze_146, ty_ze_59]
      | with_reducible refine gdb_split (fun h => ?_) (fun h => ?_)
      | (with_reducible refine drawK_id ?_); refine drawK_auto hmix (by kernel_rfl) ?_
      | (with_reducible refine draw_fin ?_ ?_); · kernel_rfl
      | (with_reducible refine draw_id ?_); kernel_rfl
      | ((with_reducible refine genK_id ?_); refine makeFunc_gen rfl (by simp [rd, put, get, g1, flat, isT]) ?_)
      | ((with_reducible refine callK_id (f := 68) ?_); refine callK_funW [] [0, 1, 2, 4] (c68) (by simp [pullHW, Function.comp_def, rows_pull, clo_pull, pullS, ix, mapC, pullI, kC_pull, mE_k, mE_v, mE_fold]) rfl rfl (by decide) (by simp) (by simp [pullI, pullS, ix]) ?_; rintro r Hn ⟨rfl, rfl⟩ -; skip)
      | exact ⟨_, _, WkR.gc [0, 1] rfl (by decide), by simp [gcH], by simp [gcI, pullI, pullS], by (simp [gcH, rows_pull, pullS, pullI, ix, Function.comp_def, mapC, kC_pull, mE_k, mE_v, mE_fold, tickL])⟩
      | (with_reducible refine And.intro ?_ ?_; · omega)
  · obtain ⟨e0, he0, rfl⟩ := List.mem_map.1 hy
    obtain ⟨e, heL, he1⟩ := List.mem_map.1 he0
    have hes : e0.s = e.s := by rw [← he1]; split <;> rfl
    have hns2 : e.s ∉ M.map (·.s) := by rw [← hes]; exact hns
    rw [if_neg hns2] at he1
    subst he1
    have heR : e ∈ R := by
      rcases List.mem_append.1 (hp.mem_iff.2 heL) with h | h
      · exact absurd (List.mem_map.2 ⟨e, h, rfl⟩) hns2
      · exact h
    obtain ⟨R1, R2, rfl⟩ := List.append_of_mem heR
    have hp2 : ((M ++ [e]) ++ (R1 ++ R2)).Perm L := by
      refine List.Perm.trans ?_ hp
      rw [List.append_assoc]
      exact List.Perm.append_left _ (show (e :: (R1 ++ R2)).Perm (R1 ++ e :: R2) from List.perm_middle.symm)
    obtain ⟨l1, l2, hsp, hnx⟩ := inc_one hs heL (seen := M.map (·.s)) hns2
    have hsub : ∀ z ∈ l1 ++ l2, z.k ≠ e.k := fun z hz h => by
      have hnr : ((incL L (M.map (·.s))).map fun e : EN => e.k).Nodup := by rw [incL_k]; exact hn
      rw [hsp, List.map_append, List.map_cons, List.nodup_append] at hnr
      rcases List.mem_append.1 hz with hz | hz
      · exact hnr.2.2 _ (List.mem_map.2 ⟨z, hz, rfl⟩) _ (by simp) h
      · exact (List.nodup_cons.1 hnr.2.1).1 (List.mem_map.2 ⟨z, hz, h⟩)
    have hsh := shp (l1 ++ e :: l2)
    have h2 := noK e.k _ hsub
    have hh := hitK e.k
    rw [List.map_append, List.map_cons] at hsh
    rw [List.map_append] at h2
    have hme : mE e ∈ List.map mE l1 ++ mE e :: List.map mE l2 := by simp
    simp only [hsp, List.map_append, List.map_cons, List.set_cons_succ, List.set_cons_zero]
    repeat' first
      | with_reducible rfl
      | simp only [g1, g11, push_one, pull_one, kC_push, kC_pull, mE_k, mE_v, mE_fold, kC_len, e_nil, e_cons, e_gd, e_gdt, e_gdf, e_g0, e_g1, e_op, e_step, e_stepG, e_stepN, e_clo, e_cloF, e_ret, e_put, e_junk, e_skip, e_reg, e_draw, e_seq, e_cond, e_block, e_exit, e_r, e_label, e_loop, q_sn, q_sr, q_se, q_bn, q_br, q_be, q_rr, q_rn, e_res0, e_res1, e_res2, e_b, d_nil, d_cons, d_op, d_step, d_stepG, d_stepN, d_clo, d_cloF, d_ret, d_put, d_junk, d_inf, d_fin, g_not, g_and, argsTM, stepE, stBuiltin, stBox, stAlloc, stLoad, stStore, stField, stExtract, stBin, stUn, stConv, stNilCheck, stFieldV, stIndex, stIndexAddr, stLen, stMin, stMax, stBuild, fillI, stBuildSlice, setRows, stMakeSlice, stAppend, srcR, segR, rdCells, stSlice, bnd, stArr, stCopy, stConv2, isIntV, cutR, byteRows, rowByte, binStr, Option.map_some, Option.map_none, eq_self, canTL, canT, canH, canL, patL, gcH, gcT, gcI, get_gcT, mapC, pullS, pullI, pushS, push1, pushI, pushC, pullHW, roC, ix, List.map_map, Function.comp_def, List.zip_cons_cons, List.zip_nil_left, List.zip_nil_right, List.range'_zero, List.range'_succ, rd, get, put, IV.cells, ofValue, seg, spl, ldIV, binInt, eqI, cellsEq, leafEq, resI, flat, isT, upd, up1, nextM, cR, ptrC, nAl, isAl, List.length_cons, List.length_nil, List.length_append, List.length_replicate, List.length_set, Nat.reduceAdd, Nat.reduceMul, Nat.reduceEqDiff, Nat.reduceLeDiff, Nat.zero_add, Nat.add_zero, ne_eq, reduceCtorEq, not_false_eq_true, not_true_eq_false, reduceIte, true_and, and_true, and_false, false_and, and_self, List.nil_append, List.cons_append, List.append_nil, List.getElem?_cons_zero, List.getElem?_cons_succ, List.drop_succ_cons, List.drop_zero, List.take_succ_cons, List.take_zero, List.set_cons_zero, List.set_cons_succ, List.getElem?_toArray, Option.bind_some, Bool.false_eq_true, Nat.add_one_ne_zero, Nat.succ_ne_self, List.map_cons, List.map_nil, Bool.not_true, Bool.not_false, List.replicate_succ, List.replicate_zero, List.mem_cons, List.not_mem_nil, or_false, false_or, or_true, true_or, forall_const, false_implies, implies_true, true_implies, Int.reduceToNat, Int.reduceLE, Int.reduceLT, Int.cast_ofNat_Int, bne, Int.reduceEq, Int.reduceNe, Int.reduceNeg, Int.reduceAdd, Int.reduceSub, Int.reduceMul, beq_self_eq_true, Int.reduceBEq, Int.reduceBNe, Bool.true_and, Bool.false_and, Bool.and_true, Bool.and_false, Bool.true_or, Bool.false_or, Bool.or_true, Bool.or_false, Nat.reduceLT, Nat.reduceSub, Nat.zero_min, Nat.min_zero, Nat.min_self, List.flatMap_cons, List.flatMap_nil, Int.toNat_natCast, strEq_self, Bool.not_eq_true', decide_true, decide_false, WLS, Try.underlying83, ty_ag_140, ty_ag_146, ty_ag_3, ty_ag_59, ty_ag_83, ty_of_142_2, ty_of_146_1, ty_sz_140, ty_sz_146, ty_sz_3, ty_sz_59, ty_sz_83, ty_ze_146, ty_ze_59]
      | with_reducible refine gdb_split (fun h => ?_) (fun h => ?_)
      | (with_reducible refine drawK_id ?_); refine drawK_auto hmix (by kernel_rfl) ?_
      | (with_reducible refine draw_fin ?_ ?_); · kernel_rfl
      | (with_reducible refine draw_id ?_); kernel_rfl
      | ((with_reducible refine genK_id ?_); refine entry_gen (c := 3) (m := 1) (e := mE e) (st := (mE e).2.2) (by simp [rd, put, get, g11]) rfl rfl hme rfl ?_)
      | ((with_reducible refine genD_id ?_); refine updD_old ty_mp ty_lk rfl rfl (sh_k _) rfl (fun _ h => by cases h) rfl hsh hh h2 ?_)
      | (with_reducible refine And.intro ?_ ?_; · omega)
    refine ⟨R1.length + R2.length, _, _, by simp, Wk.gc [0, 1, 2, 3] rfl (by decide), M ++ [e], R1 ++ R2, by simp, hp2, ?_, ?_, ?_⟩ <;> first | with_reducible rfl | (simp [Function.comp_def, get_gcT, get, put, gcI, pullI, pullS, gcH, patL, canL, canH, canTL, canT, segR, rows_pull, iter_pull, ix, g1, g11]; done) | (simp only [List.map_append, List.map_cons, List.map_nil, hnx]; simp [Function.comp_def, get_gcT, get, put, gcI, pullI, pullS, gcH, patL, canL, canH, canTL, canT, segR, rows_pull, iter_pull, ix, fdbC, mpC, bxC, mapC, kC_pull, mE_k, mE_v, mE_fold]; done) | (simp only [List.map_append, List.map_cons, List.map_nil, hnx]; simp [Function.comp_def, get_gcT, get, put, gcI, pullI, pullS, gcH, patL, canL, canH, canTL, canT, segR, rows_pull, iter_pull, ix, fdbC, mpC, bxC, mapC, kC_pull, mE_k, mE_v, mE_fold]; exact ⟨rfl, rfl⟩)
end Go.Ev
