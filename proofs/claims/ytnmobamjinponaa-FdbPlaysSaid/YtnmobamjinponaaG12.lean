/- A part of the proof: contracts of the functions that the statement reaches. -/
import Derived.Test.YtnmobamjinponaaG11
namespace Go.Ev
open Go.Proofs
set_option maxRecDepth 100000
set_option linter.unusedSimpArgs false
set_option linter.unusedVariables false
set_option maxHeartbeats 4000000
theorem clo_pull (f : SV → SV) (g : IV → IV) (fn : Fn) (a b : List IV) : mapC f g (.clo fn a b) = .clo fn (a.map g) (b.map g) := rfl
/-- What is left of a map while it is ranged over and some entries are taken out: those seen that are taken are gone. -/
def remL (tk : EN → Bool) (L : List EN) (seen : List Nat) : List EN := L.filter fun e => !(decide (e.s ∈ seen) && tk e)
theorem remL_nil (tk : EN → Bool) (L : List EN) : remL tk L [] = L := by simp [remL]
theorem rem_one {tk : EN → Bool} {L : List EN} (hs : NDs L) {e : EN} (he : e ∈ L) {seen : List Nat} (hn : e.s ∉ seen) :
    ∃ l1 l2, remL tk L seen = l1 ++ e :: l2 ∧ remL tk L (seen ++ [e.s]) = if tk e then l1 ++ l2 else l1 ++ e :: l2 := by
  obtain ⟨l1, l2, rfl⟩ := List.append_of_mem he
  have hd : ∀ x ∈ l1 ++ l2, x.s ≠ e.s := fun x hx h => by
    unfold NDs at hs
    rw [List.map_append, List.map_cons, List.nodup_append] at hs
    rcases List.mem_append.1 hx with hx | hx
    · exact hs.2.2 _ (List.mem_map.2 ⟨x, hx, rfl⟩) _ (by simp) h
    · exact (List.nodup_cons.1 hs.2.1).1 (List.mem_map.2 ⟨x, hx, h⟩)
  have same : ∀ l : List EN, (∀ x ∈ l, x.s ≠ e.s) → remL tk l (seen ++ [e.s]) = remL tk l seen := fun l h => by
    unfold remL
    refine List.filter_congr fun x hx => ?_
    have := h x hx
    simp [this]
  refine ⟨remL tk l1 seen, remL tk l2 seen, ?_, ?_⟩
  · simp [remL, hn]
  · have a := same l1 fun x hx => hd x (by simp [hx])
    have b := same l2 fun x hx => hd x (by simp [hx])
    have c : remL tk (l1 ++ e :: l2) (seen ++ [e.s]) = remL tk l1 (seen ++ [e.s]) ++ ((if tk e then [] else [e]) ++ remL tk l2 (seen ++ [e.s])) := by
      cases htk : tk e <;> simp [remL, htk, List.filter_cons]
    rw [c, a, b]
    cases tk e <;> simp
theorem rem_all (tk : EN → Bool) (L : List EN) {seen : List Nat} (h : ∀ e ∈ L, e.s ∈ seen) : remL tk L seen = L.filter fun e => !tk e := by
  unfold remL
  refine List.filter_congr fun x hx => ?_
  simp [h x hx]
theorem rem_sub {tk : EN → Bool} {L : List EN} {seen : List Nat} {x : EN} (h : x ∈ remL tk L seen) : x ∈ L := (List.mem_filter.1 h).1
def bxC (x : SV) : Chunk := .rows true 1 [[x]]
def I68 (tk : EN → Bool) (g : Nat) (x : SV) (m l : Int) (clock : Nat) (L : List EN) (mm : Nat) (tm : TM) (H : Heap) : Prop := ∃ (M R : List EN), mm = R.length ∧ (M ++ R).Perm L ∧
  get tm 0 = .s (.ptr 0 0 0) ∧ get tm 1 = .s (.ref 3) ∧ get tm 14 = .s (.ref 4) ∧ get tm 5 = .s (.raw (.int .i64 ((M.filter tk).length : Int))) ∧
  H = [fdbC m l, mpC clock (remL tk L (M.map (·.s))), bxC x, .clo (.func g) [] [.s (.ptr 2 0 0)], .iter (.ref 1) clock (M.map (·.s)) clock]
theorem kC_0 (k : KEY) : List.take 1 (List.drop 0 (kC k)) = [.raw (.int .u16 k.v)] := rfl
theorem kC_0b (k : KEY) : List.take 1 (kC k) = [.raw (.int .u16 k.v)] := rfl
theorem f68_70 (m l : Int) (clock : Nat) (L : List EN) (hn : NDk L) (hs : NDs L) (hc : ∀ e ∈ L, e.s < clock) (hb : L.length ≤ 100000) (pt : Int) : FunW Try.prog 68 [] [fdbC m l, mpC clock L, bxC (.raw (.int .i64 pt)), .clo (.func 70) [] [.s (.ptr 2 0 0)]] [.s (.ptr 0 0 0), .s (.ref 3)] fun r Hn => r = .s (.raw (.int .i64 ((L.filter (fun e => e.p == pt)).length : Int))) ∧ Hn = [fdbC m l, mpC clock (L.filter fun e => !(fun e => e.p == pt) e), bxC (.raw (.int .i64 pt)), .clo (.func 70) [] [.s (.ptr 2 0 0)]] := by
  refine funW_of fun X => ?_
  refine callK_inline (rs := [.tmp 4]) (n := 32) Try.func68 rfl rfl rfl (by kernel_rfl) (by kernel_rfl) (by simp only [List.length_cons, List.length_nil]; decide) ?_
  unfold fdbC mpC bxC
  repeat' first
    | with_reducible rfl
    | simp only [*, e_nil, e_cons, e_gd, e_gdt, e_gdf, e_g0, e_g1, e_op, e_step, e_stepG, e_stepN, e_clo, e_cloF, e_ret, e_put, e_junk, e_skip, e_reg, e_draw, e_seq, e_cond, e_block, e_exit, e_r, e_label, e_loop, q_sn, q_sr, q_se, q_bn, q_br, q_be, q_rr, q_rn, e_res0, e_res1, e_res2, e_b, d_nil, d_cons, d_op, d_step, d_stepG, d_stepN, d_clo, d_cloF, d_ret, d_put, d_junk, d_inf, d_fin, g_not, g_and, argsTM, stepE, stBuiltin, stBox, stAlloc, stLoad, stStore, stField, stExtract, stBin, stUn, stConv, stNilCheck, stFieldV, stIndex, stIndexAddr, stLen, stMin, stMax, stBuild, fillI, stBuildSlice, setRows, stMakeSlice, stAppend, srcR, segR, rdCells, stSlice, bnd, stArr, stCopy, stConv2, isIntV, cutR, byteRows, rowByte, binStr, Option.map_some, Option.map_none, eq_self, canTL, canT, canH, canL, patL, gcH, gcT, gcI, get_gcT, mapC, pullS, pullI, pushS, push1, pushI, pushC, pullHW, roC, ix, List.map_map, Function.comp_def, List.zip_cons_cons, List.zip_nil_left, List.zip_nil_right, List.range'_zero, List.range'_succ, rd, get, put, IV.cells, ofValue, seg, spl, ldIV, binInt, eqI, cellsEq, leafEq, resI, flat, isT, upd, up1, nextM, cR, ptrC, nAl, isAl, List.length_cons, List.length_nil, List.length_append, List.length_replicate, List.length_set, Nat.reduceAdd, Nat.reduceMul, Nat.reduceEqDiff, Nat.reduceLeDiff, Nat.zero_add, Nat.add_zero, ne_eq, reduceCtorEq, not_false_eq_true, not_true_eq_false, reduceIte, true_and, and_true, and_false, false_and, and_self, List.nil_append, List.cons_append, List.append_nil, List.getElem?_cons_zero, List.getElem?_cons_succ, List.drop_succ_cons, List.drop_zero, List.take_succ_cons, List.take_zero, List.set_cons_zero, List.set_cons_succ, List.getElem?_toArray, Option.bind_some, Bool.false_eq_true, Nat.add_one_ne_zero, Nat.succ_ne_self, List.map_cons, List.map_nil, Bool.not_true, Bool.not_false, List.replicate_succ, List.replicate_zero, List.mem_cons, List.not_mem_nil, or_false, false_or, or_true, true_or, forall_const, false_implies, implies_true, true_implies, Int.reduceToNat, Int.reduceLE, Int.reduceLT, Int.cast_ofNat_Int, bne, Int.reduceEq, Int.reduceNe, Int.reduceNeg, Int.reduceAdd, Int.reduceSub, Int.reduceMul, beq_self_eq_true, Int.reduceBEq, Int.reduceBNe, Bool.true_and, Bool.false_and, Bool.and_true, Bool.and_false, Bool.true_or, Bool.false_or, Bool.or_true, Bool.or_false, Nat.reduceLT, Nat.reduceSub, Nat.zero_min, Nat.min_zero, Nat.min_self, List.flatMap_cons, List.flatMap_nil, Int.toNat_natCast, strEq_self, Bool.not_eq_true', decide_true, decide_false, WLS, Try.underlying83, ty_ag_140, ty_ag_146, ty_ag_59, ty_of_142_2, ty_sz_140, ty_sz_146, ty_sz_59, ty_ze_146, ty_ze_59]
    | with_reducible refine gdb_split (fun h => ?_) (fun h => ?_)
    | (with_reducible refine drawK_id ?_); refine drawK_auto hmix (by kernel_rfl) ?_
    | (with_reducible refine draw_fin ?_ ?_); · kernel_rfl
    | (with_reducible refine draw_id ?_); kernel_rfl
    | ((with_reducible refine genK_id ?_); refine range_gen ty_mp rfl rfl ?_)
    | (with_reducible refine And.intro ?_ ?_; · omega)
  refine loopK_wk (by kernel_rfl) (I68 (fun e => e.p == pt) 70 (.raw (.int .i64 pt)) m l clock L) L.length ⟨_, _, Wk.refl, [], L, rfl, by simp, rfl, rfl, rfl, rfl, ?_⟩ ?_
  · simp only [List.map_nil, remL_nil]; rfl
  rintro mm tm H ⟨M, R, rfl, hp, g0, g1, g14, g5, rfl⟩
  unfold fdbC mpC bxC
  repeat' first
    | with_reducible rfl
    | simp only [g0, g1, g14, g5, e_nil, e_cons, e_gd, e_gdt, e_gdf, e_g0, e_g1, e_op, e_step, e_stepG, e_stepN, e_clo, e_cloF, e_ret, e_put, e_junk, e_skip, e_reg, e_draw, e_seq, e_cond, e_block, e_exit, e_r, e_label, e_loop, q_sn, q_sr, q_se, q_bn, q_br, q_be, q_rr, q_rn, e_res0, e_res1, e_res2, e_b, d_nil, d_cons, d_op, d_step, d_stepG, d_stepN, d_clo, d_cloF, d_ret, d_put, d_junk, d_inf, d_fin, g_not, g_and, argsTM, stepE, stBuiltin, stBox, stAlloc, stLoad, stStore, stField, stExtract, stBin, stUn, stConv, stNilCheck, stFieldV, stIndex, stIndexAddr, stLen, stMin, stMax, stBuild, fillI, stBuildSlice, setRows, stMakeSlice, stAppend, srcR, segR, rdCells, stSlice, bnd, stArr, stCopy, stConv2, isIntV, cutR, byteRows, rowByte, binStr, Option.map_some, Option.map_none, eq_self, canTL, canT, canH, canL, patL, gcH, gcT, gcI, get_gcT, mapC, pullS, pullI, pushS, push1, pushI, pushC, pullHW, roC, ix, List.map_map, Function.comp_def, List.zip_cons_cons, List.zip_nil_left, List.zip_nil_right, List.range'_zero, List.range'_succ, rd, get, put, IV.cells, ofValue, seg, spl, ldIV, binInt, eqI, cellsEq, leafEq, resI, flat, isT, upd, up1, nextM, cR, ptrC, nAl, isAl, List.length_cons, List.length_nil, List.length_append, List.length_replicate, List.length_set, Nat.reduceAdd, Nat.reduceMul, Nat.reduceEqDiff, Nat.reduceLeDiff, Nat.zero_add, Nat.add_zero, ne_eq, reduceCtorEq, not_false_eq_true, not_true_eq_false, reduceIte, true_and, and_true, and_false, false_and, and_self, List.nil_append, List.cons_append, List.append_nil, List.getElem?_cons_zero, List.getElem?_cons_succ, List.drop_succ_cons, List.drop_zero, List.take_succ_cons, List.take_zero, List.set_cons_zero, List.set_cons_succ, List.getElem?_toArray, Option.bind_some, Bool.false_eq_true, Nat.add_one_ne_zero, Nat.succ_ne_self, List.map_cons, List.map_nil, Bool.not_true, Bool.not_false, List.replicate_succ, List.replicate_zero, List.mem_cons, List.not_mem_nil, or_false, false_or, or_true, true_or, forall_const, false_implies, implies_true, true_implies, Int.reduceToNat, Int.reduceLE, Int.reduceLT, Int.cast_ofNat_Int, bne, Int.reduceEq, Int.reduceNe, Int.reduceNeg, Int.reduceAdd, Int.reduceSub, Int.reduceMul, beq_self_eq_true, Int.reduceBEq, Int.reduceBNe, Bool.true_and, Bool.false_and, Bool.and_true, Bool.and_false, Bool.true_or, Bool.false_or, Bool.or_true, Bool.or_false, Nat.reduceLT, Nat.reduceSub, Nat.zero_min, Nat.min_zero, Nat.min_self, List.flatMap_cons, List.flatMap_nil, Int.toNat_natCast, strEq_self, Bool.not_eq_true', decide_true, decide_false, WLS, Try.underlying83, ty_ag_140, ty_ag_146, ty_ag_59, ty_of_142_2, ty_sz_140, ty_sz_146, ty_sz_59, ty_ze_146, ty_ze_59]
    | with_reducible refine gdb_split (fun h => ?_) (fun h => ?_)
    | (with_reducible refine drawK_id ?_); refine drawK_auto hmix (by kernel_rfl) ?_
    | (with_reducible refine draw_fin ?_ ?_); · kernel_rfl
    | (with_reducible refine draw_id ?_); kernel_rfl
    | (with_reducible refine And.intro ?_ ?_; · omega)
  have hnL : NDs (M ++ R) := ((hp.map fun e : EN => e.s).nodup_iff.2 (show (L.map fun e : EN => e.s).Nodup from hs) : ((M ++ R).map fun e : EN => e.s).Nodup)
  have hMR : ∀ y ∈ R, y.s ∉ M.map (·.s) := fun y hy h => by
    unfold NDs at hnL
    rw [List.map_append, List.nodup_append] at hnL
    exact hnL.2.2 _ h _ (List.mem_map.2 ⟨y, hy, rfl⟩) rfl
  refine next_gen (c := 4) (m := 1) (seen := M.map (·.s)) (by simp only [rd, g14]) rfl rfl (fun y hy => by obtain ⟨e, he, rfl⟩ := List.mem_map.1 hy; exact hc e (rem_sub he)) (Nat.le_refl _) (fun hall => ?_) (fun y hy hns => ?_)
  · have hR : R = [] := by
      cases R with
      | nil => rfl
      | cons y R' =>
        exfalso
        have hyL : y ∈ L := hp.mem_iff.1 (by simp)
        have h1 := hMR y (by simp)
        exact h1 (hall (mE y) (List.mem_map.2 ⟨y, List.mem_filter.2 ⟨hyL, by simp [h1]⟩, rfl⟩))
    subst hR
    rw [List.append_nil] at hp
    have hlen := (hp.filter (fun e => e.p == pt)).length_eq
    rw [rem_all (fun e => e.p == pt) L (seen := M.map (·.s)) fun e he => List.mem_map.2 ⟨e, hp.mem_iff.2 he, rfl⟩]
    repeat' first
      | with_reducible rfl
      | simp only [g0, g1, g14, g5, e_nil, e_cons, e_gd, e_gdt, e_gdf, e_g0, e_g1, e_op, e_step, e_stepG, e_stepN, e_clo, e_cloF, e_ret, e_put, e_junk, e_skip, e_reg, e_draw, e_seq, e_cond, e_block, e_exit, e_r, e_label, e_loop, q_sn, q_sr, q_se, q_bn, q_br, q_be, q_rr, q_rn, e_res0, e_res1, e_res2, e_b, d_nil, d_cons, d_op, d_step, d_stepG, d_stepN, d_clo, d_cloF, d_ret, d_put, d_junk, d_inf, d_fin, g_not, g_and, argsTM, stepE, stBuiltin, stBox, stAlloc, stLoad, stStore, stField, stExtract, stBin, stUn, stConv, stNilCheck, stFieldV, stIndex, stIndexAddr, stLen, stMin, stMax, stBuild, fillI, stBuildSlice, setRows, stMakeSlice, stAppend, srcR, segR, rdCells, stSlice, bnd, stArr, stCopy, stConv2, isIntV, cutR, byteRows, rowByte, binStr, Option.map_some, Option.map_none, eq_self, canTL, canT, canH, canL, patL, gcH, gcT, gcI, get_gcT, mapC, pullS, pullI, pushS, push1, pushI, pushC, pullHW, roC, ix, List.map_map, Function.comp_def, List.zip_cons_cons, List.zip_nil_left, List.zip_nil_right, List.range'_zero, List.range'_succ, rd, get, put, IV.cells, ofValue, seg, spl, ldIV, binInt, eqI, cellsEq, leafEq, resI, flat, isT, upd, up1, nextM, cR, ptrC, nAl, isAl, List.length_cons, List.length_nil, List.length_append, List.length_replicate, List.length_set, Nat.reduceAdd, Nat.reduceMul, Nat.reduceEqDiff, Nat.reduceLeDiff, Nat.zero_add, Nat.add_zero, ne_eq, reduceCtorEq, not_false_eq_true, not_true_eq_false, reduceIte, true_and, and_true, and_false, false_and, and_self, List.nil_append, List.cons_append, List.append_nil, List.getElem?_cons_zero, List.getElem?_cons_succ, List.drop_succ_cons, List.drop_zero, List.take_succ_cons, List.take_zero, List.set_cons_zero, List.set_cons_succ, List.getElem?_toArray, Option.bind_some, Bool.false_eq_true, Nat.add_one_ne_zero, Nat.succ_ne_self, List.map_cons, List.map_nil, Bool.not_true, Bool.not_false, List.replicate_succ, List.replicate_zero, List.mem_cons, List.not_mem_nil, or_false, false_or, or_true, true_or, forall_const, false_implies, implies_true, true_implies, Int.reduceToNat, Int.reduceLE, Int.reduceLT, Int.cast_ofNat_Int, bne, Int.reduceEq, Int.reduceNe, Int.reduceNeg, Int.reduceAdd, Int.reduceSub, Int.reduceMul, beq_self_eq_true, Int.reduceBEq, Int.reduceBNe, Bool.true_and, Bool.false_and, Bool.and_true, Bool.and_false, Bool.true_or, Bool.false_or, Bool.or_true, Bool.or_false, Nat.reduceLT, Nat.reduceSub, Nat.zero_min, Nat.min_zero, Nat.min_self, List.flatMap_cons, List.flatMap_nil, Int.toNat_natCast, strEq_self, Bool.not_eq_true', decide_true, decide_false, WLS, Try.underlying83, ty_ag_140, ty_ag_146, ty_ag_59, ty_of_142_2, ty_sz_140, ty_sz_146, ty_sz_59, ty_ze_146, ty_ze_59]
      | with_reducible refine gdb_split (fun h => ?_) (fun h => ?_)
      | (with_reducible refine drawK_id ?_); refine drawK_auto hmix (by kernel_rfl) ?_
      | (with_reducible refine draw_fin ?_ ?_); · kernel_rfl
      | (with_reducible refine draw_id ?_); kernel_rfl
      | exact ⟨_, _, WkR.gc [0, 1, 2, 3] rfl (by decide), by simp [gcH], by simp [gcI, pullI, pullS, hlen], by (simp [gcH, rows_pull, clo_pull, pullS, pullI, ix, Function.comp_def, mapC, kC_pull, mE_k, mE_v, mE_fold])⟩
      | (with_reducible refine And.intro ?_ ?_; · omega)
  · obtain ⟨e, he, rfl⟩ := List.mem_map.1 hy
    have heL : e ∈ L := rem_sub he
    have heR : e ∈ R := by
      rcases List.mem_append.1 (hp.mem_iff.2 heL) with h | h
      · exact absurd (List.mem_map.2 ⟨e, h, rfl⟩) hns
      · exact h
    obtain ⟨R1, R2, rfl⟩ := List.append_of_mem heR
    have hlen := hp.length_eq
    simp only [List.length_append, List.length_cons] at hlen
    have hMl : (M.filter (fun e => e.p == pt)).length ≤ M.length := List.length_filter_le _ _
    have hp2 : ((M ++ [e]) ++ (R1 ++ R2)).Perm L := by
      refine List.Perm.trans ?_ hp
      rw [List.append_assoc]
      exact List.Perm.append_left _ (show (e :: (R1 ++ R2)).Perm (R1 ++ e :: R2) from List.perm_middle.symm)
    obtain ⟨l1, l2, hsp, hnx⟩ := rem_one (tk := (fun e => e.p == pt)) hs heL (seen := M.map (·.s)) hns
    have hsub : ∀ z ∈ l1 ++ l2, z.k ≠ e.k := fun z hz h => by
      have hnr : ((remL (fun e => e.p == pt) L (M.map (·.s))).map fun e : EN => e.k).Nodup := (List.Sublist.map (fun e : EN => e.k) List.filter_sublist).nodup (show (L.map fun e : EN => e.k).Nodup from hn)
      rw [hsp, List.map_append, List.map_cons, List.nodup_append] at hnr
      rcases List.mem_append.1 hz with hz | hz
      · exact hnr.2.2 _ (List.mem_map.2 ⟨z, hz, rfl⟩) _ (by simp) h
      · exact (List.nodup_cons.1 hnr.2.1).1 (List.mem_map.2 ⟨z, hz, h⟩)
    have hsh := shp (l1 ++ e :: l2)
    have h2 := noK e.k _ hsub
    have hh := hitK e.k
    rw [List.map_append, List.map_cons] at hsh
    rw [List.map_append] at h2
    have hme : mE e ∈ List.map mE l1 ++ mE e :: List.map mE l2 := by simp
    have hw : IntKind.i64.wrap (((M.filter (fun e => e.p == pt)).length : Int) + 1) = (((M.filter (fun e => e.p == pt)).length + 1 : Nat) : Int) := by rw [wr_i64 (by omega) (by omega)]; rfl
    simp only [hsp, List.map_append, List.map_cons, List.set_cons_succ, List.set_cons_zero]
    cases htk : (e.p == pt) with
    | true =>
      have htk2 : (fun e => e.p == pt) e = true := htk
      rw [if_pos htk2] at hnx
      repeat' first
        | with_reducible rfl
        | simp only [g0, g1, g14, g5, push_one, pull_one, kC_push, kC_pull, mE_k, mE_v, mE_fold, kC_len, htk, hw, e_nil, e_cons, e_gd, e_gdt, e_gdf, e_g0, e_g1, e_op, e_step, e_stepG, e_stepN, e_clo, e_cloF, e_ret, e_put, e_junk, e_skip, e_reg, e_draw, e_seq, e_cond, e_block, e_exit, e_r, e_label, e_loop, q_sn, q_sr, q_se, q_bn, q_br, q_be, q_rr, q_rn, e_res0, e_res1, e_res2, e_b, d_nil, d_cons, d_op, d_step, d_stepG, d_stepN, d_clo, d_cloF, d_ret, d_put, d_junk, d_inf, d_fin, g_not, g_and, argsTM, stepE, stBuiltin, stBox, stAlloc, stLoad, stStore, stField, stExtract, stBin, stUn, stConv, stNilCheck, stFieldV, stIndex, stIndexAddr, stLen, stMin, stMax, stBuild, fillI, stBuildSlice, setRows, stMakeSlice, stAppend, srcR, segR, rdCells, stSlice, bnd, stArr, stCopy, stConv2, isIntV, cutR, byteRows, rowByte, binStr, Option.map_some, Option.map_none, eq_self, canTL, canT, canH, canL, patL, gcH, gcT, gcI, get_gcT, mapC, pullS, pullI, pushS, push1, pushI, pushC, pullHW, roC, ix, List.map_map, Function.comp_def, List.zip_cons_cons, List.zip_nil_left, List.zip_nil_right, List.range'_zero, List.range'_succ, rd, get, put, IV.cells, ofValue, seg, spl, ldIV, binInt, eqI, cellsEq, leafEq, resI, flat, isT, upd, up1, nextM, cR, ptrC, nAl, isAl, List.length_cons, List.length_nil, List.length_append, List.length_replicate, List.length_set, Nat.reduceAdd, Nat.reduceMul, Nat.reduceEqDiff, Nat.reduceLeDiff, Nat.zero_add, Nat.add_zero, ne_eq, reduceCtorEq, not_false_eq_true, not_true_eq_false, reduceIte, true_and, and_true, and_false, false_and, and_self, List.nil_append, List.cons_append, List.append_nil, List.getElem?_cons_zero, List.getElem?_cons_succ, List.drop_succ_cons, List.drop_zero, List.take_succ_cons, List.take_zero, List.set_cons_zero, List.set_cons_succ, List.getElem?_toArray, Option.bind_some, Bool.false_eq_true, Nat.add_one_ne_zero, Nat.succ_ne_self, List.map_cons, List.map_nil, Bool.not_true, Bool.not_false, List.replicate_succ, List.replicate_zero, List.mem_cons, List.not_mem_nil, or_false, false_or, or_true, true_or, forall_const, false_implies, implies_true, true_implies, Int.reduceToNat, Int.reduceLE, Int.reduceLT, Int.cast_ofNat_Int, bne, Int.reduceEq, Int.reduceNe, Int.reduceNeg, Int.reduceAdd, Int.reduceSub, Int.reduceMul, beq_self_eq_true, Int.reduceBEq, Int.reduceBNe, Bool.true_and, Bool.false_and, Bool.and_true, Bool.and_false, Bool.true_or, Bool.false_or, Bool.or_true, Bool.or_false, Nat.reduceLT, Nat.reduceSub, Nat.zero_min, Nat.min_zero, Nat.min_self, List.flatMap_cons, List.flatMap_nil, Int.toNat_natCast, strEq_self, Bool.not_eq_true', decide_true, decide_false, WLS, Try.underlying83, ty_ag_140, ty_ag_146, ty_ag_3, ty_ag_59, ty_of_142_2, ty_of_146_0, ty_sz_140, ty_sz_146, ty_sz_3, ty_sz_59, ty_ze_146, ty_ze_59]
        | with_reducible refine gdb_split (fun h => ?_) (fun h => ?_)
        | (with_reducible refine drawK_id ?_); refine drawK_auto hmix (by kernel_rfl) ?_
        | (with_reducible refine draw_fin ?_ ?_); · kernel_rfl
        | (with_reducible refine draw_id ?_); kernel_rfl
        | (with_reducible refine callK_id (f := 70) ?_); refine callK_inline (rs := [.tmp 5]) (n := 10) Try.func70 rfl rfl rfl (by kernel_rfl) (by kernel_rfl) (by simp only [List.length_cons, List.length_nil]; decide) ?_
        | ((with_reducible refine genK_id ?_); refine entry_gen (c := 4) (m := 1) (e := mE e) (st := (mE e).2.2) (by simp [rd, put, get, g14]) rfl rfl hme rfl ?_)
        | ((with_reducible refine genD_id ?_); refine deleteD_hit ty_mp ty_lk rfl rfl (sh_k _) rfl hsh hh h2 ?_)
        | (with_reducible refine And.intro ?_ ?_; · omega)
      refine ⟨R1.length + R2.length, _, _, by simp, Wk.gc [0, 1, 2, 3, 4] rfl (by decide), M ++ [e], R1 ++ R2, by simp, hp2, ?_, ?_, ?_, ?_, ?_⟩ <;> first | with_reducible rfl | (simp [Function.comp_def, get_gcT, get, put, gcI, pullI, pullS, gcH, patL, canL, canH, canTL, canT, segR, rows_pull, iter_pull, ix, g0, g1, g14, g5, List.filter_append, List.filter_cons, htk]; done) | (simp only [List.map_append, List.map_cons, List.map_nil, hnx]; simp [Function.comp_def, get_gcT, get, put, gcI, pullI, pullS, gcH, patL, canL, canH, canTL, canT, segR, rows_pull, iter_pull, ix, fdbC, mpC, bxC, clo_pull, mapC, kC_pull, mE_k, mE_v, mE_fold]; done) | (simp only [List.map_append, List.map_cons, List.map_nil, hnx]; simp [Function.comp_def, get_gcT, get, put, gcI, pullI, pullS, gcH, patL, canL, canH, canTL, canT, segR, rows_pull, iter_pull, ix, fdbC, mpC, bxC, clo_pull, mapC, kC_pull, mE_k, mE_v, mE_fold]; rfl)
    | false =>
      have htk2 : (fun e => e.p == pt) e = false := htk
      rw [if_neg (show ¬ (e.p == pt) = true by rw [htk]; simp)] at hnx
      repeat' first
        | with_reducible rfl
        | simp only [g0, g1, g14, g5, push_one, pull_one, kC_push, kC_pull, mE_k, mE_v, mE_fold, kC_len, htk, hw, e_nil, e_cons, e_gd, e_gdt, e_gdf, e_g0, e_g1, e_op, e_step, e_stepG, e_stepN, e_clo, e_cloF, e_ret, e_put, e_junk, e_skip, e_reg, e_draw, e_seq, e_cond, e_block, e_exit, e_r, e_label, e_loop, q_sn, q_sr, q_se, q_bn, q_br, q_be, q_rr, q_rn, e_res0, e_res1, e_res2, e_b, d_nil, d_cons, d_op, d_step, d_stepG, d_stepN, d_clo, d_cloF, d_ret, d_put, d_junk, d_inf, d_fin, g_not, g_and, argsTM, stepE, stBuiltin, stBox, stAlloc, stLoad, stStore, stField, stExtract, stBin, stUn, stConv, stNilCheck, stFieldV, stIndex, stIndexAddr, stLen, stMin, stMax, stBuild, fillI, stBuildSlice, setRows, stMakeSlice, stAppend, srcR, segR, rdCells, stSlice, bnd, stArr, stCopy, stConv2, isIntV, cutR, byteRows, rowByte, binStr, Option.map_some, Option.map_none, eq_self, canTL, canT, canH, canL, patL, gcH, gcT, gcI, get_gcT, mapC, pullS, pullI, pushS, push1, pushI, pushC, pullHW, roC, ix, List.map_map, Function.comp_def, List.zip_cons_cons, List.zip_nil_left, List.zip_nil_right, List.range'_zero, List.range'_succ, rd, get, put, IV.cells, ofValue, seg, spl, ldIV, binInt, eqI, cellsEq, leafEq, resI, flat, isT, upd, up1, nextM, cR, ptrC, nAl, isAl, List.length_cons, List.length_nil, List.length_append, List.length_replicate, List.length_set, Nat.reduceAdd, Nat.reduceMul, Nat.reduceEqDiff, Nat.reduceLeDiff, Nat.zero_add, Nat.add_zero, ne_eq, reduceCtorEq, not_false_eq_true, not_true_eq_false, reduceIte, true_and, and_true, and_false, false_and, and_self, List.nil_append, List.cons_append, List.append_nil, List.getElem?_cons_zero, List.getElem?_cons_succ, List.drop_succ_cons, List.drop_zero, List.take_succ_cons, List.take_zero, List.set_cons_zero, List.set_cons_succ, List.getElem?_toArray, Option.bind_some, Bool.false_eq_true, Nat.add_one_ne_zero, Nat.succ_ne_self, List.map_cons, List.map_nil, Bool.not_true, Bool.not_false, List.replicate_succ, List.replicate_zero, List.mem_cons, List.not_mem_nil, or_false, false_or, or_true, true_or, forall_const, false_implies, implies_true, true_implies, Int.reduceToNat, Int.reduceLE, Int.reduceLT, Int.cast_ofNat_Int, bne, Int.reduceEq, Int.reduceNe, Int.reduceNeg, Int.reduceAdd, Int.reduceSub, Int.reduceMul, beq_self_eq_true, Int.reduceBEq, Int.reduceBNe, Bool.true_and, Bool.false_and, Bool.and_true, Bool.and_false, Bool.true_or, Bool.false_or, Bool.or_true, Bool.or_false, Nat.reduceLT, Nat.reduceSub, Nat.zero_min, Nat.min_zero, Nat.min_self, List.flatMap_cons, List.flatMap_nil, Int.toNat_natCast, strEq_self, Bool.not_eq_true', decide_true, decide_false, WLS, Try.underlying83, ty_ag_140, ty_ag_146, ty_ag_3, ty_ag_59, ty_of_142_2, ty_of_146_0, ty_sz_140, ty_sz_146, ty_sz_3, ty_sz_59, ty_ze_146, ty_ze_59]
        | with_reducible refine gdb_split (fun h => ?_) (fun h => ?_)
        | (with_reducible refine drawK_id ?_); refine drawK_auto hmix (by kernel_rfl) ?_
        | (with_reducible refine draw_fin ?_ ?_); · kernel_rfl
        | (with_reducible refine draw_id ?_); kernel_rfl
        | (with_reducible refine callK_id (f := 70) ?_); refine callK_inline (rs := [.tmp 5]) (n := 10) Try.func70 rfl rfl rfl (by kernel_rfl) (by kernel_rfl) (by simp only [List.length_cons, List.length_nil]; decide) ?_
        | ((with_reducible refine genK_id ?_); refine entry_gen (c := 4) (m := 1) (e := mE e) (st := (mE e).2.2) (by simp [rd, put, get, g14]) rfl rfl hme rfl ?_)
        | ((with_reducible refine genD_id ?_); refine deleteD_hit ty_mp ty_lk rfl rfl (sh_k _) rfl hsh hh h2 ?_)
        | (with_reducible refine And.intro ?_ ?_; · omega)
      refine ⟨R1.length + R2.length, _, _, by simp, Wk.gc [0, 1, 2, 3, 4] rfl (by decide), M ++ [e], R1 ++ R2, by simp, hp2, ?_, ?_, ?_, ?_, ?_⟩ <;> first | with_reducible rfl | (simp [Function.comp_def, get_gcT, get, put, gcI, pullI, pullS, gcH, patL, canL, canH, canTL, canT, segR, rows_pull, iter_pull, ix, g0, g1, g14, g5, List.filter_append, List.filter_cons, htk]; done) | (simp only [List.map_append, List.map_cons, List.map_nil, hnx]; simp [Function.comp_def, get_gcT, get, put, gcI, pullI, pullS, gcH, patL, canL, canH, canTL, canT, segR, rows_pull, iter_pull, ix, fdbC, mpC, bxC, clo_pull, mapC, kC_pull, mE_k, mE_v, mE_fold]; done) | (simp only [List.map_append, List.map_cons, List.map_nil, hnx]; simp [Function.comp_def, get_gcT, get, put, gcI, pullI, pullS, gcH, patL, canL, canH, canTL, canT, segR, rows_pull, iter_pull, ix, fdbC, mpC, bxC, clo_pull, mapC, kC_pull, mE_k, mE_v, mE_fold]; rfl)
theorem f68_71 (m l : Int) (clock : Nat) (L : List EN) (hn : NDk L) (hs : NDs L) (hc : ∀ e ∈ L, e.s < clock) (hb : L.length ≤ 100000) (vid : Int) : FunW Try.prog 68 [] [fdbC m l, mpC clock L, bxC (.raw (.int .u16 vid)), .clo (.func 71) [] [.s (.ptr 2 0 0)]] [.s (.ptr 0 0 0), .s (.ref 3)] fun r Hn => r = .s (.raw (.int .i64 ((L.filter (fun e => e.k.v == vid)).length : Int))) ∧ Hn = [fdbC m l, mpC clock (L.filter fun e => !(fun e => e.k.v == vid) e), bxC (.raw (.int .u16 vid)), .clo (.func 71) [] [.s (.ptr 2 0 0)]] := by
  refine funW_of fun X => ?_
  refine callK_inline (rs := [.tmp 4]) (n := 32) Try.func68 rfl rfl rfl (by kernel_rfl) (by kernel_rfl) (by simp only [List.length_cons, List.length_nil]; decide) ?_
  unfold fdbC mpC bxC
  repeat' first
    | with_reducible rfl
    | simp only [*, e_nil, e_cons, e_gd, e_gdt, e_gdf, e_g0, e_g1, e_op, e_step, e_stepG, e_stepN, e_clo, e_cloF, e_ret, e_put, e_junk, e_skip, e_reg, e_draw, e_seq, e_cond, e_block, e_exit, e_r, e_label, e_loop, q_sn, q_sr, q_se, q_bn, q_br, q_be, q_rr, q_rn, e_res0, e_res1, e_res2, e_b, d_nil, d_cons, d_op, d_step, d_stepG, d_stepN, d_clo, d_cloF, d_ret, d_put, d_junk, d_inf, d_fin, g_not, g_and, argsTM, stepE, stBuiltin, stBox, stAlloc, stLoad, stStore, stField, stExtract, stBin, stUn, stConv, stNilCheck, stFieldV, stIndex, stIndexAddr, stLen, stMin, stMax, stBuild, fillI, stBuildSlice, setRows, stMakeSlice, stAppend, srcR, segR, rdCells, stSlice, bnd, stArr, stCopy, stConv2, isIntV, cutR, byteRows, rowByte, binStr, Option.map_some, Option.map_none, eq_self, canTL, canT, canH, canL, patL, gcH, gcT, gcI, get_gcT, mapC, pullS, pullI, pushS, push1, pushI, pushC, pullHW, roC, ix, List.map_map, Function.comp_def, List.zip_cons_cons, List.zip_nil_left, List.zip_nil_right, List.range'_zero, List.range'_succ, rd, get, put, IV.cells, ofValue, seg, spl, ldIV, binInt, eqI, cellsEq, leafEq, resI, flat, isT, upd, up1, nextM, cR, ptrC, nAl, isAl, List.length_cons, List.length_nil, List.length_append, List.length_replicate, List.length_set, Nat.reduceAdd, Nat.reduceMul, Nat.reduceEqDiff, Nat.reduceLeDiff, Nat.zero_add, Nat.add_zero, ne_eq, reduceCtorEq, not_false_eq_true, not_true_eq_false, reduceIte, true_and, and_true, and_false, false_and, and_self, List.nil_append, List.cons_append, List.append_nil, List.getElem?_cons_zero, List.getElem?_cons_succ, List.drop_succ_cons, List.drop_zero, List.take_succ_cons, List.take_zero, List.set_cons_zero, List.set_cons_succ, List.getElem?_toArray, Option.bind_some, Bool.false_eq_true, Nat.add_one_ne_zero, Nat.succ_ne_self, List.map_cons, List.map_nil, Bool.not_true, Bool.not_false, List.replicate_succ, List.replicate_zero, List.mem_cons, List.not_mem_nil, or_false, false_or, or_true, true_or, forall_const, false_implies, implies_true, true_implies, Int.reduceToNat, Int.reduceLE, Int.reduceLT, Int.cast_ofNat_Int, bne, Int.reduceEq, Int.reduceNe, Int.reduceNeg, Int.reduceAdd, Int.reduceSub, Int.reduceMul, beq_self_eq_true, Int.reduceBEq, Int.reduceBNe, Bool.true_and, Bool.false_and, Bool.and_true, Bool.and_false, Bool.true_or, Bool.false_or, Bool.or_true, Bool.or_false, Nat.reduceLT, Nat.reduceSub, Nat.zero_min, Nat.min_zero, Nat.min_self, List.flatMap_cons, List.flatMap_nil, Int.toNat_natCast, strEq_self, Bool.not_eq_true', decide_true, decide_false, WLS, Try.underlying83, ty_ag_140, ty_ag_146, ty_ag_59, ty_of_142_2, ty_sz_140, ty_sz_146, ty_sz_59, ty_ze_146, ty_ze_59]
    | with_reducible refine gdb_split (fun h => ?_) (fun h => ?_)
    | (with_reducible refine drawK_id ?_); refine drawK_auto hmix (by kernel_rfl) ?_
    | (with_reducible refine draw_fin ?_ ?_); · kernel_rfl
    | (with_reducible refine draw_id ?_); kernel_rfl
    | ((with_reducible refine genK_id ?_); refine range_gen ty_mp rfl rfl ?_)
    | (with_reducible refine And.intro ?_ ?_; · omega)
  refine loopK_wk (by kernel_rfl) (I68 (fun e => e.k.v == vid) 71 (.raw (.int .u16 vid)) m l clock L) L.length ⟨_, _, Wk.refl, [], L, rfl, by simp, rfl, rfl, rfl, rfl, ?_⟩ ?_
  · simp only [List.map_nil, remL_nil]; rfl
  rintro mm tm H ⟨M, R, rfl, hp, g0, g1, g14, g5, rfl⟩
  unfold fdbC mpC bxC
  repeat' first
    | with_reducible rfl
    | simp only [g0, g1, g14, g5, e_nil, e_cons, e_gd, e_gdt, e_gdf, e_g0, e_g1, e_op, e_step, e_stepG, e_stepN, e_clo, e_cloF, e_ret, e_put, e_junk, e_skip, e_reg, e_draw, e_seq, e_cond, e_block, e_exit, e_r, e_label, e_loop, q_sn, q_sr, q_se, q_bn, q_br, q_be, q_rr, q_rn, e_res0, e_res1, e_res2, e_b, d_nil, d_cons, d_op, d_step, d_stepG, d_stepN, d_clo, d_cloF, d_ret, d_put, d_junk, d_inf, d_fin, g_not, g_and, argsTM, stepE, stBuiltin, stBox, stAlloc, stLoad, stStore, stField, stExtract, stBin, stUn, stConv, stNilCheck, stFieldV, stIndex, stIndexAddr, stLen, stMin, stMax, stBuild, fillI, stBuildSlice, setRows, stMakeSlice, stAppend, srcR, segR, rdCells, stSlice, bnd, stArr, stCopy, stConv2, isIntV, cutR, byteRows, rowByte, binStr, Option.map_some, Option.map_none, eq_self, canTL, canT, canH, canL, patL, gcH, gcT, gcI, get_gcT, mapC, pullS, pullI, pushS, push1, pushI, pushC, pullHW, roC, ix, List.map_map, Function.comp_def, List.zip_cons_cons, List.zip_nil_left, List.zip_nil_right, List.range'_zero, List.range'_succ, rd, get, put, IV.cells, ofValue, seg, spl, ldIV, binInt, eqI, cellsEq, leafEq, resI, flat, isT, upd, up1, nextM, cR, ptrC, nAl, isAl, List.length_cons, List.length_nil, List.length_append, List.length_replicate, List.length_set, Nat.reduceAdd, Nat.reduceMul, Nat.reduceEqDiff, Nat.reduceLeDiff, Nat.zero_add, Nat.add_zero, ne_eq, reduceCtorEq, not_false_eq_true, not_true_eq_false, reduceIte, true_and, and_true, and_false, false_and, and_self, List.nil_append, List.cons_append, List.append_nil, List.getElem?_cons_zero, List.getElem?_cons_succ, List.drop_succ_cons, List.drop_zero, List.take_succ_cons, List.take_zero, List.set_cons_zero, List.set_cons_succ, List.getElem?_toArray, Option.bind_some, Bool.false_eq_true, Nat.add_one_ne_zero, Nat.succ_ne_self, List.map_cons, List.map_nil, Bool.not_true, Bool.not_false, List.replicate_succ, List.replicate_zero, List.mem_cons, List.not_mem_nil, or_false, false_or, or_true, true_or, forall_const, false_implies, implies_true, true_implies, Int.reduceToNat, Int.reduceLE, Int.reduceLT, Int.cast_ofNat_Int, bne, Int.reduceEq, Int.reduceNe, Int.reduceNeg, Int.reduceAdd, Int.reduceSub, Int.reduceMul, beq_self_eq_true, Int.reduceBEq, Int.reduceBNe, Bool.true_and, Bool.false_and, Bool.and_true, Bool.and_false, Bool.true_or, Bool.false_or, Bool.or_true, Bool.or_false, Nat.reduceLT, Nat.reduceSub, Nat.zero_min, Nat.min_zero, Nat.min_self, List.flatMap_cons, List.flatMap_nil, Int.toNat_natCast, strEq_self, Bool.not_eq_true', decide_true, decide_false, WLS, Try.underlying83, ty_ag_140, ty_ag_146, ty_ag_59, ty_of_142_2, ty_sz_140, ty_sz_146, ty_sz_59, ty_ze_146, ty_ze_59]
    | with_reducible refine gdb_split (fun h => ?_) (fun h => ?_)
    | (with_reducible refine drawK_id ?_); refine drawK_auto hmix (by kernel_rfl) ?_
    | (with_reducible refine draw_fin ?_ ?_); · kernel_rfl
    | (with_reducible refine draw_id ?_); kernel_rfl
    | (with_reducible refine And.intro ?_ ?_; · omega)
  have hnL : NDs (M ++ R) := ((hp.map fun e : EN => e.s).nodup_iff.2 (show (L.map fun e : EN => e.s).Nodup from hs) : ((M ++ R).map fun e : EN => e.s).Nodup)
  have hMR : ∀ y ∈ R, y.s ∉ M.map (·.s) := fun y hy h => by
    unfold NDs at hnL
    rw [List.map_append, List.nodup_append] at hnL
    exact hnL.2.2 _ h _ (List.mem_map.2 ⟨y, hy, rfl⟩) rfl
  refine next_gen (c := 4) (m := 1) (seen := M.map (·.s)) (by simp only [rd, g14]) rfl rfl (fun y hy => by obtain ⟨e, he, rfl⟩ := List.mem_map.1 hy; exact hc e (rem_sub he)) (Nat.le_refl _) (fun hall => ?_) (fun y hy hns => ?_)
  · have hR : R = [] := by
      cases R with
      | nil => rfl
      | cons y R' =>
        exfalso
        have hyL : y ∈ L := hp.mem_iff.1 (by simp)
        have h1 := hMR y (by simp)
        exact h1 (hall (mE y) (List.mem_map.2 ⟨y, List.mem_filter.2 ⟨hyL, by simp [h1]⟩, rfl⟩))
    subst hR
    rw [List.append_nil] at hp
    have hlen := (hp.filter (fun e => e.k.v == vid)).length_eq
    rw [rem_all (fun e => e.k.v == vid) L (seen := M.map (·.s)) fun e he => List.mem_map.2 ⟨e, hp.mem_iff.2 he, rfl⟩]
    repeat' first
      | with_reducible rfl
      | simp only [g0, g1, g14, g5, e_nil, e_cons, e_gd, e_gdt, e_gdf, e_g0, e_g1, e_op, e_step, e_stepG, e_stepN, e_clo, e_cloF, e_ret, e_put, e_junk, e_skip, e_reg, e_draw, e_seq, e_cond, e_block, e_exit, e_r, e_label, e_loop, q_sn, q_sr, q_se, q_bn, q_br, q_be, q_rr, q_rn, e_res0, e_res1, e_res2, e_b, d_nil, d_cons, d_op, d_step, d_stepG, d_stepN, d_clo, d_cloF, d_ret, d_put, d_junk, d_inf, d_fin, g_not, g_and, argsTM, stepE, stBuiltin, stBox, stAlloc, stLoad, stStore, stField, stExtract, stBin, stUn, stConv, stNilCheck, stFieldV, stIndex, stIndexAddr, stLen, stMin, stMax, stBuild, fillI, stBuildSlice, setRows, stMakeSlice, stAppend, srcR, segR, rdCells, stSlice, bnd, stArr, stCopy, stConv2, isIntV, cutR, byteRows, rowByte, binStr, Option.map_some, Option.map_none, eq_self, canTL, canT, canH, canL, patL, gcH, gcT, gcI, get_gcT, mapC, pullS, pullI, pushS, push1, pushI, pushC, pullHW, roC, ix, List.map_map, Function.comp_def, List.zip_cons_cons, List.zip_nil_left, List.zip_nil_right, List.range'_zero, List.range'_succ, rd, get, put, IV.cells, ofValue, seg, spl, ldIV, binInt, eqI, cellsEq, leafEq, resI, flat, isT, upd, up1, nextM, cR, ptrC, nAl, isAl, List.length_cons, List.length_nil, List.length_append, List.length_replicate, List.length_set, Nat.reduceAdd, Nat.reduceMul, Nat.reduceEqDiff, Nat.reduceLeDiff, Nat.zero_add, Nat.add_zero, ne_eq, reduceCtorEq, not_false_eq_true, not_true_eq_false, reduceIte, true_and, and_true, and_false, false_and, and_self, List.nil_append, List.cons_append, List.append_nil, List.getElem?_cons_zero, List.getElem?_cons_succ, List.drop_succ_cons, List.drop_zero, List.take_succ_cons, List.take_zero, List.set_cons_zero, List.set_cons_succ, List.getElem?_toArray, Option.bind_some, Bool.false_eq_true, Nat.add_one_ne_zero, Nat.succ_ne_self, List.map_cons, List.map_nil, Bool.not_true, Bool.not_false, List.replicate_succ, List.replicate_zero, List.mem_cons, List.not_mem_nil, or_false, false_or, or_true, true_or, forall_const, false_implies, implies_true, true_implies, Int.reduceToNat, Int.reduceLE, Int.reduceLT, Int.cast_ofNat_Int, bne, Int.reduceEq, Int.reduceNe, Int.reduceNeg, Int.reduceAdd, Int.reduceSub, Int.reduceMul, beq_self_eq_true, Int.reduceBEq, Int.reduceBNe, Bool.true_and, Bool.false_and, Bool.and_true, Bool.and_false, Bool.true_or, Bool.false_or, Bool.or_true, Bool.or_false, Nat.reduceLT, Nat.reduceSub, Nat.zero_min, Nat.min_zero, Nat.min_self, List.flatMap_cons, List.flatMap_nil, Int.toNat_natCast, strEq_self, Bool.not_eq_true', decide_true, decide_false, WLS, Try.underlying83, ty_ag_140, ty_ag_146, ty_ag_59, ty_of_142_2, ty_sz_140, ty_sz_146, ty_sz_59, ty_ze_146, ty_ze_59]
      | with_reducible refine gdb_split (fun h => ?_) (fun h => ?_)
      | (with_reducible refine drawK_id ?_); refine drawK_auto hmix (by kernel_rfl) ?_
      | (with_reducible refine draw_fin ?_ ?_); · kernel_rfl
      | (with_reducible refine draw_id ?_); kernel_rfl
      | exact ⟨_, _, WkR.gc [0, 1, 2, 3] rfl (by decide), by simp [gcH], by simp [gcI, pullI, pullS, hlen], by (simp [gcH, rows_pull, clo_pull, pullS, pullI, ix, Function.comp_def, mapC, kC_pull, mE_k, mE_v, mE_fold])⟩
      | (with_reducible refine And.intro ?_ ?_; · omega)
  · obtain ⟨e, he, rfl⟩ := List.mem_map.1 hy
    have heL : e ∈ L := rem_sub he
    have heR : e ∈ R := by
      rcases List.mem_append.1 (hp.mem_iff.2 heL) with h | h
      · exact absurd (List.mem_map.2 ⟨e, h, rfl⟩) hns
      · exact h
    obtain ⟨R1, R2, rfl⟩ := List.append_of_mem heR
    have hlen := hp.length_eq
    simp only [List.length_append, List.length_cons] at hlen
    have hMl : (M.filter (fun e => e.k.v == vid)).length ≤ M.length := List.length_filter_le _ _
    have hp2 : ((M ++ [e]) ++ (R1 ++ R2)).Perm L := by
      refine List.Perm.trans ?_ hp
      rw [List.append_assoc]
      exact List.Perm.append_left _ (show (e :: (R1 ++ R2)).Perm (R1 ++ e :: R2) from List.perm_middle.symm)
    obtain ⟨l1, l2, hsp, hnx⟩ := rem_one (tk := (fun e => e.k.v == vid)) hs heL (seen := M.map (·.s)) hns
    have hsub : ∀ z ∈ l1 ++ l2, z.k ≠ e.k := fun z hz h => by
      have hnr : ((remL (fun e => e.k.v == vid) L (M.map (·.s))).map fun e : EN => e.k).Nodup := (List.Sublist.map (fun e : EN => e.k) List.filter_sublist).nodup (show (L.map fun e : EN => e.k).Nodup from hn)
      rw [hsp, List.map_append, List.map_cons, List.nodup_append] at hnr
      rcases List.mem_append.1 hz with hz | hz
      · exact hnr.2.2 _ (List.mem_map.2 ⟨z, hz, rfl⟩) _ (by simp) h
      · exact (List.nodup_cons.1 hnr.2.1).1 (List.mem_map.2 ⟨z, hz, h⟩)
    have hsh := shp (l1 ++ e :: l2)
    have h2 := noK e.k _ hsub
    have hh := hitK e.k
    rw [List.map_append, List.map_cons] at hsh
    rw [List.map_append] at h2
    have hme : mE e ∈ List.map mE l1 ++ mE e :: List.map mE l2 := by simp
    have hw : IntKind.i64.wrap (((M.filter (fun e => e.k.v == vid)).length : Int) + 1) = (((M.filter (fun e => e.k.v == vid)).length + 1 : Nat) : Int) := by rw [wr_i64 (by omega) (by omega)]; rfl
    simp only [hsp, List.map_append, List.map_cons, List.set_cons_succ, List.set_cons_zero]
    cases htk : (e.k.v == vid) with
    | true =>
      have htk2 : (fun e => e.k.v == vid) e = true := htk
      rw [if_pos htk2] at hnx
      repeat' first
        | with_reducible rfl
        | simp only [g0, g1, g14, g5, push_one, pull_one, kC_push, kC_pull, mE_k, mE_v, mE_fold, kC_len, htk, hw, kC_0, kC_0b, e_nil, e_cons, e_gd, e_gdt, e_gdf, e_g0, e_g1, e_op, e_step, e_stepG, e_stepN, e_clo, e_cloF, e_ret, e_put, e_junk, e_skip, e_reg, e_draw, e_seq, e_cond, e_block, e_exit, e_r, e_label, e_loop, q_sn, q_sr, q_se, q_bn, q_br, q_be, q_rr, q_rn, e_res0, e_res1, e_res2, e_b, d_nil, d_cons, d_op, d_step, d_stepG, d_stepN, d_clo, d_cloF, d_ret, d_put, d_junk, d_inf, d_fin, g_not, g_and, argsTM, stepE, stBuiltin, stBox, stAlloc, stLoad, stStore, stField, stExtract, stBin, stUn, stConv, stNilCheck, stFieldV, stIndex, stIndexAddr, stLen, stMin, stMax, stBuild, fillI, stBuildSlice, setRows, stMakeSlice, stAppend, srcR, segR, rdCells, stSlice, bnd, stArr, stCopy, stConv2, isIntV, cutR, byteRows, rowByte, binStr, Option.map_some, Option.map_none, eq_self, canTL, canT, canH, canL, patL, gcH, gcT, gcI, get_gcT, mapC, pullS, pullI, pushS, push1, pushI, pushC, pullHW, roC, ix, List.map_map, Function.comp_def, List.zip_cons_cons, List.zip_nil_left, List.zip_nil_right, List.range'_zero, List.range'_succ, rd, get, put, IV.cells, ofValue, seg, spl, ldIV, binInt, eqI, cellsEq, leafEq, resI, flat, isT, upd, up1, nextM, cR, ptrC, nAl, isAl, List.length_cons, List.length_nil, List.length_append, List.length_replicate, List.length_set, Nat.reduceAdd, Nat.reduceMul, Nat.reduceEqDiff, Nat.reduceLeDiff, Nat.zero_add, Nat.add_zero, ne_eq, reduceCtorEq, not_false_eq_true, not_true_eq_false, reduceIte, true_and, and_true, and_false, false_and, and_self, List.nil_append, List.cons_append, List.append_nil, List.getElem?_cons_zero, List.getElem?_cons_succ, List.drop_succ_cons, List.drop_zero, List.take_succ_cons, List.take_zero, List.set_cons_zero, List.set_cons_succ, List.getElem?_toArray, Option.bind_some, Bool.false_eq_true, Nat.add_one_ne_zero, Nat.succ_ne_self, List.map_cons, List.map_nil, Bool.not_true, Bool.not_false, List.replicate_succ, List.replicate_zero, List.mem_cons, List.not_mem_nil, or_false, false_or, or_true, true_or, forall_const, false_implies, implies_true, true_implies, Int.reduceToNat, Int.reduceLE, Int.reduceLT, Int.cast_ofNat_Int, bne, Int.reduceEq, Int.reduceNe, Int.reduceNeg, Int.reduceAdd, Int.reduceSub, Int.reduceMul, beq_self_eq_true, Int.reduceBEq, Int.reduceBNe, Bool.true_and, Bool.false_and, Bool.and_true, Bool.and_false, Bool.true_or, Bool.false_or, Bool.or_true, Bool.or_false, Nat.reduceLT, Nat.reduceSub, Nat.zero_min, Nat.min_zero, Nat.min_self, List.flatMap_cons, List.flatMap_nil, Int.toNat_natCast, strEq_self, Bool.not_eq_true', decide_true, decide_false, WLS, Try.underlying83, ty_ag_140, ty_ag_146, ty_ag_27, ty_ag_59, ty_of_142_2, ty_of_59_0, ty_sz_140, ty_sz_146, ty_sz_27, ty_sz_59, ty_ze_146, ty_ze_59]
        | with_reducible refine gdb_split (fun h => ?_) (fun h => ?_)
        | (with_reducible refine drawK_id ?_); refine drawK_auto hmix (by kernel_rfl) ?_
        | (with_reducible refine draw_fin ?_ ?_); · kernel_rfl
        | (with_reducible refine draw_id ?_); kernel_rfl
        | (with_reducible refine callK_id (f := 71) ?_); refine callK_inline (rs := [.tmp 5]) (n := 10) Try.func71 rfl rfl rfl (by kernel_rfl) (by kernel_rfl) (by simp only [List.length_cons, List.length_nil]; decide) ?_
        | ((with_reducible refine genK_id ?_); refine entry_gen (c := 4) (m := 1) (e := mE e) (st := (mE e).2.2) (by simp [rd, put, get, g14]) rfl rfl hme rfl ?_)
        | ((with_reducible refine genD_id ?_); refine deleteD_hit ty_mp ty_lk rfl rfl (sh_k _) rfl hsh hh h2 ?_)
        | (with_reducible refine And.intro ?_ ?_; · omega)
      refine ⟨R1.length + R2.length, _, _, by simp, Wk.gc [0, 1, 2, 3, 4] rfl (by decide), M ++ [e], R1 ++ R2, by simp, hp2, ?_, ?_, ?_, ?_, ?_⟩ <;> first | with_reducible rfl | (simp [Function.comp_def, get_gcT, get, put, gcI, pullI, pullS, gcH, patL, canL, canH, canTL, canT, segR, rows_pull, iter_pull, ix, g0, g1, g14, g5, List.filter_append, List.filter_cons, htk]; done) | (simp only [List.map_append, List.map_cons, List.map_nil, hnx]; simp [Function.comp_def, get_gcT, get, put, gcI, pullI, pullS, gcH, patL, canL, canH, canTL, canT, segR, rows_pull, iter_pull, ix, fdbC, mpC, bxC, clo_pull, mapC, kC_pull, mE_k, mE_v, mE_fold]; done) | (simp only [List.map_append, List.map_cons, List.map_nil, hnx]; simp [Function.comp_def, get_gcT, get, put, gcI, pullI, pullS, gcH, patL, canL, canH, canTL, canT, segR, rows_pull, iter_pull, ix, fdbC, mpC, bxC, clo_pull, mapC, kC_pull, mE_k, mE_v, mE_fold]; rfl)
    | false =>
      have htk2 : (fun e => e.k.v == vid) e = false := htk
      rw [if_neg (show ¬ (e.k.v == vid) = true by rw [htk]; simp)] at hnx
      repeat' first
        | with_reducible rfl
        | simp only [g0, g1, g14, g5, push_one, pull_one, kC_push, kC_pull, mE_k, mE_v, mE_fold, kC_len, htk, hw, kC_0, kC_0b, e_nil, e_cons, e_gd, e_gdt, e_gdf, e_g0, e_g1, e_op, e_step, e_stepG, e_stepN, e_clo, e_cloF, e_ret, e_put, e_junk, e_skip, e_reg, e_draw, e_seq, e_cond, e_block, e_exit, e_r, e_label, e_loop, q_sn, q_sr, q_se, q_bn, q_br, q_be, q_rr, q_rn, e_res0, e_res1, e_res2, e_b, d_nil, d_cons, d_op, d_step, d_stepG, d_stepN, d_clo, d_cloF, d_ret, d_put, d_junk, d_inf, d_fin, g_not, g_and, argsTM, stepE, stBuiltin, stBox, stAlloc, stLoad, stStore, stField, stExtract, stBin, stUn, stConv, stNilCheck, stFieldV, stIndex, stIndexAddr, stLen, stMin, stMax, stBuild, fillI, stBuildSlice, setRows, stMakeSlice, stAppend, srcR, segR, rdCells, stSlice, bnd, stArr, stCopy, stConv2, isIntV, cutR, byteRows, rowByte, binStr, Option.map_some, Option.map_none, eq_self, canTL, canT, canH, canL, patL, gcH, gcT, gcI, get_gcT, mapC, pullS, pullI, pushS, push1, pushI, pushC, pullHW, roC, ix, List.map_map, Function.comp_def, List.zip_cons_cons, List.zip_nil_left, List.zip_nil_right, List.range'_zero, List.range'_succ, rd, get, put, IV.cells, ofValue, seg, spl, ldIV, binInt, eqI, cellsEq, leafEq, resI, flat, isT, upd, up1, nextM, cR, ptrC, nAl, isAl, List.length_cons, List.length_nil, List.length_append, List.length_replicate, List.length_set, Nat.reduceAdd, Nat.reduceMul, Nat.reduceEqDiff, Nat.reduceLeDiff, Nat.zero_add, Nat.add_zero, ne_eq, reduceCtorEq, not_false_eq_true, not_true_eq_false, reduceIte, true_and, and_true, and_false, false_and, and_self, List.nil_append, List.cons_append, List.append_nil, List.getElem?_cons_zero, List.getElem?_cons_succ, List.drop_succ_cons, List.drop_zero, List.take_succ_cons, List.take_zero, List.set_cons_zero, List.set_cons_succ, List.getElem?_toArray, Option.bind_some, Bool.false_eq_true, Nat.add_one_ne_zero, Nat.succ_ne_self, List.map_cons, List.map_nil, Bool.not_true, Bool.not_false, List.replicate_succ, List.replicate_zero, List.mem_cons, List.not_mem_nil, or_false, false_or, or_true, true_or, forall_const, false_implies, implies_true, true_implies, Int.reduceToNat, Int.reduceLE, Int.reduceLT, Int.cast_ofNat_Int, bne, Int.reduceEq, Int.reduceNe, Int.reduceNeg, Int.reduceAdd, Int.reduceSub, Int.reduceMul, beq_self_eq_true, Int.reduceBEq, Int.reduceBNe, Bool.true_and, Bool.false_and, Bool.and_true, Bool.and_false, Bool.true_or, Bool.false_or, Bool.or_true, Bool.or_false, Nat.reduceLT, Nat.reduceSub, Nat.zero_min, Nat.min_zero, Nat.min_self, List.flatMap_cons, List.flatMap_nil, Int.toNat_natCast, strEq_self, Bool.not_eq_true', decide_true, decide_false, WLS, Try.underlying83, ty_ag_140, ty_ag_146, ty_ag_27, ty_ag_59, ty_of_142_2, ty_of_59_0, ty_sz_140, ty_sz_146, ty_sz_27, ty_sz_59, ty_ze_146, ty_ze_59]
        | with_reducible refine gdb_split (fun h => ?_) (fun h => ?_)
        | (with_reducible refine drawK_id ?_); refine drawK_auto hmix (by kernel_rfl) ?_
        | (with_reducible refine draw_fin ?_ ?_); · kernel_rfl
        | (with_reducible refine draw_id ?_); kernel_rfl
        | (with_reducible refine callK_id (f := 71) ?_); refine callK_inline (rs := [.tmp 5]) (n := 10) Try.func71 rfl rfl rfl (by kernel_rfl) (by kernel_rfl) (by simp only [List.length_cons, List.length_nil]; decide) ?_
        | ((with_reducible refine genK_id ?_); refine entry_gen (c := 4) (m := 1) (e := mE e) (st := (mE e).2.2) (by simp [rd, put, get, g14]) rfl rfl hme rfl ?_)
        | ((with_reducible refine genD_id ?_); refine deleteD_hit ty_mp ty_lk rfl rfl (sh_k _) rfl hsh hh h2 ?_)
        | (with_reducible refine And.intro ?_ ?_; · omega)
      refine ⟨R1.length + R2.length, _, _, by simp, Wk.gc [0, 1, 2, 3, 4] rfl (by decide), M ++ [e], R1 ++ R2, by simp, hp2, ?_, ?_, ?_, ?_, ?_⟩ <;> first | with_reducible rfl | (simp [Function.comp_def, get_gcT, get, put, gcI, pullI, pullS, gcH, patL, canL, canH, canTL, canT, segR, rows_pull, iter_pull, ix, g0, g1, g14, g5, List.filter_append, List.filter_cons, htk]; done) | (simp only [List.map_append, List.map_cons, List.map_nil, hnx]; simp [Function.comp_def, get_gcT, get, put, gcI, pullI, pullS, gcH, patL, canL, canH, canTL, canT, segR, rows_pull, iter_pull, ix, fdbC, mpC, bxC, clo_pull, mapC, kC_pull, mE_k, mE_v, mE_fold]; done) | (simp only [List.map_append, List.map_cons, List.map_nil, hnx]; simp [Function.comp_def, get_gcT, get, put, gcI, pullI, pullS, gcH, patL, canL, canH, canTL, canT, segR, rows_pull, iter_pull, ix, fdbC, mpC, bxC, clo_pull, mapC, kC_pull, mE_k, mE_v, mE_fold]; rfl)
theorem f68_69 (m l : Int) (clock : Nat) (L : List EN) (hn : NDk L) (hs : NDs L) (hc : ∀ e ∈ L, e.s < clock) (hb : L.length ≤ 100000)  : FunW Try.prog 68 [] [fdbC m l, mpC clock L, bxC (.ptr 0 0 0), .clo (.func 69) [] [.s (.ptr 2 0 0)]] [.s (.ptr 0 0 0), .s (.ref 3)] fun r Hn => r = .s (.raw (.int .i64 ((L.filter (fun e => decide (l ≤ e.g))).length : Int))) ∧ Hn = [fdbC m l, mpC clock (L.filter fun e => !(fun e => decide (l ≤ e.g)) e), bxC (.ptr 0 0 0), .clo (.func 69) [] [.s (.ptr 2 0 0)]] := by
  refine funW_of fun X => ?_
  refine callK_inline (rs := [.tmp 4]) (n := 32) Try.func68 rfl rfl rfl (by kernel_rfl) (by kernel_rfl) (by simp only [List.length_cons, List.length_nil]; decide) ?_
  unfold fdbC mpC bxC
  repeat' first
    | with_reducible rfl
    | simp only [*, e_nil, e_cons, e_gd, e_gdt, e_gdf, e_g0, e_g1, e_op, e_step, e_stepG, e_stepN, e_clo, e_cloF, e_ret, e_put, e_junk, e_skip, e_reg, e_draw, e_seq, e_cond, e_block, e_exit, e_r, e_label, e_loop, q_sn, q_sr, q_se, q_bn, q_br, q_be, q_rr, q_rn, e_res0, e_res1, e_res2, e_b, d_nil, d_cons, d_op, d_step, d_stepG, d_stepN, d_clo, d_cloF, d_ret, d_put, d_junk, d_inf, d_fin, g_not, g_and, argsTM, stepE, stBuiltin, stBox, stAlloc, stLoad, stStore, stField, stExtract, stBin, stUn, stConv, stNilCheck, stFieldV, stIndex, stIndexAddr, stLen, stMin, stMax, stBuild, fillI, stBuildSlice, setRows, stMakeSlice, stAppend, srcR, segR, rdCells, stSlice, bnd, stArr, stCopy, stConv2, isIntV, cutR, byteRows, rowByte, binStr, Option.map_some, Option.map_none, eq_self, canTL, canT, canH, canL, patL, gcH, gcT, gcI, get_gcT, mapC, pullS, pullI, pushS, push1, pushI, pushC, pullHW, roC, ix, List.map_map, Function.comp_def, List.zip_cons_cons, List.zip_nil_left, List.zip_nil_right, List.range'_zero, List.range'_succ, rd, get, put, IV.cells, ofValue, seg, spl, ldIV, binInt, eqI, cellsEq, leafEq, resI, flat, isT, upd, up1, nextM, cR, ptrC, nAl, isAl, List.length_cons, List.length_nil, List.length_append, List.length_replicate, List.length_set, Nat.reduceAdd, Nat.reduceMul, Nat.reduceEqDiff, Nat.reduceLeDiff, Nat.zero_add, Nat.add_zero, ne_eq, reduceCtorEq, not_false_eq_true, not_true_eq_false, reduceIte, true_and, and_true, and_false, false_and, and_self, List.nil_append, List.cons_append, List.append_nil, List.getElem?_cons_zero, List.getElem?_cons_succ, List.drop_succ_cons, List.drop_zero, List.take_succ_cons, List.take_zero, List.set_cons_zero, List.set_cons_succ, List.getElem?_toArray, Option.bind_some, Bool.false_eq_true, Nat.add_one_ne_zero, Nat.succ_ne_self, List.map_cons, List.map_nil, Bool.not_true, Bool.not_false, List.replicate_succ, List.replicate_zero, List.mem_cons, List.not_mem_nil, or_false, false_or, or_true, true_or, forall_const, false_implies, implies_true, true_implies, Int.reduceToNat, Int.reduceLE, Int.reduceLT, Int.cast_ofNat_Int, bne, Int.reduceEq, Int.reduceNe, Int.reduceNeg, Int.reduceAdd, Int.reduceSub, Int.reduceMul, beq_self_eq_true, Int.reduceBEq, Int.reduceBNe, Bool.true_and, Bool.false_and, Bool.and_true, Bool.and_false, Bool.true_or, Bool.false_or, Bool.or_true, Bool.or_false, Nat.reduceLT, Nat.reduceSub, Nat.zero_min, Nat.min_zero, Nat.min_self, List.flatMap_cons, List.flatMap_nil, Int.toNat_natCast, strEq_self, Bool.not_eq_true', decide_true, decide_false, WLS, Try.underlying83, ty_ag_140, ty_ag_146, ty_ag_59, ty_of_142_2, ty_sz_140, ty_sz_146, ty_sz_59, ty_ze_146, ty_ze_59]
    | with_reducible refine gdb_split (fun h => ?_) (fun h => ?_)
    | (with_reducible refine drawK_id ?_); refine drawK_auto hmix (by kernel_rfl) ?_
    | (with_reducible refine draw_fin ?_ ?_); · kernel_rfl
    | (with_reducible refine draw_id ?_); kernel_rfl
    | ((with_reducible refine genK_id ?_); refine range_gen ty_mp rfl rfl ?_)
    | (with_reducible refine And.intro ?_ ?_; · omega)
  refine loopK_wk (by kernel_rfl) (I68 (fun e => decide (l ≤ e.g)) 69 (.ptr 0 0 0) m l clock L) L.length ⟨_, _, Wk.refl, [], L, rfl, by simp, rfl, rfl, rfl, rfl, ?_⟩ ?_
  · simp only [List.map_nil, remL_nil]; rfl
  rintro mm tm H ⟨M, R, rfl, hp, g0, g1, g14, g5, rfl⟩
  unfold fdbC mpC bxC
  repeat' first
    | with_reducible rfl
    | simp only [g0, g1, g14, g5, e_nil, e_cons, e_gd, e_gdt, e_gdf, e_g0, e_g1, e_op, e_step, e_stepG, e_stepN, e_clo, e_cloF, e_ret, e_put, e_junk, e_skip, e_reg, e_draw, e_seq, e_cond, e_block, e_exit, e_r, e_label, e_loop, q_sn, q_sr, q_se, q_bn, q_br, q_be, q_rr, q_rn, e_res0, e_res1, e_res2, e_b, d_nil, d_cons, d_op, d_step, d_stepG, d_stepN, d_clo, d_cloF, d_ret, d_put, d_junk, d_inf, d_fin, g_not, g_and, argsTM, stepE, stBuiltin, stBox, stAlloc, stLoad, stStore, stField, stExtract, stBin, stUn, stConv, stNilCheck, stFieldV, stIndex, stIndexAddr, stLen, stMin, stMax, stBuild, fillI, stBuildSlice, setRows, stMakeSlice, stAppend, srcR, segR, rdCells, stSlice, bnd, stArr, stCopy, stConv2, isIntV, cutR, byteRows, rowByte, binStr, Option.map_some, Option.map_none, eq_self, canTL, canT, canH, canL, patL, gcH, gcT, gcI, get_gcT, mapC, pullS, pullI, pushS, push1, pushI, pushC, pullHW, roC, ix, List.map_map, Function.comp_def, List.zip_cons_cons, List.zip_nil_left, List.zip_nil_right, List.range'_zero, List.range'_succ, rd, get, put, IV.cells, ofValue, seg, spl, ldIV, binInt, eqI, cellsEq, leafEq, resI, flat, isT, upd, up1, nextM, cR, ptrC, nAl, isAl, List.length_cons, List.length_nil, List.length_append, List.length_replicate, List.length_set, Nat.reduceAdd, Nat.reduceMul, Nat.reduceEqDiff, Nat.reduceLeDiff, Nat.zero_add, Nat.add_zero, ne_eq, reduceCtorEq, not_false_eq_true, not_true_eq_false, reduceIte, true_and, and_true, and_false, false_and, and_self, List.nil_append, List.cons_append, List.append_nil, List.getElem?_cons_zero, List.getElem?_cons_succ, List.drop_succ_cons, List.drop_zero, List.take_succ_cons, List.take_zero, List.set_cons_zero, List.set_cons_succ, List.getElem?_toArray, Option.bind_some, Bool.false_eq_true, Nat.add_one_ne_zero, Nat.succ_ne_self, List.map_cons, List.map_nil, Bool.not_true, Bool.not_false, List.replicate_succ, List.replicate_zero, List.mem_cons, List.not_mem_nil, or_false, false_or, or_true, true_or, forall_const, false_implies, implies_true, true_implies, Int.reduceToNat, Int.reduceLE, Int.reduceLT, Int.cast_ofNat_Int, bne, Int.reduceEq, Int.reduceNe, Int.reduceNeg, Int.reduceAdd, Int.reduceSub, Int.reduceMul, beq_self_eq_true, Int.reduceBEq, Int.reduceBNe, Bool.true_and, Bool.false_and, Bool.and_true, Bool.and_false, Bool.true_or, Bool.false_or, Bool.or_true, Bool.or_false, Nat.reduceLT, Nat.reduceSub, Nat.zero_min, Nat.min_zero, Nat.min_self, List.flatMap_cons, List.flatMap_nil, Int.toNat_natCast, strEq_self, Bool.not_eq_true', decide_true, decide_false, WLS, Try.underlying83, ty_ag_140, ty_ag_146, ty_ag_59, ty_of_142_2, ty_sz_140, ty_sz_146, ty_sz_59, ty_ze_146, ty_ze_59]
    | with_reducible refine gdb_split (fun h => ?_) (fun h => ?_)
    | (with_reducible refine drawK_id ?_); refine drawK_auto hmix (by kernel_rfl) ?_
    | (with_reducible refine draw_fin ?_ ?_); · kernel_rfl
    | (with_reducible refine draw_id ?_); kernel_rfl
    | (with_reducible refine And.intro ?_ ?_; · omega)
  have hnL : NDs (M ++ R) := ((hp.map fun e : EN => e.s).nodup_iff.2 (show (L.map fun e : EN => e.s).Nodup from hs) : ((M ++ R).map fun e : EN => e.s).Nodup)
  have hMR : ∀ y ∈ R, y.s ∉ M.map (·.s) := fun y hy h => by
    unfold NDs at hnL
    rw [List.map_append, List.nodup_append] at hnL
    exact hnL.2.2 _ h _ (List.mem_map.2 ⟨y, hy, rfl⟩) rfl
  refine next_gen (c := 4) (m := 1) (seen := M.map (·.s)) (by simp only [rd, g14]) rfl rfl (fun y hy => by obtain ⟨e, he, rfl⟩ := List.mem_map.1 hy; exact hc e (rem_sub he)) (Nat.le_refl _) (fun hall => ?_) (fun y hy hns => ?_)
  · have hR : R = [] := by
      cases R with
      | nil => rfl
      | cons y R' =>
        exfalso
        have hyL : y ∈ L := hp.mem_iff.1 (by simp)
        have h1 := hMR y (by simp)
        exact h1 (hall (mE y) (List.mem_map.2 ⟨y, List.mem_filter.2 ⟨hyL, by simp [h1]⟩, rfl⟩))
    subst hR
    rw [List.append_nil] at hp
    have hlen := (hp.filter (fun e => decide (l ≤ e.g))).length_eq
    rw [rem_all (fun e => decide (l ≤ e.g)) L (seen := M.map (·.s)) fun e he => List.mem_map.2 ⟨e, hp.mem_iff.2 he, rfl⟩]
    repeat' first
      | with_reducible rfl
      | simp only [g0, g1, g14, g5, e_nil, e_cons, e_gd, e_gdt, e_gdf, e_g0, e_g1, e_op, e_step, e_stepG, e_stepN, e_clo, e_cloF, e_ret, e_put, e_junk, e_skip, e_reg, e_draw, e_seq, e_cond, e_block, e_exit, e_r, e_label, e_loop, q_sn, q_sr, q_se, q_bn, q_br, q_be, q_rr, q_rn, e_res0, e_res1, e_res2, e_b, d_nil, d_cons, d_op, d_step, d_stepG, d_stepN, d_clo, d_cloF, d_ret, d_put, d_junk, d_inf, d_fin, g_not, g_and, argsTM, stepE, stBuiltin, stBox, stAlloc, stLoad, stStore, stField, stExtract, stBin, stUn, stConv, stNilCheck, stFieldV, stIndex, stIndexAddr, stLen, stMin, stMax, stBuild, fillI, stBuildSlice, setRows, stMakeSlice, stAppend, srcR, segR, rdCells, stSlice, bnd, stArr, stCopy, stConv2, isIntV, cutR, byteRows, rowByte, binStr, Option.map_some, Option.map_none, eq_self, canTL, canT, canH, canL, patL, gcH, gcT, gcI, get_gcT, mapC, pullS, pullI, pushS, push1, pushI, pushC, pullHW, roC, ix, List.map_map, Function.comp_def, List.zip_cons_cons, List.zip_nil_left, List.zip_nil_right, List.range'_zero, List.range'_succ, rd, get, put, IV.cells, ofValue, seg, spl, ldIV, binInt, eqI, cellsEq, leafEq, resI, flat, isT, upd, up1, nextM, cR, ptrC, nAl, isAl, List.length_cons, List.length_nil, List.length_append, List.length_replicate, List.length_set, Nat.reduceAdd, Nat.reduceMul, Nat.reduceEqDiff, Nat.reduceLeDiff, Nat.zero_add, Nat.add_zero, ne_eq, reduceCtorEq, not_false_eq_true, not_true_eq_false, reduceIte, true_and, and_true, and_false, false_and, and_self, List.nil_append, List.cons_append, List.append_nil, List.getElem?_cons_zero, List.getElem?_cons_succ, List.drop_succ_cons, List.drop_zero, List.take_succ_cons, List.take_zero, List.set_cons_zero, List.set_cons_succ, List.getElem?_toArray, Option.bind_some, Bool.false_eq_true, Nat.add_one_ne_zero, Nat.succ_ne_self, List.map_cons, List.map_nil, Bool.not_true, Bool.not_false, List.replicate_succ, List.replicate_zero, List.mem_cons, List.not_mem_nil, or_false, false_or, or_true, true_or, forall_const, false_implies, implies_true, true_implies, Int.reduceToNat, Int.reduceLE, Int.reduceLT, Int.cast_ofNat_Int, bne, Int.reduceEq, Int.reduceNe, Int.reduceNeg, Int.reduceAdd, Int.reduceSub, Int.reduceMul, beq_self_eq_true, Int.reduceBEq, Int.reduceBNe, Bool.true_and, Bool.false_and, Bool.and_true, Bool.and_false, Bool.true_or, Bool.false_or, Bool.or_true, Bool.or_false, Nat.reduceLT, Nat.reduceSub, Nat.zero_min, Nat.min_zero, Nat.min_self, List.flatMap_cons, List.flatMap_nil, Int.toNat_natCast, strEq_self, Bool.not_eq_true', decide_true, decide_false, WLS, Try.underlying83, ty_ag_140, ty_ag_146, ty_ag_59, ty_of_142_2, ty_sz_140, ty_sz_146, ty_sz_59, ty_ze_146, ty_ze_59]
      | with_reducible refine gdb_split (fun h => ?_) (fun h => ?_)
      | (with_reducible refine drawK_id ?_); refine drawK_auto hmix (by kernel_rfl) ?_
      | (with_reducible refine draw_fin ?_ ?_); · kernel_rfl
      | (with_reducible refine draw_id ?_); kernel_rfl
      | exact ⟨_, _, WkR.gc [0, 1, 2, 3] rfl (by decide), by simp [gcH], by simp [gcI, pullI, pullS, hlen], by (simp [gcH, rows_pull, clo_pull, pullS, pullI, ix, Function.comp_def, mapC, kC_pull, mE_k, mE_v, mE_fold])⟩
      | (with_reducible refine And.intro ?_ ?_; · omega)
  · obtain ⟨e, he, rfl⟩ := List.mem_map.1 hy
    have heL : e ∈ L := rem_sub he
    have heR : e ∈ R := by
      rcases List.mem_append.1 (hp.mem_iff.2 heL) with h | h
      · exact absurd (List.mem_map.2 ⟨e, h, rfl⟩) hns
      · exact h
    obtain ⟨R1, R2, rfl⟩ := List.append_of_mem heR
    have hlen := hp.length_eq
    simp only [List.length_append, List.length_cons] at hlen
    have hMl : (M.filter (fun e => decide (l ≤ e.g))).length ≤ M.length := List.length_filter_le _ _
    have hp2 : ((M ++ [e]) ++ (R1 ++ R2)).Perm L := by
      refine List.Perm.trans ?_ hp
      rw [List.append_assoc]
      exact List.Perm.append_left _ (show (e :: (R1 ++ R2)).Perm (R1 ++ e :: R2) from List.perm_middle.symm)
    obtain ⟨l1, l2, hsp, hnx⟩ := rem_one (tk := (fun e => decide (l ≤ e.g))) hs heL (seen := M.map (·.s)) hns
    have hsub : ∀ z ∈ l1 ++ l2, z.k ≠ e.k := fun z hz h => by
      have hnr : ((remL (fun e => decide (l ≤ e.g)) L (M.map (·.s))).map fun e : EN => e.k).Nodup := (List.Sublist.map (fun e : EN => e.k) List.filter_sublist).nodup (show (L.map fun e : EN => e.k).Nodup from hn)
      rw [hsp, List.map_append, List.map_cons, List.nodup_append] at hnr
      rcases List.mem_append.1 hz with hz | hz
      · exact hnr.2.2 _ (List.mem_map.2 ⟨z, hz, rfl⟩) _ (by simp) h
      · exact (List.nodup_cons.1 hnr.2.1).1 (List.mem_map.2 ⟨z, hz, h⟩)
    have hsh := shp (l1 ++ e :: l2)
    have h2 := noK e.k _ hsub
    have hh := hitK e.k
    rw [List.map_append, List.map_cons] at hsh
    rw [List.map_append] at h2
    have hme : mE e ∈ List.map mE l1 ++ mE e :: List.map mE l2 := by simp
    have hw : IntKind.i64.wrap (((M.filter (fun e => decide (l ≤ e.g))).length : Int) + 1) = (((M.filter (fun e => decide (l ≤ e.g))).length + 1 : Nat) : Int) := by rw [wr_i64 (by omega) (by omega)]; rfl
    simp only [hsp, List.map_append, List.map_cons, List.set_cons_succ, List.set_cons_zero]
    cases htk : (decide (l ≤ e.g)) with
    | true =>
      have htk2 : (fun e => decide (l ≤ e.g)) e = true := htk
      rw [if_pos htk2] at hnx
      repeat' first
        | with_reducible rfl
        | simp only [g0, g1, g14, g5, push_one, pull_one, kC_push, kC_pull, mE_k, mE_v, mE_fold, kC_len, htk, hw, e_nil, e_cons, e_gd, e_gdt, e_gdf, e_g0, e_g1, e_op, e_step, e_stepG, e_stepN, e_clo, e_cloF, e_ret, e_put, e_junk, e_skip, e_reg, e_draw, e_seq, e_cond, e_block, e_exit, e_r, e_label, e_loop, q_sn, q_sr, q_se, q_bn, q_br, q_be, q_rr, q_rn, e_res0, e_res1, e_res2, e_b, d_nil, d_cons, d_op, d_step, d_stepG, d_stepN, d_clo, d_cloF, d_ret, d_put, d_junk, d_inf, d_fin, g_not, g_and, argsTM, stepE, stBuiltin, stBox, stAlloc, stLoad, stStore, stField, stExtract, stBin, stUn, stConv, stNilCheck, stFieldV, stIndex, stIndexAddr, stLen, stMin, stMax, stBuild, fillI, stBuildSlice, setRows, stMakeSlice, stAppend, srcR, segR, rdCells, stSlice, bnd, stArr, stCopy, stConv2, isIntV, cutR, byteRows, rowByte, binStr, Option.map_some, Option.map_none, eq_self, canTL, canT, canH, canL, patL, gcH, gcT, gcI, get_gcT, mapC, pullS, pullI, pushS, push1, pushI, pushC, pullHW, roC, ix, List.map_map, Function.comp_def, List.zip_cons_cons, List.zip_nil_left, List.zip_nil_right, List.range'_zero, List.range'_succ, rd, get, put, IV.cells, ofValue, seg, spl, ldIV, binInt, eqI, cellsEq, leafEq, resI, flat, isT, upd, up1, nextM, cR, ptrC, nAl, isAl, List.length_cons, List.length_nil, List.length_append, List.length_replicate, List.length_set, Nat.reduceAdd, Nat.reduceMul, Nat.reduceEqDiff, Nat.reduceLeDiff, Nat.zero_add, Nat.add_zero, ne_eq, reduceCtorEq, not_false_eq_true, not_true_eq_false, reduceIte, true_and, and_true, and_false, false_and, and_self, List.nil_append, List.cons_append, List.append_nil, List.getElem?_cons_zero, List.getElem?_cons_succ, List.drop_succ_cons, List.drop_zero, List.take_succ_cons, List.take_zero, List.set_cons_zero, List.set_cons_succ, List.getElem?_toArray, Option.bind_some, Bool.false_eq_true, Nat.add_one_ne_zero, Nat.succ_ne_self, List.map_cons, List.map_nil, Bool.not_true, Bool.not_false, List.replicate_succ, List.replicate_zero, List.mem_cons, List.not_mem_nil, or_false, false_or, or_true, true_or, forall_const, false_implies, implies_true, true_implies, Int.reduceToNat, Int.reduceLE, Int.reduceLT, Int.cast_ofNat_Int, bne, Int.reduceEq, Int.reduceNe, Int.reduceNeg, Int.reduceAdd, Int.reduceSub, Int.reduceMul, beq_self_eq_true, Int.reduceBEq, Int.reduceBNe, Bool.true_and, Bool.false_and, Bool.and_true, Bool.and_false, Bool.true_or, Bool.false_or, Bool.or_true, Bool.or_false, Nat.reduceLT, Nat.reduceSub, Nat.zero_min, Nat.min_zero, Nat.min_self, List.flatMap_cons, List.flatMap_nil, Int.toNat_natCast, strEq_self, Bool.not_eq_true', decide_true, decide_false, WLS, Try.underlying83, ty_ag_140, ty_ag_146, ty_ag_3, ty_ag_59, ty_ag_83, ty_of_142_1, ty_of_142_2, ty_of_146_1, ty_sz_140, ty_sz_146, ty_sz_3, ty_sz_59, ty_sz_83, ty_ze_146, ty_ze_59]
        | with_reducible refine gdb_split (fun h => ?_) (fun h => ?_)
        | (with_reducible refine drawK_id ?_); refine drawK_auto hmix (by kernel_rfl) ?_
        | (with_reducible refine draw_fin ?_ ?_); · kernel_rfl
        | (with_reducible refine draw_id ?_); kernel_rfl
        | (with_reducible refine callK_id (f := 69) ?_); refine callK_inline (rs := [.tmp 5]) (n := 13) Try.func69 rfl rfl rfl (by kernel_rfl) (by kernel_rfl) (by simp only [List.length_cons, List.length_nil]; decide) ?_
        | ((with_reducible refine genK_id ?_); refine entry_gen (c := 4) (m := 1) (e := mE e) (st := (mE e).2.2) (by simp [rd, put, get, g14]) rfl rfl hme rfl ?_)
        | ((with_reducible refine genD_id ?_); refine deleteD_hit ty_mp ty_lk rfl rfl (sh_k _) rfl hsh hh h2 ?_)
        | (with_reducible refine And.intro ?_ ?_; · omega)
      refine ⟨R1.length + R2.length, _, _, by simp, Wk.gc [0, 1, 2, 3, 4] rfl (by decide), M ++ [e], R1 ++ R2, by simp, hp2, ?_, ?_, ?_, ?_, ?_⟩ <;> first | with_reducible rfl | (simp [Function.comp_def, get_gcT, get, put, gcI, pullI, pullS, gcH, patL, canL, canH, canTL, canT, segR, rows_pull, iter_pull, ix, g0, g1, g14, g5, List.filter_append, List.filter_cons, htk]; done) | (simp only [List.map_append, List.map_cons, List.map_nil, hnx]; simp [Function.comp_def, get_gcT, get, put, gcI, pullI, pullS, gcH, patL, canL, canH, canTL, canT, segR, rows_pull, iter_pull, ix, fdbC, mpC, bxC, clo_pull, mapC, kC_pull, mE_k, mE_v, mE_fold]; done) | (simp only [List.map_append, List.map_cons, List.map_nil, hnx]; simp [Function.comp_def, get_gcT, get, put, gcI, pullI, pullS, gcH, patL, canL, canH, canTL, canT, segR, rows_pull, iter_pull, ix, fdbC, mpC, bxC, clo_pull, mapC, kC_pull, mE_k, mE_v, mE_fold]; rfl)
    | false =>
      have htk2 : (fun e => decide (l ≤ e.g)) e = false := htk
      rw [if_neg (show ¬ (decide (l ≤ e.g)) = true by rw [htk]; simp)] at hnx
      repeat' first
        | with_reducible rfl
        | simp only [g0, g1, g14, g5, push_one, pull_one, kC_push, kC_pull, mE_k, mE_v, mE_fold, kC_len, htk, hw, e_nil, e_cons, e_gd, e_gdt, e_gdf, e_g0, e_g1, e_op, e_step, e_stepG, e_stepN, e_clo, e_cloF, e_ret, e_put, e_junk, e_skip, e_reg, e_draw, e_seq, e_cond, e_block, e_exit, e_r, e_label, e_loop, q_sn, q_sr, q_se, q_bn, q_br, q_be, q_rr, q_rn, e_res0, e_res1, e_res2, e_b, d_nil, d_cons, d_op, d_step, d_stepG, d_stepN, d_clo, d_cloF, d_ret, d_put, d_junk, d_inf, d_fin, g_not, g_and, argsTM, stepE, stBuiltin, stBox, stAlloc, stLoad, stStore, stField, stExtract, stBin, stUn, stConv, stNilCheck, stFieldV, stIndex, stIndexAddr, stLen, stMin, stMax, stBuild, fillI, stBuildSlice, setRows, stMakeSlice, stAppend, srcR, segR, rdCells, stSlice, bnd, stArr, stCopy, stConv2, isIntV, cutR, byteRows, rowByte, binStr, Option.map_some, Option.map_none, eq_self, canTL, canT, canH, canL, patL, gcH, gcT, gcI, get_gcT, mapC, pullS, pullI, pushS, push1, pushI, pushC, pullHW, roC, ix, List.map_map, Function.comp_def, List.zip_cons_cons, List.zip_nil_left, List.zip_nil_right, List.range'_zero, List.range'_succ, rd, get, put, IV.cells, ofValue, seg, spl, ldIV, binInt, eqI, cellsEq, leafEq, resI, flat, isT, upd, up1, nextM, cR, ptrC, nAl, isAl, List.length_cons, List.length_nil, List.length_append, List.length_replicate, List.length_set, Nat.reduceAdd, Nat.reduceMul, Nat.reduceEqDiff, Nat.reduceLeDiff, Nat.zero_add, Nat.add_zero, ne_eq, reduceCtorEq, not_false_eq_true, not_true_eq_false, reduceIte, true_and, and_true, and_false, false_and, and_self, List.nil_append, List.cons_append, List.append_nil, List.getElem?_cons_zero, List.getElem?_cons_succ, List.drop_succ_cons, List.drop_zero, List.take_succ_cons, List.take_zero, List.set_cons_zero, List.set_cons_succ, List.getElem?_toArray, Option.bind_some, Bool.false_eq_true, Nat.add_one_ne_zero, Nat.succ_ne_self, List.map_cons, List.map_nil, Bool.not_true, Bool.not_false, List.replicate_succ, List.replicate_zero, List.mem_cons, List.not_mem_nil, or_false, false_or, or_true, true_or, forall_const, false_implies, implies_true, true_implies, Int.reduceToNat, Int.reduceLE, Int.reduceLT, Int.cast_ofNat_Int, bne, Int.reduceEq, Int.reduceNe, Int.reduceNeg, Int.reduceAdd, Int.reduceSub, Int.reduceMul, beq_self_eq_true, Int.reduceBEq, Int.reduceBNe, Bool.true_and, Bool.false_and, Bool.and_true, Bool.and_false, Bool.true_or, Bool.false_or, Bool.or_true, Bool.or_false, Nat.reduceLT, Nat.reduceSub, Nat.zero_min, Nat.min_zero, Nat.min_self, List.flatMap_cons, List.flatMap_nil, Int.toNat_natCast, strEq_self, Bool.not_eq_true', decide_true, decide_false, WLS, Try.underlying83, ty_ag_140, ty_ag_146, ty_ag_3, ty_ag_59, ty_ag_83, ty_of_142_1, ty_of_142_2, ty_of_146_1, ty_sz_140, ty_sz_146, ty_sz_3, ty_sz_59, ty_sz_83, ty_ze_146, ty_ze_59]
        | with_reducible refine gdb_split (fun h => ?_) (fun h => ?_)
        | (with_reducible refine drawK_id ?_); refine drawK_auto hmix (by kernel_rfl) ?_
        | (with_reducible refine draw_fin ?_ ?_); · kernel_rfl
        | (with_reducible refine draw_id ?_); kernel_rfl
        | (with_reducible refine callK_id (f := 69) ?_); refine callK_inline (rs := [.tmp 5]) (n := 13) Try.func69 rfl rfl rfl (by kernel_rfl) (by kernel_rfl) (by simp only [List.length_cons, List.length_nil]; decide) ?_
        | ((with_reducible refine genK_id ?_); refine entry_gen (c := 4) (m := 1) (e := mE e) (st := (mE e).2.2) (by simp [rd, put, get, g14]) rfl rfl hme rfl ?_)
        | ((with_reducible refine genD_id ?_); refine deleteD_hit ty_mp ty_lk rfl rfl (sh_k _) rfl hsh hh h2 ?_)
        | (with_reducible refine And.intro ?_ ?_; · omega)
      refine ⟨R1.length + R2.length, _, _, by simp, Wk.gc [0, 1, 2, 3, 4] rfl (by decide), M ++ [e], R1 ++ R2, by simp, hp2, ?_, ?_, ?_, ?_, ?_⟩ <;> first | with_reducible rfl | (simp [Function.comp_def, get_gcT, get, put, gcI, pullI, pullS, gcH, patL, canL, canH, canTL, canT, segR, rows_pull, iter_pull, ix, g0, g1, g14, g5, List.filter_append, List.filter_cons, htk]; done) | (simp only [List.map_append, List.map_cons, List.map_nil, hnx]; simp [Function.comp_def, get_gcT, get, put, gcI, pullI, pullS, gcH, patL, canL, canH, canTL, canT, segR, rows_pull, iter_pull, ix, fdbC, mpC, bxC, clo_pull, mapC, kC_pull, mE_k, mE_v, mE_fold]; done) | (simp only [List.map_append, List.map_cons, List.map_nil, hnx]; simp [Function.comp_def, get_gcT, get, put, gcI, pullI, pullS, gcH, patL, canL, canH, canTL, canT, segR, rows_pull, iter_pull, ix, fdbC, mpC, bxC, clo_pull, mapC, kC_pull, mE_k, mE_v, mE_fold]; rfl)
end Go.Ev
