/- A part of the proof: contracts of the functions that the statement reaches. -/
import Derived.Test.YtlngmicffhkghaaR7
namespace Go.Ev
open Go.Proofs
set_option maxRecDepth 100000
set_option linter.unusedSimpArgs false
set_option linter.unusedVariables false
set_option maxHeartbeats 4000000
theorem at_way (self : Int) (ps : List PT) : ∀ i, i ≤ ps.length → ∀ q, 0 ≤ atS self ps i → ps[(atS self ps i).toNat]? = some q → isWay self q = true
  | 0, _, q, h, _ => by simp [atS] at h
  | i + 1, hi, q, h, hq => by
    obtain ⟨p, hp⟩ : ∃ p, ps[i]? = some p := ⟨ps[i], List.getElem?_eq_getElem (by omega)⟩
    have ih := at_way self ps i (by omega)
    have e1 : atS self ps (i + 1) = stepA self ps (atS self ps i) i p := by rw [atS]; simp only [hp]
    rw [e1] at h hq
    unfold stepA at h hq
    split at h
    · rename_i hw
      rw [if_pos hw] at hq
      have self_ : ps[((i : Nat) : Int).toNat]? = some q → isWay self q = true := fun hq => by
        rw [Int.toNat_natCast, hp] at hq; cases hq; exact hw
      split at h
      · rename_i hd; rw [if_pos hd] at hq; exact self_ hq
      · rename_i hd; rw [if_neg hd] at hq
        split at h
        · rename_i q2 hq2
          rw [hq2] at hq
          simp only at hq
          split at h
          · rename_i hB; rw [if_pos hB] at hq; exact self_ hq
          · rename_i hB; rw [if_neg hB] at hq; exact ih q h hq
        · rename_i hq2
          rw [hq2] at hq
          simp only at hq
          exact ih q h hq
    · rename_i hw
      rw [if_neg hw] at hq
      exact ih q h hq
structure ChOk (s0 : Int) (ps : List PT) (h : CH) : Prop where
  le : h.r ≤ s0
  root : (h.r == s0) = (h.n == 0)
  n0 : 0 ≤ h.n
  nN : h.n ≤ ps.length
  way : ∀ (i : Nat) (p : PT), ps[i]? = some p → h.n = (i : Int) + 1 → p.on = true ∧ p.heard = true
theorem ch_ok (self : Int) (ps : List PT) : ChOk self ps (chS self ps) := by
  rcases best_at self ps ps.length (Nat.le_refl _) with ⟨h1, h2⟩ | ⟨h1, h2, q, hq, h3⟩
  · have e : chS self ps = ⟨self, 0, 0⟩ := by simp [chS, h2]
    rw [e]
    exact ⟨Int.le_refl _, by simp, Int.le_refl _, by simp, fun i p _ hn => by simp at hn; omega⟩
  · by_cases hlt : (wayV q).r < self
    · have e : chS self ps = ⟨(wayV q).r, (wayV q).c, atS self ps ps.length + 1⟩ := by
        have : 0 < atS self ps ps.length + 1 := by omega
        simp [chS, h3, hlt, this]
      rw [e]
      refine ⟨Int.le_of_lt hlt, ?_, by simp; omega, by simp; omega, fun i p hp hn => ?_⟩
      · have a1 : ((wayV q).r == self) = false := by rw [beq_eq_false_iff_ne]; omega
        have a2 : (atS self ps ps.length + 1 == 0) = false := by rw [beq_eq_false_iff_ne]; omega
        simp only [a1, a2]
      · simp at hn
        have hi : (atS self ps ps.length).toNat = i := by omega
        have hw := at_way self ps ps.length (Nat.le_refl _) q h1 hq
        rw [hi, hp] at hq
        cases hq
        unfold isWay at hw
        simp only [Bool.and_eq_true] at hw
        exact ⟨hw.1, hw.2.1⟩
    · have e : chS self ps = ⟨self, 0, 0⟩ := by simp [chS, h3, hlt]
      rw [e]
      exact ⟨Int.le_refl _, by simp, Int.le_refl _, by simp, fun i p _ hn => by simp at hn; omega⟩
theorem rolesN_get (self : Int) (h : CH) (ps : List PT) : ∀ (k i : Nat) (p : PT), k ≤ ps.length → i < k → ps[i]? = some p → (rolesN self h ps k)[i]? = some (roleI self h.n ((i : Int) + 1) p (tellI self h p)) ∧ (tellsN self h ps k)[i]? = some (tellI self h p)
  | 0, i, p, _, hi, _ => by omega
  | k + 1, i, p, hk, hi, hp => by
    obtain ⟨q, hq⟩ : ∃ q, ps[k]? = some q := ⟨ps[k], List.getElem?_eq_getElem (by omega)⟩
    have l1 := rolesN_len self h ps k (by omega)
    have l2 := tellsN_len self h ps k (by omega)
    simp only [rolesN, tellsN, hq]
    by_cases e : i = k
    · subst e
      rw [hp] at hq; cases hq
      rw [List.getElem?_append_right (by omega), List.getElem?_append_right (by omega), l1, l2]
      simp
    · rw [List.getElem?_append_left (by omega), List.getElem?_append_left (by omega)]
      exact rolesN_get self h ps k i p (by omega) (by omega) hp
def I4 (A : Chunk) (qs : List PT) (h : CH) (R : List Int) (T : List V4) (m : Nat) (tm : TM) (H : Heap) : Prop := ∃ i : Nat, m = qs.length - i ∧ i ≤ qs.length ∧ get tm 8 = .s (.raw (.int .i64 i)) ∧ get tm 5 = .s (.slice 1 0 qs.length) ∧ get tm 7 = .s (.ptr 2 0 0) ∧
  H = [A, .rows true 8 (qs.map encP), T5 h 3 4 qs.length, .rows true 1 (R.map sI), .rows true 4 (T.map encV)]
theorem law4 (self : Int) (ps : List PT) : FunR Try.prog 4 [.rows false 8 (ps.map encA)] [.s (.raw (.int .u64 self)), .s (.slice 0 0 ps.length)] (.s (.raw (.bool true))) := by
  have f12' := f12 ps
  have hk : (ps.take 16).length ≤ 1000 := by simp; omega
  have f13' := f13 self (ps.take 16) hk
  have hR := rolesN_len self (chS self (ps.take 16)) (ps.take 16) _ (Nat.le_refl _)
  have hT := tellsN_len self (chS self (ps.take 16)) (ps.take 16) _ (Nat.le_refl _)
  have hG := rolesN_get self (chS self (ps.take 16)) (ps.take 16) (ps.take 16).length
  have hC := ch_ok self (ps.take 16)
  generalize chS self (ps.take 16) = h at *
  generalize rolesN self h (ps.take 16) (ps.take 16).length = R at *
  generalize tellsN self h (ps.take 16) (ps.take 16).length = T at *
  generalize ps.take 16 = qs at *
  have c1 : decide (self < h.r) = false := decide_eq_false (by have := hC.le; omega)
  have c2 := hC.root
  have c3 : decide (h.n < 0) = false := decide_eq_false (by have := hC.n0; omega)
  have c4 : decide ((qs.length : Int) < h.n) = false := decide_eq_false (by have := hC.nN; omega)
  refine funR_of rfl fun X => ?_
  refine callK_inline (rs := [.tmp 4]) (n := 121) Try.func4 rfl rfl rfl (by kernel_rfl) (by kernel_rfl) (by simp only [List.length_cons, List.length_nil]; decide) ?_
  repeat' first
    | with_reducible rfl
    | simp only [Nat.reduceSub, push_P, push_V, push_I, beq_self_eq_true, c1, c2, c3, c4, e_nil, e_cons, e_gd, e_gdt, e_gdf, e_g0, e_g1, e_op, e_step, e_ret, e_put, e_junk, e_skip, e_reg, e_draw, e_seq, e_cond, e_block, e_exit, e_r, e_label, e_loop, q_sn, q_sr, q_se, q_bn, q_br, q_be, q_rr, q_rn, e_res0, e_res1, e_res2, e_b, d_nil, d_cons, d_op, d_step, d_ret, d_put, d_junk, d_inf, d_fin, g_not, g_and, argsTM, stepE, stBuiltin, stBox, stAlloc, stLoad, stStore, stField, stExtract, stBin, stUn, stConv, stNilCheck, stFieldV, stIndex, stIndexAddr, stLen, stMin, stMax, stBuild, fillI, stBuildSlice, setRows, stMakeSlice, stAppend, srcR, segR, rdCells, stSlice, bnd, stArr, stCopy, stConv2, isIntV, cutR, byteRows, rowByte, binStr, Option.map_some, Option.map_none, eq_self, canTL, canT, canH, canL, patL, gcH, gcT, gcI, get_gcT, mapC, pullS, pullI, pushS, push1, pushI, pushC, pullHW, roC, ix, List.map_map, Function.comp_def, List.zip_cons_cons, List.zip_nil_left, List.zip_nil_right, List.range'_zero, List.range'_succ, rd, get, put, IV.cells, ofValue, seg, spl, ldIV, binInt, eqI, cellsEq, leafEq, resI, flat, isT, upd, up1, nextM, cR, ptrC, nAl, isAl, List.length_cons, List.length_nil, List.length_append, List.length_replicate, List.length_set, Nat.reduceAdd, Nat.reduceMul, Nat.reduceEqDiff, Nat.reduceLeDiff, Nat.zero_add, Nat.add_zero, ne_eq, reduceCtorEq, not_false_eq_true, not_true_eq_false, reduceIte, true_and, and_true, and_false, false_and, and_self, List.nil_append, List.cons_append, List.append_nil, List.getElem?_cons_zero, List.getElem?_cons_succ, List.drop_succ_cons, List.drop_zero, List.take_succ_cons, List.take_zero, List.set_cons_zero, List.set_cons_succ, List.getElem?_toArray, Option.bind_some, Bool.false_eq_true, Nat.add_one_ne_zero, Nat.succ_ne_self, List.map_cons, List.map_nil, Bool.not_true, Bool.not_false, List.replicate_succ, List.replicate_zero, List.mem_cons, List.not_mem_nil, or_false, false_or, or_true, true_or, forall_const, false_implies, implies_true, true_implies, Int.reduceToNat, Int.reduceLE, Int.reduceLT, Int.cast_ofNat_Int, bne, Int.reduceEq, Int.reduceNe, Int.reduceNeg, Int.reduceAdd, Int.reduceSub, Int.reduceMul, beq_self_eq_true, Int.reduceBEq, Int.reduceBNe, Bool.true_and, Bool.false_and, Bool.and_true, Bool.and_false, Bool.true_or, Bool.false_or, Bool.or_true, Bool.or_false, Nat.reduceLT, Nat.reduceSub, Nat.zero_min, Nat.min_zero, Nat.min_self, List.flatMap_cons, List.flatMap_nil, Int.toNat_natCast, strEq_self, Bool.not_eq_true', decide_true, decide_false, wl_u8_0, wl_u8_1, wl_u8_2, wl_u8_3, wl_u8_4, wl_u8_5, wl_u8_6, wl_u8_7, wl_u8_8, wl_u8_9, wl_u8_10, wl_u8_11, wl_u8_12, wl_u8_13, wl_u8_14, wl_u8_15, wl_u8_16, wl_u16_0, wl_u16_1, wl_u16_2, wl_u16_3, wl_u16_4, wl_u16_5, wl_u16_6, wl_u16_7, wl_u16_8, wl_u16_9, wl_u16_10, wl_u16_11, wl_u16_12, wl_u16_13, wl_u16_14, wl_u16_15, wl_u16_16, wl_u32_0, wl_u32_1, wl_u32_2, wl_u32_3, wl_u32_4, wl_u32_5, wl_u32_6, wl_u32_7, wl_u32_8, wl_u32_9, wl_u32_10, wl_u32_11, wl_u32_12, wl_u32_13, wl_u32_14, wl_u32_15, wl_u32_16, wl_u64_0, wl_u64_1, wl_u64_2, wl_u64_3, wl_u64_4, wl_u64_5, wl_u64_6, wl_u64_7, wl_u64_8, wl_u64_9, wl_u64_10, wl_u64_11, wl_u64_12, wl_u64_13, wl_u64_14, wl_u64_15, wl_u64_16, wl_i32_0, wl_i32_1, wl_i32_2, wl_i32_3, wl_i32_4, wl_i32_5, wl_i32_6, wl_i32_7, wl_i32_8, wl_i32_9, wl_i32_10, wl_i32_11, wl_i32_12, wl_i32_13, wl_i32_14, wl_i32_15, wl_i32_16, wl_i64_0, wl_i64_1, wl_i64_2, wl_i64_3, wl_i64_4, wl_i64_5, wl_i64_6, wl_i64_7, wl_i64_8, wl_i64_9, wl_i64_10, wl_i64_11, wl_i64_12, wl_i64_13, wl_i64_14, wl_i64_15, wl_i64_16, Try.underlying4, ty_ag_29, ty_ag_3, ty_ag_31, ty_ag_32, ty_ag_4, ty_ag_44, ty_of_34_0, ty_of_34_2, ty_of_34_3, ty_of_34_4, ty_of_47_0, ty_of_47_1, ty_of_47_2, ty_sl_25, ty_sl_31, ty_sl_32, ty_sz_29, ty_sz_3, ty_sz_31, ty_sz_32, ty_sz_34, ty_sz_4, ty_sz_44, ty_ze_34]
    | with_reducible refine gdb_split (fun h => ?_) (fun h => ?_)
    | (with_reducible refine drawK_id ?_); refine drawK_auto hmix (by kernel_rfl) ?_
    | (with_reducible refine draw_fin ?_ ?_); · kernel_rfl
    | (with_reducible refine draw_id ?_); kernel_rfl
    | (with_reducible refine callK_id (f := 11) ?_); refine callK_fun (f11) rfl rfl ?_
    | ((with_reducible refine callK_id (f := 12) ?_); refine callK_funW [0] [] (f12') (by simp [Function.comp_def, pullHW, roC, mapC, pullS, pullI, ix, pull_P, pull_A, pull_V]) rfl rfl (by decide) (by simp) (by simp [pullI, pullS, ix]) ?_; rintro r Hn ⟨rfl, rfl⟩ -; skip)
    | ((with_reducible refine callK_id (f := 13) ?_); refine callK_funW [1] [] (f13') (by simp [Function.comp_def, pullHW, roC, mapC, pullS, pullI, ix, pull_P, pull_A, pull_V]) rfl rfl (by decide) (by simp) (by simp [pullI, pullS, ix]) ?_; rintro r Hn ⟨rfl, rfl⟩ -; skip)
    | (with_reducible refine And.intro ?_ ?_; · omega)
  refine loopK_wk (by kernel_rfl) (I4 (.rows false 8 (ps.map encA)) qs h R T) qs.length ⟨_, _, Wk.can [(1, 5, 0, 3), (4, 5, 0, 4)] [.inl 0, .inl 1, .inl 5, .inr 0, .inr 1] rfl (by simp [patL]), 0, rfl, by omega, ?_, ?_, ?_, ?_⟩ ?_
  · simp [Function.comp_def, get_gcT, get, gcI, pullI, pullS, gcH, patL, canL, canH, canTL, canT, segR, mapC, ix, pull_P, pull_V, pull_A]
  · simp [Function.comp_def, get_gcT, get, gcI, pullI, pullS, gcH, patL, canL, canH, canTL, canT, segR, mapC, ix, pull_P, pull_V, pull_A]
  · simp [Function.comp_def, get_gcT, get, gcI, pullI, pullS, gcH, patL, canL, canH, canTL, canT, segR, mapC, ix, pull_P, pull_V, pull_A]
  · simp [Function.comp_def, get_gcT, get, gcI, pullI, pullS, gcH, patL, canL, canH, canTL, canT, segR, mapC, ix, pull_P, pull_V, pull_A, pull_I, T5, hR, hT]
  clear f12' f13'
  rintro m tm H ⟨i, rfl, hi, g8, g5, g7, rfl⟩
  have hi1 : IntKind.i64.wrap ((i : Int) + 1) = (i : Int) + 1 := wr_i64 (by omega) (by omega)
  have lr : (R.map sI).length = qs.length := by rw [List.length_map, hR]
  have lt : (T.map encV).length = qs.length := by rw [List.length_map, hT]
  by_cases hq : i < qs.length
  · have q : decide ((i : Int) < (qs.length : Int)) = true := decide_eq_true (by omega)
    have hb0 : (0 : Int) ≤ (i : Int) := by omega
    have hbN : (i : Int) < (qs.length : Int) := by omega
    obtain ⟨p, hp⟩ : ∃ p, qs[i]? = some p := ⟨qs[i], by simp [hq]⟩
    have hpr : (qs.map encP)[i]? = some (encP p) := by rw [List.getElem?_map, hp]; rfl
    obtain ⟨hx, hv⟩ := hG i p (Nat.le_refl _) hq hp
    have hway := hC.way i p hp
    have f15' := f15 p.v (tellI self h p)
    clear hG hC
    unfold roleI at hx
    generalize hbt : betV p.v (tellI self h p) = bt at hx f15'
    generalize tellI self h p = v at hx hv f15'
    clear hbt
    have hvr : (T.map encV)[i]? = some (encV v) := by rw [List.getElem?_map, hv]; rfl
    have hsym : ((i : Int) + 1 == h.n) = (h.n == (i : Int) + 1) := by rw [Bool.eq_iff_iff, beq_iff_eq, beq_iff_eq]; exact eq_comm
    rw [hsym] at hx
    have main : ∀ x : Int, R[i]? = some x → (R.map sI)[i]? = some [.raw (.int .i64 x)] := fun x hx => by rw [List.getElem?_map, hx]; rfl
    cases e1 : p.on with
    | false =>
      have e2 : (h.n == (i : Int) + 1) = false := by
        rw [beq_eq_false_iff_ne]; intro e; rw [(hway e).1] at e1; cases e1
      simp only [e1, Bool.not_true, Bool.not_false, Bool.true_or, Bool.false_or, Bool.or_false, Bool.or_true, if_true, if_false, Bool.false_eq_true] at hx
      have hxr := main _ hx
      repeat' first
        | with_reducible rfl
        | simp only [q, hb0, hbN, hi1, lr, lt, hxr, hvr, hpr, encP, encV, beq_true, beq_false, Bool.true_beq, Bool.false_beq, e1, e2, T5, Int.toNat_natCast, g8, g5, g7, e_nil, e_cons, e_gd, e_gdt, e_gdf, e_g0, e_g1, e_op, e_step, e_ret, e_put, e_junk, e_skip, e_reg, e_draw, e_seq, e_cond, e_block, e_exit, e_r, e_label, e_loop, q_sn, q_sr, q_se, q_bn, q_br, q_be, q_rr, q_rn, e_res0, e_res1, e_res2, e_b, d_nil, d_cons, d_op, d_step, d_ret, d_put, d_junk, d_inf, d_fin, g_not, g_and, argsTM, stepE, stBuiltin, stBox, stAlloc, stLoad, stStore, stField, stExtract, stBin, stUn, stConv, stNilCheck, stFieldV, stIndex, stIndexAddr, stLen, stMin, stMax, stBuild, fillI, stBuildSlice, setRows, stMakeSlice, stAppend, srcR, segR, rdCells, stSlice, bnd, stArr, stCopy, stConv2, isIntV, cutR, byteRows, rowByte, binStr, Option.map_some, Option.map_none, eq_self, canTL, canT, canH, canL, patL, gcH, gcT, gcI, get_gcT, mapC, pullS, pullI, pushS, push1, pushI, pushC, pullHW, roC, ix, List.map_map, Function.comp_def, List.zip_cons_cons, List.zip_nil_left, List.zip_nil_right, List.range'_zero, List.range'_succ, rd, get, put, IV.cells, ofValue, seg, spl, ldIV, binInt, eqI, cellsEq, leafEq, resI, flat, isT, upd, up1, nextM, cR, ptrC, nAl, isAl, List.length_cons, List.length_nil, List.length_append, List.length_replicate, List.length_set, Nat.reduceAdd, Nat.reduceMul, Nat.reduceEqDiff, Nat.reduceLeDiff, Nat.zero_add, Nat.add_zero, ne_eq, reduceCtorEq, not_false_eq_true, not_true_eq_false, reduceIte, true_and, and_true, and_false, false_and, and_self, List.nil_append, List.cons_append, List.append_nil, List.getElem?_cons_zero, List.getElem?_cons_succ, List.drop_succ_cons, List.drop_zero, List.take_succ_cons, List.take_zero, List.set_cons_zero, List.set_cons_succ, List.getElem?_toArray, Option.bind_some, Bool.false_eq_true, Nat.add_one_ne_zero, Nat.succ_ne_self, List.map_cons, List.map_nil, Bool.not_true, Bool.not_false, List.replicate_succ, List.replicate_zero, List.mem_cons, List.not_mem_nil, or_false, false_or, or_true, true_or, forall_const, false_implies, implies_true, true_implies, Int.reduceToNat, Int.reduceLE, Int.reduceLT, Int.cast_ofNat_Int, bne, Int.reduceEq, Int.reduceNe, Int.reduceNeg, Int.reduceAdd, Int.reduceSub, Int.reduceMul, beq_self_eq_true, Int.reduceBEq, Int.reduceBNe, Bool.true_and, Bool.false_and, Bool.and_true, Bool.and_false, Bool.true_or, Bool.false_or, Bool.or_true, Bool.or_false, Nat.reduceLT, Nat.reduceSub, Nat.zero_min, Nat.min_zero, Nat.min_self, List.flatMap_cons, List.flatMap_nil, Int.toNat_natCast, strEq_self, Bool.not_eq_true', decide_true, decide_false, wl_u8_0, wl_u8_1, wl_u8_2, wl_u8_3, wl_u8_4, wl_u8_5, wl_u8_6, wl_u8_7, wl_u8_8, wl_u8_9, wl_u8_10, wl_u8_11, wl_u8_12, wl_u8_13, wl_u8_14, wl_u8_15, wl_u8_16, wl_u16_0, wl_u16_1, wl_u16_2, wl_u16_3, wl_u16_4, wl_u16_5, wl_u16_6, wl_u16_7, wl_u16_8, wl_u16_9, wl_u16_10, wl_u16_11, wl_u16_12, wl_u16_13, wl_u16_14, wl_u16_15, wl_u16_16, wl_u32_0, wl_u32_1, wl_u32_2, wl_u32_3, wl_u32_4, wl_u32_5, wl_u32_6, wl_u32_7, wl_u32_8, wl_u32_9, wl_u32_10, wl_u32_11, wl_u32_12, wl_u32_13, wl_u32_14, wl_u32_15, wl_u32_16, wl_u64_0, wl_u64_1, wl_u64_2, wl_u64_3, wl_u64_4, wl_u64_5, wl_u64_6, wl_u64_7, wl_u64_8, wl_u64_9, wl_u64_10, wl_u64_11, wl_u64_12, wl_u64_13, wl_u64_14, wl_u64_15, wl_u64_16, wl_i32_0, wl_i32_1, wl_i32_2, wl_i32_3, wl_i32_4, wl_i32_5, wl_i32_6, wl_i32_7, wl_i32_8, wl_i32_9, wl_i32_10, wl_i32_11, wl_i32_12, wl_i32_13, wl_i32_14, wl_i32_15, wl_i32_16, wl_i64_0, wl_i64_1, wl_i64_2, wl_i64_3, wl_i64_4, wl_i64_5, wl_i64_6, wl_i64_7, wl_i64_8, wl_i64_9, wl_i64_10, wl_i64_11, wl_i64_12, wl_i64_13, wl_i64_14, wl_i64_15, wl_i64_16, Try.underlying4, ty_ag_29, ty_ag_3, ty_ag_31, ty_ag_32, ty_ag_4, ty_ag_44, ty_of_34_0, ty_of_34_2, ty_of_34_3, ty_of_34_4, ty_of_47_0, ty_of_47_1, ty_of_47_2, ty_sl_25, ty_sl_31, ty_sl_32, ty_sz_29, ty_sz_3, ty_sz_31, ty_sz_32, ty_sz_34, ty_sz_4, ty_sz_44, ty_ze_34]
        | with_reducible refine gdb_split (fun h => ?_) (fun h => ?_)
        | (with_reducible refine drawK_id ?_); refine drawK_auto hmix (by kernel_rfl) ?_
        | (with_reducible refine draw_fin ?_ ?_); · kernel_rfl
        | (with_reducible refine draw_id ?_); kernel_rfl
        | (with_reducible refine callD_id (f := 15) ?_); refine callD_of (f15') rfl rfl ?_
        | (refine ⟨qs.length - (i + 1), _, _, by omega, Wk.can [(1, 2, 0, 3), (4, 2, 0, 4)] [.inl 0, .inl 1, .inl 2, .inr 0, .inr 1] rfl (by simp [patL]), i + 1, rfl, by omega, ?_, ?_, ?_, ?_⟩ <;> first | with_reducible rfl | (simp [Function.comp_def, get_gcT, get, gcI, pullI, pullS, gcH, patL, canL, canH, canTL, canT, segR, mapC, ix, pull_P, pull_V, pull_A, g8, g5, g7, pull_I, lr, lt, hR, hT, T5]; done))
        | (with_reducible refine And.intro ?_ ?_; · omega)
    | true =>
      cases e2 : (h.n == (i : Int) + 1) with
      | true =>
        have e3 : p.heard = true := (hway (by simpa using e2)).2
        simp only [e1, e2, Bool.not_true, Bool.not_false, Bool.true_or, Bool.false_or, Bool.or_false, Bool.or_true, if_true, if_false, Bool.false_eq_true] at hx
        have hxr := main _ hx
        repeat' first
          | with_reducible rfl
          | simp only [q, hb0, hbN, hi1, lr, lt, hxr, hvr, hpr, encP, encV, beq_true, beq_false, Bool.true_beq, Bool.false_beq, e1, e2, e3, T5, Int.toNat_natCast, g8, g5, g7, e_nil, e_cons, e_gd, e_gdt, e_gdf, e_g0, e_g1, e_op, e_step, e_ret, e_put, e_junk, e_skip, e_reg, e_draw, e_seq, e_cond, e_block, e_exit, e_r, e_label, e_loop, q_sn, q_sr, q_se, q_bn, q_br, q_be, q_rr, q_rn, e_res0, e_res1, e_res2, e_b, d_nil, d_cons, d_op, d_step, d_ret, d_put, d_junk, d_inf, d_fin, g_not, g_and, argsTM, stepE, stBuiltin, stBox, stAlloc, stLoad, stStore, stField, stExtract, stBin, stUn, stConv, stNilCheck, stFieldV, stIndex, stIndexAddr, stLen, stMin, stMax, stBuild, fillI, stBuildSlice, setRows, stMakeSlice, stAppend, srcR, segR, rdCells, stSlice, bnd, stArr, stCopy, stConv2, isIntV, cutR, byteRows, rowByte, binStr, Option.map_some, Option.map_none, eq_self, canTL, canT, canH, canL, patL, gcH, gcT, gcI, get_gcT, mapC, pullS, pullI, pushS, push1, pushI, pushC, pullHW, roC, ix, List.map_map, Function.comp_def, List.zip_cons_cons, List.zip_nil_left, List.zip_nil_right, List.range'_zero, List.range'_succ, rd, get, put, IV.cells, ofValue, seg, spl, ldIV, binInt, eqI, cellsEq, leafEq, resI, flat, isT, upd, up1, nextM, cR, ptrC, nAl, isAl, List.length_cons, List.length_nil, List.length_append, List.length_replicate, List.length_set, Nat.reduceAdd, Nat.reduceMul, Nat.reduceEqDiff, Nat.reduceLeDiff, Nat.zero_add, Nat.add_zero, ne_eq, reduceCtorEq, not_false_eq_true, not_true_eq_false, reduceIte, true_and, and_true, and_false, false_and, and_self, List.nil_append, List.cons_append, List.append_nil, List.getElem?_cons_zero, List.getElem?_cons_succ, List.drop_succ_cons, List.drop_zero, List.take_succ_cons, List.take_zero, List.set_cons_zero, List.set_cons_succ, List.getElem?_toArray, Option.bind_some, Bool.false_eq_true, Nat.add_one_ne_zero, Nat.succ_ne_self, List.map_cons, List.map_nil, Bool.not_true, Bool.not_false, List.replicate_succ, List.replicate_zero, List.mem_cons, List.not_mem_nil, or_false, false_or, or_true, true_or, forall_const, false_implies, implies_true, true_implies, Int.reduceToNat, Int.reduceLE, Int.reduceLT, Int.cast_ofNat_Int, bne, Int.reduceEq, Int.reduceNe, Int.reduceNeg, Int.reduceAdd, Int.reduceSub, Int.reduceMul, beq_self_eq_true, Int.reduceBEq, Int.reduceBNe, Bool.true_and, Bool.false_and, Bool.and_true, Bool.and_false, Bool.true_or, Bool.false_or, Bool.or_true, Bool.or_false, Nat.reduceLT, Nat.reduceSub, Nat.zero_min, Nat.min_zero, Nat.min_self, List.flatMap_cons, List.flatMap_nil, Int.toNat_natCast, strEq_self, Bool.not_eq_true', decide_true, decide_false, wl_u8_0, wl_u8_1, wl_u8_2, wl_u8_3, wl_u8_4, wl_u8_5, wl_u8_6, wl_u8_7, wl_u8_8, wl_u8_9, wl_u8_10, wl_u8_11, wl_u8_12, wl_u8_13, wl_u8_14, wl_u8_15, wl_u8_16, wl_u16_0, wl_u16_1, wl_u16_2, wl_u16_3, wl_u16_4, wl_u16_5, wl_u16_6, wl_u16_7, wl_u16_8, wl_u16_9, wl_u16_10, wl_u16_11, wl_u16_12, wl_u16_13, wl_u16_14, wl_u16_15, wl_u16_16, wl_u32_0, wl_u32_1, wl_u32_2, wl_u32_3, wl_u32_4, wl_u32_5, wl_u32_6, wl_u32_7, wl_u32_8, wl_u32_9, wl_u32_10, wl_u32_11, wl_u32_12, wl_u32_13, wl_u32_14, wl_u32_15, wl_u32_16, wl_u64_0, wl_u64_1, wl_u64_2, wl_u64_3, wl_u64_4, wl_u64_5, wl_u64_6, wl_u64_7, wl_u64_8, wl_u64_9, wl_u64_10, wl_u64_11, wl_u64_12, wl_u64_13, wl_u64_14, wl_u64_15, wl_u64_16, wl_i32_0, wl_i32_1, wl_i32_2, wl_i32_3, wl_i32_4, wl_i32_5, wl_i32_6, wl_i32_7, wl_i32_8, wl_i32_9, wl_i32_10, wl_i32_11, wl_i32_12, wl_i32_13, wl_i32_14, wl_i32_15, wl_i32_16, wl_i64_0, wl_i64_1, wl_i64_2, wl_i64_3, wl_i64_4, wl_i64_5, wl_i64_6, wl_i64_7, wl_i64_8, wl_i64_9, wl_i64_10, wl_i64_11, wl_i64_12, wl_i64_13, wl_i64_14, wl_i64_15, wl_i64_16, Try.underlying4, ty_ag_29, ty_ag_3, ty_ag_31, ty_ag_32, ty_ag_4, ty_ag_44, ty_of_34_0, ty_of_34_2, ty_of_34_3, ty_of_34_4, ty_of_47_0, ty_of_47_1, ty_of_47_2, ty_sl_25, ty_sl_31, ty_sl_32, ty_sz_29, ty_sz_3, ty_sz_31, ty_sz_32, ty_sz_34, ty_sz_4, ty_sz_44, ty_ze_34]
          | with_reducible refine gdb_split (fun h => ?_) (fun h => ?_)
          | (with_reducible refine drawK_id ?_); refine drawK_auto hmix (by kernel_rfl) ?_
          | (with_reducible refine draw_fin ?_ ?_); · kernel_rfl
          | (with_reducible refine draw_id ?_); kernel_rfl
          | (with_reducible refine callD_id (f := 15) ?_); refine callD_of (f15') rfl rfl ?_
          | (refine ⟨qs.length - (i + 1), _, _, by omega, Wk.can [(1, 2, 0, 3), (4, 2, 0, 4)] [.inl 0, .inl 1, .inl 2, .inr 0, .inr 1] rfl (by simp [patL]), i + 1, rfl, by omega, ?_, ?_, ?_, ?_⟩ <;> first | with_reducible rfl | (simp [Function.comp_def, get_gcT, get, gcI, pullI, pullS, gcH, patL, canL, canH, canTL, canT, segR, mapC, ix, pull_P, pull_V, pull_A, g8, g5, g7, pull_I, lr, lt, hR, hT, T5]; done))
          | (with_reducible refine And.intro ?_ ?_; · omega)
      | false =>
        cases e3 : p.heard with
        | false =>
          simp only [e1, e2, e3, Bool.not_true, Bool.not_false, Bool.true_or, Bool.false_or, Bool.or_false, Bool.or_true, if_true, if_false, Bool.false_eq_true] at hx
          have hxr := main _ hx
          repeat' first
            | with_reducible rfl
            | simp only [q, hb0, hbN, hi1, lr, lt, hxr, hvr, hpr, encP, encV, beq_true, beq_false, Bool.true_beq, Bool.false_beq, e1, e2, e3, T5, Int.toNat_natCast, g8, g5, g7, e_nil, e_cons, e_gd, e_gdt, e_gdf, e_g0, e_g1, e_op, e_step, e_ret, e_put, e_junk, e_skip, e_reg, e_draw, e_seq, e_cond, e_block, e_exit, e_r, e_label, e_loop, q_sn, q_sr, q_se, q_bn, q_br, q_be, q_rr, q_rn, e_res0, e_res1, e_res2, e_b, d_nil, d_cons, d_op, d_step, d_ret, d_put, d_junk, d_inf, d_fin, g_not, g_and, argsTM, stepE, stBuiltin, stBox, stAlloc, stLoad, stStore, stField, stExtract, stBin, stUn, stConv, stNilCheck, stFieldV, stIndex, stIndexAddr, stLen, stMin, stMax, stBuild, fillI, stBuildSlice, setRows, stMakeSlice, stAppend, srcR, segR, rdCells, stSlice, bnd, stArr, stCopy, stConv2, isIntV, cutR, byteRows, rowByte, binStr, Option.map_some, Option.map_none, eq_self, canTL, canT, canH, canL, patL, gcH, gcT, gcI, get_gcT, mapC, pullS, pullI, pushS, push1, pushI, pushC, pullHW, roC, ix, List.map_map, Function.comp_def, List.zip_cons_cons, List.zip_nil_left, List.zip_nil_right, List.range'_zero, List.range'_succ, rd, get, put, IV.cells, ofValue, seg, spl, ldIV, binInt, eqI, cellsEq, leafEq, resI, flat, isT, upd, up1, nextM, cR, ptrC, nAl, isAl, List.length_cons, List.length_nil, List.length_append, List.length_replicate, List.length_set, Nat.reduceAdd, Nat.reduceMul, Nat.reduceEqDiff, Nat.reduceLeDiff, Nat.zero_add, Nat.add_zero, ne_eq, reduceCtorEq, not_false_eq_true, not_true_eq_false, reduceIte, true_and, and_true, and_false, false_and, and_self, List.nil_append, List.cons_append, List.append_nil, List.getElem?_cons_zero, List.getElem?_cons_succ, List.drop_succ_cons, List.drop_zero, List.take_succ_cons, List.take_zero, List.set_cons_zero, List.set_cons_succ, List.getElem?_toArray, Option.bind_some, Bool.false_eq_true, Nat.add_one_ne_zero, Nat.succ_ne_self, List.map_cons, List.map_nil, Bool.not_true, Bool.not_false, List.replicate_succ, List.replicate_zero, List.mem_cons, List.not_mem_nil, or_false, false_or, or_true, true_or, forall_const, false_implies, implies_true, true_implies, Int.reduceToNat, Int.reduceLE, Int.reduceLT, Int.cast_ofNat_Int, bne, Int.reduceEq, Int.reduceNe, Int.reduceNeg, Int.reduceAdd, Int.reduceSub, Int.reduceMul, beq_self_eq_true, Int.reduceBEq, Int.reduceBNe, Bool.true_and, Bool.false_and, Bool.and_true, Bool.and_false, Bool.true_or, Bool.false_or, Bool.or_true, Bool.or_false, Nat.reduceLT, Nat.reduceSub, Nat.zero_min, Nat.min_zero, Nat.min_self, List.flatMap_cons, List.flatMap_nil, Int.toNat_natCast, strEq_self, Bool.not_eq_true', decide_true, decide_false, wl_u8_0, wl_u8_1, wl_u8_2, wl_u8_3, wl_u8_4, wl_u8_5, wl_u8_6, wl_u8_7, wl_u8_8, wl_u8_9, wl_u8_10, wl_u8_11, wl_u8_12, wl_u8_13, wl_u8_14, wl_u8_15, wl_u8_16, wl_u16_0, wl_u16_1, wl_u16_2, wl_u16_3, wl_u16_4, wl_u16_5, wl_u16_6, wl_u16_7, wl_u16_8, wl_u16_9, wl_u16_10, wl_u16_11, wl_u16_12, wl_u16_13, wl_u16_14, wl_u16_15, wl_u16_16, wl_u32_0, wl_u32_1, wl_u32_2, wl_u32_3, wl_u32_4, wl_u32_5, wl_u32_6, wl_u32_7, wl_u32_8, wl_u32_9, wl_u32_10, wl_u32_11, wl_u32_12, wl_u32_13, wl_u32_14, wl_u32_15, wl_u32_16, wl_u64_0, wl_u64_1, wl_u64_2, wl_u64_3, wl_u64_4, wl_u64_5, wl_u64_6, wl_u64_7, wl_u64_8, wl_u64_9, wl_u64_10, wl_u64_11, wl_u64_12, wl_u64_13, wl_u64_14, wl_u64_15, wl_u64_16, wl_i32_0, wl_i32_1, wl_i32_2, wl_i32_3, wl_i32_4, wl_i32_5, wl_i32_6, wl_i32_7, wl_i32_8, wl_i32_9, wl_i32_10, wl_i32_11, wl_i32_12, wl_i32_13, wl_i32_14, wl_i32_15, wl_i32_16, wl_i64_0, wl_i64_1, wl_i64_2, wl_i64_3, wl_i64_4, wl_i64_5, wl_i64_6, wl_i64_7, wl_i64_8, wl_i64_9, wl_i64_10, wl_i64_11, wl_i64_12, wl_i64_13, wl_i64_14, wl_i64_15, wl_i64_16, Try.underlying4, ty_ag_29, ty_ag_3, ty_ag_31, ty_ag_32, ty_ag_4, ty_ag_44, ty_of_34_0, ty_of_34_2, ty_of_34_3, ty_of_34_4, ty_of_47_0, ty_of_47_1, ty_of_47_2, ty_sl_25, ty_sl_31, ty_sl_32, ty_sz_29, ty_sz_3, ty_sz_31, ty_sz_32, ty_sz_34, ty_sz_4, ty_sz_44, ty_ze_34]
            | with_reducible refine gdb_split (fun h => ?_) (fun h => ?_)
            | (with_reducible refine drawK_id ?_); refine drawK_auto hmix (by kernel_rfl) ?_
            | (with_reducible refine draw_fin ?_ ?_); · kernel_rfl
            | (with_reducible refine draw_id ?_); kernel_rfl
            | (with_reducible refine callD_id (f := 15) ?_); refine callD_of (f15') rfl rfl ?_
            | (refine ⟨qs.length - (i + 1), _, _, by omega, Wk.can [(1, 2, 0, 3), (4, 2, 0, 4)] [.inl 0, .inl 1, .inl 2, .inr 0, .inr 1] rfl (by simp [patL]), i + 1, rfl, by omega, ?_, ?_, ?_, ?_⟩ <;> first | with_reducible rfl | (simp [Function.comp_def, get_gcT, get, gcI, pullI, pullS, gcH, patL, canL, canH, canTL, canT, segR, mapC, ix, pull_P, pull_V, pull_A, g8, g5, g7, pull_I, lr, lt, hR, hT, T5]; done))
            | (with_reducible refine And.intro ?_ ?_; · omega)
        | true =>
          cases e4 : bt with
          | false =>
            rw [e4] at f15'
            simp only [e1, e2, e3, e4, Bool.not_true, Bool.not_false, Bool.true_or, Bool.false_or, Bool.or_false, Bool.or_true, if_true, if_false, Bool.false_eq_true] at hx
            have hxr := main _ hx
            repeat' first
              | with_reducible rfl
              | simp only [q, hb0, hbN, hi1, lr, lt, hxr, hvr, hpr, encP, encV, beq_true, beq_false, Bool.true_beq, Bool.false_beq, e1, e2, e3, T5, Int.toNat_natCast, g8, g5, g7, e_nil, e_cons, e_gd, e_gdt, e_gdf, e_g0, e_g1, e_op, e_step, e_ret, e_put, e_junk, e_skip, e_reg, e_draw, e_seq, e_cond, e_block, e_exit, e_r, e_label, e_loop, q_sn, q_sr, q_se, q_bn, q_br, q_be, q_rr, q_rn, e_res0, e_res1, e_res2, e_b, d_nil, d_cons, d_op, d_step, d_ret, d_put, d_junk, d_inf, d_fin, g_not, g_and, argsTM, stepE, stBuiltin, stBox, stAlloc, stLoad, stStore, stField, stExtract, stBin, stUn, stConv, stNilCheck, stFieldV, stIndex, stIndexAddr, stLen, stMin, stMax, stBuild, fillI, stBuildSlice, setRows, stMakeSlice, stAppend, srcR, segR, rdCells, stSlice, bnd, stArr, stCopy, stConv2, isIntV, cutR, byteRows, rowByte, binStr, Option.map_some, Option.map_none, eq_self, canTL, canT, canH, canL, patL, gcH, gcT, gcI, get_gcT, mapC, pullS, pullI, pushS, push1, pushI, pushC, pullHW, roC, ix, List.map_map, Function.comp_def, List.zip_cons_cons, List.zip_nil_left, List.zip_nil_right, List.range'_zero, List.range'_succ, rd, get, put, IV.cells, ofValue, seg, spl, ldIV, binInt, eqI, cellsEq, leafEq, resI, flat, isT, upd, up1, nextM, cR, ptrC, nAl, isAl, List.length_cons, List.length_nil, List.length_append, List.length_replicate, List.length_set, Nat.reduceAdd, Nat.reduceMul, Nat.reduceEqDiff, Nat.reduceLeDiff, Nat.zero_add, Nat.add_zero, ne_eq, reduceCtorEq, not_false_eq_true, not_true_eq_false, reduceIte, true_and, and_true, and_false, false_and, and_self, List.nil_append, List.cons_append, List.append_nil, List.getElem?_cons_zero, List.getElem?_cons_succ, List.drop_succ_cons, List.drop_zero, List.take_succ_cons, List.take_zero, List.set_cons_zero, List.set_cons_succ, List.getElem?_toArray, Option.bind_some, Bool.false_eq_true, Nat.add_one_ne_zero, Nat.succ_ne_self, List.map_cons, List.map_nil, Bool.not_true, Bool.not_false, List.replicate_succ, List.replicate_zero, List.mem_cons, List.not_mem_nil, or_false, false_or, or_true, true_or, forall_const, false_implies, implies_true, true_implies, Int.reduceToNat, Int.reduceLE, Int.reduceLT, Int.cast_ofNat_Int, bne, Int.reduceEq, Int.reduceNe, Int.reduceNeg, Int.reduceAdd, Int.reduceSub, Int.reduceMul, beq_self_eq_true, Int.reduceBEq, Int.reduceBNe, Bool.true_and, Bool.false_and, Bool.and_true, Bool.and_false, Bool.true_or, Bool.false_or, Bool.or_true, Bool.or_false, Nat.reduceLT, Nat.reduceSub, Nat.zero_min, Nat.min_zero, Nat.min_self, List.flatMap_cons, List.flatMap_nil, Int.toNat_natCast, strEq_self, Bool.not_eq_true', decide_true, decide_false, wl_u8_0, wl_u8_1, wl_u8_2, wl_u8_3, wl_u8_4, wl_u8_5, wl_u8_6, wl_u8_7, wl_u8_8, wl_u8_9, wl_u8_10, wl_u8_11, wl_u8_12, wl_u8_13, wl_u8_14, wl_u8_15, wl_u8_16, wl_u16_0, wl_u16_1, wl_u16_2, wl_u16_3, wl_u16_4, wl_u16_5, wl_u16_6, wl_u16_7, wl_u16_8, wl_u16_9, wl_u16_10, wl_u16_11, wl_u16_12, wl_u16_13, wl_u16_14, wl_u16_15, wl_u16_16, wl_u32_0, wl_u32_1, wl_u32_2, wl_u32_3, wl_u32_4, wl_u32_5, wl_u32_6, wl_u32_7, wl_u32_8, wl_u32_9, wl_u32_10, wl_u32_11, wl_u32_12, wl_u32_13, wl_u32_14, wl_u32_15, wl_u32_16, wl_u64_0, wl_u64_1, wl_u64_2, wl_u64_3, wl_u64_4, wl_u64_5, wl_u64_6, wl_u64_7, wl_u64_8, wl_u64_9, wl_u64_10, wl_u64_11, wl_u64_12, wl_u64_13, wl_u64_14, wl_u64_15, wl_u64_16, wl_i32_0, wl_i32_1, wl_i32_2, wl_i32_3, wl_i32_4, wl_i32_5, wl_i32_6, wl_i32_7, wl_i32_8, wl_i32_9, wl_i32_10, wl_i32_11, wl_i32_12, wl_i32_13, wl_i32_14, wl_i32_15, wl_i32_16, wl_i64_0, wl_i64_1, wl_i64_2, wl_i64_3, wl_i64_4, wl_i64_5, wl_i64_6, wl_i64_7, wl_i64_8, wl_i64_9, wl_i64_10, wl_i64_11, wl_i64_12, wl_i64_13, wl_i64_14, wl_i64_15, wl_i64_16, Try.underlying4, ty_ag_29, ty_ag_3, ty_ag_31, ty_ag_32, ty_ag_4, ty_ag_44, ty_of_34_0, ty_of_34_2, ty_of_34_3, ty_of_34_4, ty_of_47_0, ty_of_47_1, ty_of_47_2, ty_sl_25, ty_sl_31, ty_sl_32, ty_sz_29, ty_sz_3, ty_sz_31, ty_sz_32, ty_sz_34, ty_sz_4, ty_sz_44, ty_ze_34]
              | with_reducible refine gdb_split (fun h => ?_) (fun h => ?_)
              | (with_reducible refine drawK_id ?_); refine drawK_auto hmix (by kernel_rfl) ?_
              | (with_reducible refine draw_fin ?_ ?_); · kernel_rfl
              | (with_reducible refine draw_id ?_); kernel_rfl
              | (with_reducible refine callD_id (f := 15) ?_); refine callD_of (f15') rfl rfl ?_
              | (refine ⟨qs.length - (i + 1), _, _, by omega, Wk.can [(1, 2, 0, 3), (4, 2, 0, 4)] [.inl 0, .inl 1, .inl 2, .inr 0, .inr 1] rfl (by simp [patL]), i + 1, rfl, by omega, ?_, ?_, ?_, ?_⟩ <;> first | with_reducible rfl | (simp [Function.comp_def, get_gcT, get, gcI, pullI, pullS, gcH, patL, canL, canH, canTL, canT, segR, mapC, ix, pull_P, pull_V, pull_A, g8, g5, g7, pull_I, lr, lt, hR, hT, T5]; done))
              | (with_reducible refine And.intro ?_ ?_; · omega)
          | true =>
            rw [e4] at f15'
            cases e5 : (p.v.b == self) with
            | true =>
              simp only [e1, e2, e3, e4, e5, Bool.not_true, Bool.not_false, Bool.true_or, Bool.false_or, Bool.or_false, Bool.or_true, if_true, if_false, Bool.false_eq_true] at hx
              have hxr := main _ hx
              repeat' first
                | with_reducible rfl
                | simp only [q, hb0, hbN, hi1, lr, lt, hxr, hvr, hpr, encP, encV, beq_true, beq_false, Bool.true_beq, Bool.false_beq, e1, e2, e3, T5, Int.toNat_natCast, g8, g5, g7, e_nil, e_cons, e_gd, e_gdt, e_gdf, e_g0, e_g1, e_op, e_step, e_ret, e_put, e_junk, e_skip, e_reg, e_draw, e_seq, e_cond, e_block, e_exit, e_r, e_label, e_loop, q_sn, q_sr, q_se, q_bn, q_br, q_be, q_rr, q_rn, e_res0, e_res1, e_res2, e_b, d_nil, d_cons, d_op, d_step, d_ret, d_put, d_junk, d_inf, d_fin, g_not, g_and, argsTM, stepE, stBuiltin, stBox, stAlloc, stLoad, stStore, stField, stExtract, stBin, stUn, stConv, stNilCheck, stFieldV, stIndex, stIndexAddr, stLen, stMin, stMax, stBuild, fillI, stBuildSlice, setRows, stMakeSlice, stAppend, srcR, segR, rdCells, stSlice, bnd, stArr, stCopy, stConv2, isIntV, cutR, byteRows, rowByte, binStr, Option.map_some, Option.map_none, eq_self, canTL, canT, canH, canL, patL, gcH, gcT, gcI, get_gcT, mapC, pullS, pullI, pushS, push1, pushI, pushC, pullHW, roC, ix, List.map_map, Function.comp_def, List.zip_cons_cons, List.zip_nil_left, List.zip_nil_right, List.range'_zero, List.range'_succ, rd, get, put, IV.cells, ofValue, seg, spl, ldIV, binInt, eqI, cellsEq, leafEq, resI, flat, isT, upd, up1, nextM, cR, ptrC, nAl, isAl, List.length_cons, List.length_nil, List.length_append, List.length_replicate, List.length_set, Nat.reduceAdd, Nat.reduceMul, Nat.reduceEqDiff, Nat.reduceLeDiff, Nat.zero_add, Nat.add_zero, ne_eq, reduceCtorEq, not_false_eq_true, not_true_eq_false, reduceIte, true_and, and_true, and_false, false_and, and_self, List.nil_append, List.cons_append, List.append_nil, List.getElem?_cons_zero, List.getElem?_cons_succ, List.drop_succ_cons, List.drop_zero, List.take_succ_cons, List.take_zero, List.set_cons_zero, List.set_cons_succ, List.getElem?_toArray, Option.bind_some, Bool.false_eq_true, Nat.add_one_ne_zero, Nat.succ_ne_self, List.map_cons, List.map_nil, Bool.not_true, Bool.not_false, List.replicate_succ, List.replicate_zero, List.mem_cons, List.not_mem_nil, or_false, false_or, or_true, true_or, forall_const, false_implies, implies_true, true_implies, Int.reduceToNat, Int.reduceLE, Int.reduceLT, Int.cast_ofNat_Int, bne, Int.reduceEq, Int.reduceNe, Int.reduceNeg, Int.reduceAdd, Int.reduceSub, Int.reduceMul, beq_self_eq_true, Int.reduceBEq, Int.reduceBNe, Bool.true_and, Bool.false_and, Bool.and_true, Bool.and_false, Bool.true_or, Bool.false_or, Bool.or_true, Bool.or_false, Nat.reduceLT, Nat.reduceSub, Nat.zero_min, Nat.min_zero, Nat.min_self, List.flatMap_cons, List.flatMap_nil, Int.toNat_natCast, strEq_self, Bool.not_eq_true', decide_true, decide_false, wl_u8_0, wl_u8_1, wl_u8_2, wl_u8_3, wl_u8_4, wl_u8_5, wl_u8_6, wl_u8_7, wl_u8_8, wl_u8_9, wl_u8_10, wl_u8_11, wl_u8_12, wl_u8_13, wl_u8_14, wl_u8_15, wl_u8_16, wl_u16_0, wl_u16_1, wl_u16_2, wl_u16_3, wl_u16_4, wl_u16_5, wl_u16_6, wl_u16_7, wl_u16_8, wl_u16_9, wl_u16_10, wl_u16_11, wl_u16_12, wl_u16_13, wl_u16_14, wl_u16_15, wl_u16_16, wl_u32_0, wl_u32_1, wl_u32_2, wl_u32_3, wl_u32_4, wl_u32_5, wl_u32_6, wl_u32_7, wl_u32_8, wl_u32_9, wl_u32_10, wl_u32_11, wl_u32_12, wl_u32_13, wl_u32_14, wl_u32_15, wl_u32_16, wl_u64_0, wl_u64_1, wl_u64_2, wl_u64_3, wl_u64_4, wl_u64_5, wl_u64_6, wl_u64_7, wl_u64_8, wl_u64_9, wl_u64_10, wl_u64_11, wl_u64_12, wl_u64_13, wl_u64_14, wl_u64_15, wl_u64_16, wl_i32_0, wl_i32_1, wl_i32_2, wl_i32_3, wl_i32_4, wl_i32_5, wl_i32_6, wl_i32_7, wl_i32_8, wl_i32_9, wl_i32_10, wl_i32_11, wl_i32_12, wl_i32_13, wl_i32_14, wl_i32_15, wl_i32_16, wl_i64_0, wl_i64_1, wl_i64_2, wl_i64_3, wl_i64_4, wl_i64_5, wl_i64_6, wl_i64_7, wl_i64_8, wl_i64_9, wl_i64_10, wl_i64_11, wl_i64_12, wl_i64_13, wl_i64_14, wl_i64_15, wl_i64_16, Try.underlying4, ty_ag_29, ty_ag_3, ty_ag_31, ty_ag_32, ty_ag_4, ty_ag_44, ty_of_34_0, ty_of_34_2, ty_of_34_3, ty_of_34_4, ty_of_47_0, ty_of_47_1, ty_of_47_2, ty_sl_25, ty_sl_31, ty_sl_32, ty_sz_29, ty_sz_3, ty_sz_31, ty_sz_32, ty_sz_34, ty_sz_4, ty_sz_44, ty_ze_34]
                | with_reducible refine gdb_split (fun h => ?_) (fun h => ?_)
                | (with_reducible refine drawK_id ?_); refine drawK_auto hmix (by kernel_rfl) ?_
                | (with_reducible refine draw_fin ?_ ?_); · kernel_rfl
                | (with_reducible refine draw_id ?_); kernel_rfl
                | (with_reducible refine callD_id (f := 15) ?_); refine callD_of (f15') rfl rfl ?_
                | (refine ⟨qs.length - (i + 1), _, _, by omega, Wk.can [(1, 2, 0, 3), (4, 2, 0, 4)] [.inl 0, .inl 1, .inl 2, .inr 0, .inr 1] rfl (by simp [patL]), i + 1, rfl, by omega, ?_, ?_, ?_, ?_⟩ <;> first | with_reducible rfl | (simp [Function.comp_def, get_gcT, get, gcI, pullI, pullS, gcH, patL, canL, canH, canTL, canT, segR, mapC, ix, pull_P, pull_V, pull_A, g8, g5, g7, pull_I, lr, lt, hR, hT, T5]; done))
                | (with_reducible refine And.intro ?_ ?_; · omega)
            | false =>
              simp only [e1, e2, e3, e4, e5, Bool.not_true, Bool.not_false, Bool.true_or, Bool.false_or, Bool.or_false, Bool.or_true, if_true, if_false, Bool.false_eq_true] at hx
              have hxr := main _ hx
              repeat' first
                | with_reducible rfl
                | simp only [q, hb0, hbN, hi1, lr, lt, hxr, hvr, hpr, encP, encV, beq_true, beq_false, Bool.true_beq, Bool.false_beq, e1, e2, e3, T5, Int.toNat_natCast, g8, g5, g7, e_nil, e_cons, e_gd, e_gdt, e_gdf, e_g0, e_g1, e_op, e_step, e_ret, e_put, e_junk, e_skip, e_reg, e_draw, e_seq, e_cond, e_block, e_exit, e_r, e_label, e_loop, q_sn, q_sr, q_se, q_bn, q_br, q_be, q_rr, q_rn, e_res0, e_res1, e_res2, e_b, d_nil, d_cons, d_op, d_step, d_ret, d_put, d_junk, d_inf, d_fin, g_not, g_and, argsTM, stepE, stBuiltin, stBox, stAlloc, stLoad, stStore, stField, stExtract, stBin, stUn, stConv, stNilCheck, stFieldV, stIndex, stIndexAddr, stLen, stMin, stMax, stBuild, fillI, stBuildSlice, setRows, stMakeSlice, stAppend, srcR, segR, rdCells, stSlice, bnd, stArr, stCopy, stConv2, isIntV, cutR, byteRows, rowByte, binStr, Option.map_some, Option.map_none, eq_self, canTL, canT, canH, canL, patL, gcH, gcT, gcI, get_gcT, mapC, pullS, pullI, pushS, push1, pushI, pushC, pullHW, roC, ix, List.map_map, Function.comp_def, List.zip_cons_cons, List.zip_nil_left, List.zip_nil_right, List.range'_zero, List.range'_succ, rd, get, put, IV.cells, ofValue, seg, spl, ldIV, binInt, eqI, cellsEq, leafEq, resI, flat, isT, upd, up1, nextM, cR, ptrC, nAl, isAl, List.length_cons, List.length_nil, List.length_append, List.length_replicate, List.length_set, Nat.reduceAdd, Nat.reduceMul, Nat.reduceEqDiff, Nat.reduceLeDiff, Nat.zero_add, Nat.add_zero, ne_eq, reduceCtorEq, not_false_eq_true, not_true_eq_false, reduceIte, true_and, and_true, and_false, false_and, and_self, List.nil_append, List.cons_append, List.append_nil, List.getElem?_cons_zero, List.getElem?_cons_succ, List.drop_succ_cons, List.drop_zero, List.take_succ_cons, List.take_zero, List.set_cons_zero, List.set_cons_succ, List.getElem?_toArray, Option.bind_some, Bool.false_eq_true, Nat.add_one_ne_zero, Nat.succ_ne_self, List.map_cons, List.map_nil, Bool.not_true, Bool.not_false, List.replicate_succ, List.replicate_zero, List.mem_cons, List.not_mem_nil, or_false, false_or, or_true, true_or, forall_const, false_implies, implies_true, true_implies, Int.reduceToNat, Int.reduceLE, Int.reduceLT, Int.cast_ofNat_Int, bne, Int.reduceEq, Int.reduceNe, Int.reduceNeg, Int.reduceAdd, Int.reduceSub, Int.reduceMul, beq_self_eq_true, Int.reduceBEq, Int.reduceBNe, Bool.true_and, Bool.false_and, Bool.and_true, Bool.and_false, Bool.true_or, Bool.false_or, Bool.or_true, Bool.or_false, Nat.reduceLT, Nat.reduceSub, Nat.zero_min, Nat.min_zero, Nat.min_self, List.flatMap_cons, List.flatMap_nil, Int.toNat_natCast, strEq_self, Bool.not_eq_true', decide_true, decide_false, wl_u8_0, wl_u8_1, wl_u8_2, wl_u8_3, wl_u8_4, wl_u8_5, wl_u8_6, wl_u8_7, wl_u8_8, wl_u8_9, wl_u8_10, wl_u8_11, wl_u8_12, wl_u8_13, wl_u8_14, wl_u8_15, wl_u8_16, wl_u16_0, wl_u16_1, wl_u16_2, wl_u16_3, wl_u16_4, wl_u16_5, wl_u16_6, wl_u16_7, wl_u16_8, wl_u16_9, wl_u16_10, wl_u16_11, wl_u16_12, wl_u16_13, wl_u16_14, wl_u16_15, wl_u16_16, wl_u32_0, wl_u32_1, wl_u32_2, wl_u32_3, wl_u32_4, wl_u32_5, wl_u32_6, wl_u32_7, wl_u32_8, wl_u32_9, wl_u32_10, wl_u32_11, wl_u32_12, wl_u32_13, wl_u32_14, wl_u32_15, wl_u32_16, wl_u64_0, wl_u64_1, wl_u64_2, wl_u64_3, wl_u64_4, wl_u64_5, wl_u64_6, wl_u64_7, wl_u64_8, wl_u64_9, wl_u64_10, wl_u64_11, wl_u64_12, wl_u64_13, wl_u64_14, wl_u64_15, wl_u64_16, wl_i32_0, wl_i32_1, wl_i32_2, wl_i32_3, wl_i32_4, wl_i32_5, wl_i32_6, wl_i32_7, wl_i32_8, wl_i32_9, wl_i32_10, wl_i32_11, wl_i32_12, wl_i32_13, wl_i32_14, wl_i32_15, wl_i32_16, wl_i64_0, wl_i64_1, wl_i64_2, wl_i64_3, wl_i64_4, wl_i64_5, wl_i64_6, wl_i64_7, wl_i64_8, wl_i64_9, wl_i64_10, wl_i64_11, wl_i64_12, wl_i64_13, wl_i64_14, wl_i64_15, wl_i64_16, Try.underlying4, ty_ag_29, ty_ag_3, ty_ag_31, ty_ag_32, ty_ag_4, ty_ag_44, ty_of_34_0, ty_of_34_2, ty_of_34_3, ty_of_34_4, ty_of_47_0, ty_of_47_1, ty_of_47_2, ty_sl_25, ty_sl_31, ty_sl_32, ty_sz_29, ty_sz_3, ty_sz_31, ty_sz_32, ty_sz_34, ty_sz_4, ty_sz_44, ty_ze_34]
                | with_reducible refine gdb_split (fun h => ?_) (fun h => ?_)
                | (with_reducible refine drawK_id ?_); refine drawK_auto hmix (by kernel_rfl) ?_
                | (with_reducible refine draw_fin ?_ ?_); · kernel_rfl
                | (with_reducible refine draw_id ?_); kernel_rfl
                | (with_reducible refine callD_id (f := 15) ?_); refine callD_of (f15') rfl rfl ?_
                | (refine ⟨qs.length - (i + 1), _, _, by omega, Wk.can [(1, 2, 0, 3), (4, 2, 0, 4)] [.inl 0, .inl 1, .inl 2, .inr 0, .inr 1] rfl (by simp [patL]), i + 1, rfl, by omega, ?_, ?_, ?_, ?_⟩ <;> first | with_reducible rfl | (simp [Function.comp_def, get_gcT, get, gcI, pullI, pullS, gcH, patL, canL, canH, canTL, canT, segR, mapC, ix, pull_P, pull_V, pull_A, g8, g5, g7, pull_I, lr, lt, hR, hT, T5]; done))
                | (with_reducible refine And.intro ?_ ?_; · omega)
  · have q : decide ((i : Int) < (qs.length : Int)) = false := decide_eq_false (by omega)
    repeat' first
      | with_reducible rfl
      | simp only [q, T5, g8, g5, g7, e_nil, e_cons, e_gd, e_gdt, e_gdf, e_g0, e_g1, e_op, e_step, e_ret, e_put, e_junk, e_skip, e_reg, e_draw, e_seq, e_cond, e_block, e_exit, e_r, e_label, e_loop, q_sn, q_sr, q_se, q_bn, q_br, q_be, q_rr, q_rn, e_res0, e_res1, e_res2, e_b, d_nil, d_cons, d_op, d_step, d_ret, d_put, d_junk, d_inf, d_fin, g_not, g_and, argsTM, stepE, stBuiltin, stBox, stAlloc, stLoad, stStore, stField, stExtract, stBin, stUn, stConv, stNilCheck, stFieldV, stIndex, stIndexAddr, stLen, stMin, stMax, stBuild, fillI, stBuildSlice, setRows, stMakeSlice, stAppend, srcR, segR, rdCells, stSlice, bnd, stArr, stCopy, stConv2, isIntV, cutR, byteRows, rowByte, binStr, Option.map_some, Option.map_none, eq_self, canTL, canT, canH, canL, patL, gcH, gcT, gcI, get_gcT, mapC, pullS, pullI, pushS, push1, pushI, pushC, pullHW, roC, ix, List.map_map, Function.comp_def, List.zip_cons_cons, List.zip_nil_left, List.zip_nil_right, List.range'_zero, List.range'_succ, rd, get, put, IV.cells, ofValue, seg, spl, ldIV, binInt, eqI, cellsEq, leafEq, resI, flat, isT, upd, up1, nextM, cR, ptrC, nAl, isAl, List.length_cons, List.length_nil, List.length_append, List.length_replicate, List.length_set, Nat.reduceAdd, Nat.reduceMul, Nat.reduceEqDiff, Nat.reduceLeDiff, Nat.zero_add, Nat.add_zero, ne_eq, reduceCtorEq, not_false_eq_true, not_true_eq_false, reduceIte, true_and, and_true, and_false, false_and, and_self, List.nil_append, List.cons_append, List.append_nil, List.getElem?_cons_zero, List.getElem?_cons_succ, List.drop_succ_cons, List.drop_zero, List.take_succ_cons, List.take_zero, List.set_cons_zero, List.set_cons_succ, List.getElem?_toArray, Option.bind_some, Bool.false_eq_true, Nat.add_one_ne_zero, Nat.succ_ne_self, List.map_cons, List.map_nil, Bool.not_true, Bool.not_false, List.replicate_succ, List.replicate_zero, List.mem_cons, List.not_mem_nil, or_false, false_or, or_true, true_or, forall_const, false_implies, implies_true, true_implies, Int.reduceToNat, Int.reduceLE, Int.reduceLT, Int.cast_ofNat_Int, bne, Int.reduceEq, Int.reduceNe, Int.reduceNeg, Int.reduceAdd, Int.reduceSub, Int.reduceMul, beq_self_eq_true, Int.reduceBEq, Int.reduceBNe, Bool.true_and, Bool.false_and, Bool.and_true, Bool.and_false, Bool.true_or, Bool.false_or, Bool.or_true, Bool.or_false, Nat.reduceLT, Nat.reduceSub, Nat.zero_min, Nat.min_zero, Nat.min_self, List.flatMap_cons, List.flatMap_nil, Int.toNat_natCast, strEq_self, Bool.not_eq_true', decide_true, decide_false, wl_u8_0, wl_u8_1, wl_u8_2, wl_u8_3, wl_u8_4, wl_u8_5, wl_u8_6, wl_u8_7, wl_u8_8, wl_u8_9, wl_u8_10, wl_u8_11, wl_u8_12, wl_u8_13, wl_u8_14, wl_u8_15, wl_u8_16, wl_u16_0, wl_u16_1, wl_u16_2, wl_u16_3, wl_u16_4, wl_u16_5, wl_u16_6, wl_u16_7, wl_u16_8, wl_u16_9, wl_u16_10, wl_u16_11, wl_u16_12, wl_u16_13, wl_u16_14, wl_u16_15, wl_u16_16, wl_u32_0, wl_u32_1, wl_u32_2, wl_u32_3, wl_u32_4, wl_u32_5, wl_u32_6, wl_u32_7, wl_u32_8, wl_u32_9, wl_u32_10, wl_u32_11, wl_u32_12, wl_u32_13, wl_u32_14, wl_u32_15, wl_u32_16, wl_u64_0, wl_u64_1, wl_u64_2, wl_u64_3, wl_u64_4, wl_u64_5, wl_u64_6, wl_u64_7, wl_u64_8, wl_u64_9, wl_u64_10, wl_u64_11, wl_u64_12, wl_u64_13, wl_u64_14, wl_u64_15, wl_u64_16, wl_i32_0, wl_i32_1, wl_i32_2, wl_i32_3, wl_i32_4, wl_i32_5, wl_i32_6, wl_i32_7, wl_i32_8, wl_i32_9, wl_i32_10, wl_i32_11, wl_i32_12, wl_i32_13, wl_i32_14, wl_i32_15, wl_i32_16, wl_i64_0, wl_i64_1, wl_i64_2, wl_i64_3, wl_i64_4, wl_i64_5, wl_i64_6, wl_i64_7, wl_i64_8, wl_i64_9, wl_i64_10, wl_i64_11, wl_i64_12, wl_i64_13, wl_i64_14, wl_i64_15, wl_i64_16, Try.underlying4, ty_ag_29, ty_ag_3, ty_ag_31, ty_ag_32, ty_ag_4, ty_ag_44, ty_of_34_0, ty_of_34_2, ty_of_34_3, ty_of_34_4, ty_of_47_0, ty_of_47_1, ty_of_47_2, ty_sl_25, ty_sl_31, ty_sl_32, ty_sz_29, ty_sz_3, ty_sz_31, ty_sz_32, ty_sz_34, ty_sz_4, ty_sz_44, ty_ze_34]
      | with_reducible refine gdb_split (fun h => ?_) (fun h => ?_)
      | (with_reducible refine drawK_id ?_); refine drawK_auto hmix (by kernel_rfl) ?_
      | (with_reducible refine draw_fin ?_ ?_); · kernel_rfl
      | (with_reducible refine draw_id ?_); kernel_rfl
      | (with_reducible refine And.intro ?_ ?_; · omega)
end Go.Ev
