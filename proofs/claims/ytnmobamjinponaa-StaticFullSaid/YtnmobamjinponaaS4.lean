/- A part of the proof: contracts of the functions that the statement reaches. -/
import Derived.Test.YtnmobamjinponaaS3
namespace Go.Ev
open Go.Proofs
set_option maxRecDepth 100000
set_option linter.unusedSimpArgs false
set_option linter.unusedVariables false
set_option maxHeartbeats 4000000
open Srt
theorem eS_bld (k : KEY) (x y : SV) : List.take 7 (kC k ++ [x]) ++ y :: List.drop 8 (kC k ++ [x]) = kC k ++ [y] := rfl
def kkI (j : Nat) : KEY := ⟨((1 + j % 3 : Nat) : Int), fromC ((2 * j : Nat) : Int)⟩
def qI (j : Nat) : Int := withP 0 ((1 + j % 16 : Nat) : Int)
theorem kk_facts : (∀ i : Fin 30, goodS (kkI i.val) (qI i.val) = 0) ∧ ∀ i : Fin 30, ∀ j : Fin 30, j.val < i.val → kkI j.val ≠ kkI i.val := by decide +kernel
theorem kk_ok (j : Nat) : KOK (kkI j) := by
  have u : ∀ x : Int, 0 ≤ ubI x ∧ ubI x ≤ 255 := fun x => by
    unfold ubI
    have := (UInt8.ofNat x.toNat).toNat_lt
    omega
  exact ⟨u _, u _, u _, u _, u _, u _⟩
/-- What is true behind i rounds. -/
structure SF (clock : Nat) (L : List SEN) (i : Nat) : Prop where
  k : NDkS L
  s : NDsS L
  c : ∀ e ∈ L, e.s < clock
  len : L.length = min i 16
  ii : ∀ e ∈ L, ∃ j, j < i ∧ e.k = kkI j
  z : 0 < i → ∃ e ∈ L, e.k = kkI 0
theorem SF.v {clock : Nat} {L : List SEN} {i : Nat} (h : SF clock L i) : ∀ e ∈ L, KOK e.k := fun e he => by
  obtain ⟨j, _, hk⟩ := h.ii e he
  rw [hk]; exact kk_ok j
theorem SF.new {clock : Nat} {L : List SEN} {i : Nat} (h : SF clock L i) (hi : i < 30) : lookS L (kkI i) = none := lookS_none fun e he hk => by
  obtain ⟨j, hj, hk2⟩ := h.ii e he
  exact kk_facts.2 ⟨i, hi⟩ ⟨j, by omega⟩ hj (hk2.symm.trans hk)
theorem SF.step {clock : Nat} {L : List SEN} {i : Nat} (h : SF clock L i) (hi : i < 30) : (setS clock L (kkI i) (qI i)).1 = (if i < 16 then 0 else 13) ∧ SF (setS clock L (kkI i) (qI i)).2.1 (setS clock L (kkI i) (qI i)).2.2 (i + 1) := by
  have hg := kk_facts.1 ⟨i, hi⟩
  have hn := h.new hi
  have hlen := h.len
  by_cases h16 : i < 16
  · have hs : setS clock L (kkI i) (qI i) = (0, clock + 1, L ++ [⟨kkI i, qI i, clock⟩]) := by
      have : ¬ 16 ≤ L.length := by omega
      simp only [setS, hg, if_true, this, and_false, if_false, putS_miss clock L _ _ hn]
    rw [hs, if_pos h16]
    refine ⟨rfl, ?_, ?_, ?_, ?_, ?_, fun _ => ?_⟩
    · unfold NDkS
      rw [List.map_append, List.nodup_append]
      exact ⟨h.k, by simp, fun a ha b hb e => by
        obtain ⟨x, hx, rfl⟩ := List.mem_map.1 ha
        simp at hb
        obtain ⟨j, hj, hk⟩ := h.ii x hx
        exact kk_facts.2 ⟨i, hi⟩ ⟨j, by omega⟩ hj (hk.symm.trans (e.trans hb))⟩
    · unfold NDsS
      rw [List.map_append, List.nodup_append]
      exact ⟨h.s, by simp, fun a ha b hb e => by
        obtain ⟨x, hx, rfl⟩ := List.mem_map.1 ha
        simp at hb
        have := h.c x hx
        omega⟩
    · intro e he
      rcases List.mem_append.1 he with he | he
      · have := h.c e he; show e.s < clock + 1; omega
      · simp at he; subst he; simp
    · simp; omega
    · intro e he
      rcases List.mem_append.1 he with he | he
      · obtain ⟨j, hj, hk⟩ := h.ii e he
        exact ⟨j, by omega, hk⟩
      · simp at he; subst he; exact ⟨i, by omega, rfl⟩
    · by_cases h0 : 0 < i
      · obtain ⟨e, he, hk⟩ := h.z h0
        exact ⟨e, by simp [he], hk⟩
      · obtain rfl : i = 0 := by omega
        exact ⟨⟨kkI 0, qI 0, clock⟩, by simp, rfl⟩
  · have hs : setS clock L (kkI i) (qI i) = (13, clock, L) := by
      have : 16 ≤ L.length := by omega
      simp only [setS, hg, if_true, this, hn, Option.isSome_none, and_self]
    rw [hs, if_neg h16]
    exact ⟨rfl, h.k, h.s, h.c, (show L.length = min (i + 1) 16 by omega), fun e he => by
      obtain ⟨j, hj, hk⟩ := h.ii e he
      exact ⟨j, by omega, hk⟩, fun _ => h.z (by omega)⟩
theorem SF.again {clock : Nat} {L : List SEN} {n : Nat} (h : SF clock L n) (hn : 0 < n) (q : Int) (hg : goodS (kkI 0) q = 0) : (setS clock L (kkI 0) q).1 = 0 ∧ SF (setS clock L (kkI 0) q).2.1 (setS clock L (kkI 0) q).2.2 n := by
  obtain ⟨e, he, hk⟩ := h.z hn
  obtain ⟨l1, l2, rfl, h0⟩ := mem_splitS h.k he
  have hlook := lookS_mid h0
  have hs : setS clock (l1 ++ e :: l2) (kkI 0) q = (0, clock, l1 ++ ⟨e.k, q, e.s⟩ :: l2) := by
    rw [← hk] at hg ⊢
    simp only [setS, hg, if_true, hlook, Option.isSome_some, Bool.true_eq_false, false_and, if_false, putS_hit clock l1 e l2 q hlook h0]
  rw [hs]
  have hm : ∀ x ∈ l1 ++ (⟨e.k, q, e.s⟩ : SEN) :: l2, x = ⟨e.k, q, e.s⟩ ∨ x ∈ l1 ++ e :: l2 := fun x hx => by
    rcases List.mem_append.1 hx with h | h
    · exact .inr (by simp [h])
    · rcases List.mem_cons.1 h with h | h
      · exact .inl h
      · exact .inr (by simp [h])
  refine ⟨rfl, by have := h.k; unfold NDkS at *; simpa using this, by have := h.s; unfold NDsS at *; simpa using this, ?_, by have := h.len; simpa using this, ?_, fun _ => ⟨⟨e.k, q, e.s⟩, by simp, hk⟩⟩
  · intro x hx
    rcases hm x hx with rfl | h2
    · exact h.c e (by simp)
    · exact h.c x h2
  · intro x hx
    rcases hm x hx with rfl | h2
    · exact h.ii e (by simp)
    · exact h.ii x h2
def kL (b : Int) : KEY := ⟨4000, ⟨1, 128, 194, 0, 0, b⟩⟩
theorem resS_last (b : Int) (b0 : 0 ≤ b) (b1 : b ≤ 255) : resS 1 128 194 0 0 b = decide (b < 16) := by
  have : ∀ n : Fin 256, resS 1 128 194 0 0 ((n.val : Nat) : Int) = decide (((n.val : Nat) : Int) < 16) := by decide +kernel
  have := this ⟨b.toNat, by omega⟩
  simpa [Int.toNat_of_nonneg b0] using this
theorem SF.last {clock : Nat} {L : List SEN} {n : Nat} (h : SF clock L n) (b : Int) (b0 : 0 ≤ b) (b1 : b ≤ 255) : (setS clock L (kL b) 0).1 = if b < 16 then 6 else if n < 16 then 0 else 13 := by
  have hr := resS_last b b0 b1
  have hg : goodS (kL b) 0 = if b < 16 then 6 else 0 := by
    have : badV (kL b).v = false := rfl
    unfold goodS
    rw [this]
    show (if false = true then (15 : Int) else if resS 1 128 194 0 0 b = true then 6 else if decide ((65536 : Int) ≤ 0) = true then 14 else 0) = _
    rw [hr]
    by_cases h : b < 16 <;> simp [h]
  have hn : lookS L (kL b) = none := lookS_none fun e he hk => by
    obtain ⟨j, _, hk2⟩ := h.ii e he
    have : (kkI j).v = (kL b).v := by rw [← hk2, hk]
    simp only [kkI, kL] at this
    omega
  have hlen := h.len
  by_cases hb : b < 16
  · rw [if_pos hb] at hg ⊢
    simp [setS, hg]
  · rw [if_neg hb] at hg ⊢
    by_cases h16 : n < 16
    · have : ¬ 16 ≤ L.length := by omega
      simp [setS, hg, hn, this, h16]
    · have : 16 ≤ L.length := by omega
      simp [setS, hg, hn, this, h16]
def H7 (clock : Nat) (L : List SEN) : Heap := [tabC, mpS clock L]
def I7 (n : Nat) (a b : Int) (mm : Nat) (tm : TM) (H : Heap) : Prop := ∃ (i clock : Nat) (L : List SEN), mm = n - i ∧ i ≤ n ∧ SF clock L i ∧ get tm 1 = .s (.raw (.int .u8 b)) ∧ get tm 5 = .s (.ptr 0 0 0) ∧ get tm 6 = .s (.raw (.int .i64 (n : Int))) ∧ get tm 7 = .s (.raw (.int .i64 (i : Int))) ∧ H = H7 clock L
theorem law7 (a b : Int) (a0 : 0 ≤ a) (a1 : a ≤ 255) (b0 : 0 ≤ b) (b1 : b ≤ 255) : Fun Try.prog 7 [.s (.raw (.int .u8 a)), .s (.raw (.int .u8 b))] (.s (.raw (.bool true))) := by
  refine fun_of rfl fun X => ?_
  obtain ⟨n, hn, n1⟩ : ∃ n : Nat, Int.tmod (IntKind.i64.wrap a) 30 = (n : Int) ∧ n < 30 := by
    have w : IntKind.i64.wrap a = a := wr_i64 (by omega) (by omega)
    rw [w, Int.tmod_eq_emod_of_nonneg a0]
    exact ⟨(a % 30).toNat, by omega, by omega⟩
  have c21 := f21
  unfold tabC mpS at c21
  simp only [List.map_nil] at c21
  refine callK_inline (rs := [.tmp 4]) (n := 93) Try.func7 rfl rfl rfl (by kernel_rfl) (by kernel_rfl) (by simp only [List.length_cons, List.length_nil]; decide) ?_
  repeat' first
    | with_reducible rfl
    | simp only [hn, e_nil, e_cons, e_gd, e_gdt, e_gdf, e_g0, e_g1, e_op, e_step, e_stepG, e_stepN, e_clo, e_cloF, e_ret, e_put, e_junk, e_skip, e_reg, e_draw, e_seq, e_cond, e_block, e_exit, e_r, e_label, e_loop, q_sn, q_sr, q_se, q_bn, q_br, q_be, q_rr, q_rn, e_res0, e_res1, e_res2, e_b, d_nil, d_cons, d_op, d_step, d_stepG, d_stepN, d_clo, d_cloF, d_ret, d_put, d_junk, d_inf, d_fin, g_not, g_and, argsTM, stepE, stBuiltin, stBox, stAlloc, stLoad, stStore, stField, stExtract, stBin, stUn, stConv, stNilCheck, stFieldV, stIndex, stIndexAddr, stLen, stMin, stMax, stBuild, fillI, stBuildSlice, setRows, stMakeSlice, stAppend, srcR, segR, rdCells, stSlice, bnd, stArr, stCopy, stConv2, isIntV, cutR, byteRows, rowByte, binStr, Option.map_some, Option.map_none, eq_self, canTL, canT, canH, canL, patL, gcH, gcT, gcI, get_gcT, mapC, pullS, pullI, pushS, push1, pushI, pushC, pullHW, roC, ix, List.map_map, Function.comp_def, List.zip_cons_cons, List.zip_nil_left, List.zip_nil_right, List.range'_zero, List.range'_succ, rd, get, put, IV.cells, ofValue, seg, spl, ldIV, binInt, eqI, cellsEq, leafEq, resI, flat, isT, upd, up1, nextM, cR, ptrC, nAl, isAl, List.length_cons, List.length_nil, List.length_append, List.length_replicate, List.length_set, Nat.reduceAdd, Nat.reduceMul, Nat.reduceEqDiff, Nat.reduceLeDiff, Nat.zero_add, Nat.add_zero, ne_eq, reduceCtorEq, not_false_eq_true, not_true_eq_false, reduceIte, true_and, and_true, and_false, false_and, and_self, List.nil_append, List.cons_append, List.append_nil, List.getElem?_cons_zero, List.getElem?_cons_succ, List.drop_succ_cons, List.drop_zero, List.take_succ_cons, List.take_zero, List.set_cons_zero, List.set_cons_succ, List.getElem?_toArray, Option.bind_some, Bool.false_eq_true, Nat.add_one_ne_zero, Nat.succ_ne_self, List.map_cons, List.map_nil, Bool.not_true, Bool.not_false, List.replicate_succ, List.replicate_zero, List.mem_cons, List.not_mem_nil, or_false, false_or, or_true, true_or, forall_const, false_implies, implies_true, true_implies, Int.reduceToNat, Int.reduceLE, Int.reduceLT, Int.cast_ofNat_Int, bne, Int.reduceEq, Int.reduceNe, Int.reduceNeg, Int.reduceAdd, Int.reduceSub, Int.reduceMul, beq_self_eq_true, Int.reduceBEq, Int.reduceBNe, Bool.true_and, Bool.false_and, Bool.and_true, Bool.and_false, Bool.true_or, Bool.false_or, Bool.or_true, Bool.or_false, Nat.reduceLT, Nat.reduceSub, Nat.zero_min, Nat.min_zero, Nat.min_self, List.flatMap_cons, List.flatMap_nil, Int.toNat_natCast, strEq_self, Bool.not_eq_true', decide_true, decide_false, WLS, Try.underlying27, Try.underlying3, Try.underlying4, Try.underlying5, Try.underlying77, ty_ok_57, ty_ok_59, ty_ok_70, ty_pl_57_0, ty_pl_57_1, ty_pl_57_2, ty_pl_57_3, ty_pl_57_4, ty_pl_57_5, ty_pl_59_0, ty_pl_59_1, ty_pl_70_0, ty_pl_70_1, ty_sl_72, ty_ze_57, ty_ze_59, ty_ze_70, ty_zs_125]
    | (with_reducible refine drawK_id ?_); refine drawK_auto hmix (by kernel_rfl) ?_
    | (with_reducible refine draw_fin ?_ ?_); · kernel_rfl
    | (with_reducible refine draw_id ?_); kernel_rfl
    | (with_reducible refine callK_id (f := 20) ?_); refine callK_fun (f20) rfl rfl ?_
    | ((with_reducible refine callK_id (f := 21) ?_); refine callK_funW [] [] (c21) (by simp [pullHW, roC, Function.comp_def, rows_pull, pullS, ix, pullI, mapC, kC_pull, sE_k, sE_v, sE_fold, eS_pull]) rfl rfl (by decide) (by simp) (by simp [pullI, pullS, ix, kC_pull, eS]) ?_; rintro r Hn ⟨rfl, rfl⟩ -; skip)
    | (with_reducible refine And.intro ?_ ?_; · omega)
  refine loopK_wk (by kernel_rfl) (I7 n a b) n ⟨_, _, Wk.refl, 0, 0, [], by omega, by omega, ⟨List.nodup_nil, List.nodup_nil, by simp, by simp, by simp, fun h => by omega⟩, ?_, ?_, ?_, ?_, ?_⟩ ?_ <;> first | with_reducible rfl | (simp [Function.comp_def, get_gcT, get, put, gcI, pullI, pullS, gcH, patL, canL, canH, canTL, canT, rows_pull, ix]; done) | (simp [Function.comp_def, get_gcT, get, put, gcI, pullI, pullS, gcH, patL, canL, canH, canTL, canT, rows_pull, ix, H7, tabC, mpS]; done) | skip
  rintro mm tm H ⟨i, clock, L, rfl, hi, hst, g1, g5, g6, g7, rfl⟩
  unfold H7
  by_cases hq : i < n
  · have q1 : decide ((i : Int) < (n : Int)) = true := decide_eq_true (by omega)
    have r1 : Int.tmod (i : Int) 3 = ((i % 3 : Nat) : Int) := by rw [Int.tmod_eq_emod_of_nonneg (by omega)]; omega
    have r2 : IntKind.u16.wrap ((i % 3 : Nat) : Int) = ((i % 3 : Nat) : Int) := wr_u16 (by omega) (by omega)
    have r3 : IntKind.u16.wrap (1 + ((i % 3 : Nat) : Int)) = ((1 + i % 3 : Nat) : Int) := by rw [wr_u16 (by omega) (by omega)]; omega
    have r4 : IntKind.i64.wrap (2 * (i : Int)) = ((2 * i : Nat) : Int) := by rw [wr_i64 (by omega) (by omega)]; omega
    have r5 : IntKind.u64.wrap ((2 * i : Nat) : Int) = ((2 * i : Nat) : Int) := by rw [w64]; omega
    have r6 : Int.tmod (i : Int) 16 = ((i % 16 : Nat) : Int) := by rw [Int.tmod_eq_emod_of_nonneg (by omega)]; omega
    have r7 : IntKind.i64.wrap (1 + ((i % 16 : Nat) : Int)) = ((1 + i % 16 : Nat) : Int) := by rw [wr_i64 (by omega) (by omega)]; omega
    have hi1 : IntKind.i64.wrap ((i : Int) + 1) = ((i + 1 : Nat) : Int) := by rw [wr_i64 (by omega) (by omega)]; rfl
    have kf : (⟨((1 + i % 3 : Nat) : Int), fromC ((2 * i : Nat) : Int)⟩ : KEY) = kkI i := rfl
    have qf : withP 0 ((1 + i % 16 : Nat) : Int) = qI i := rfl
    obtain ⟨hs1, hst2⟩ := hst.step (by omega)
    have c26 := f26 clock L hst.k ⟨kkI i, qI i, 0⟩
    simp only at c26
    generalize hP : setS clock L (kkI i) (qI i) = P at *
    obtain ⟨er, c2, L2⟩ := P
    simp only at hs1 hst2 c26
    subst hs1
    unfold tabC mpS at c26 ⊢
    by_cases h16 : i < 16
    · have q2 : decide ((i : Int) < 16) = true := decide_eq_true (by omega)
      have q3 : decide ((16 : Int) ≤ (i : Int)) = false := decide_eq_false (by omega)
      rw [if_pos h16] at c26
      repeat' first
        | with_reducible rfl
        | simp only [eS_bld, q1, q2, r1, r2, r3, r4, r5, r6, r7, hi1, kf, qf, kC_fold, encM_len, List.length_map, Int.toNat_natCast, g1, g5, g6, g7, kC_push, kC_pull, sE_k, sE_v, sE_fold, kC_len, eS_len, eS_pull, eS_push, q3, e_nil, e_cons, e_gd, e_gdt, e_gdf, e_g0, e_g1, e_op, e_step, e_stepG, e_stepN, e_clo, e_cloF, e_ret, e_put, e_junk, e_skip, e_reg, e_draw, e_seq, e_cond, e_block, e_exit, e_r, e_label, e_loop, q_sn, q_sr, q_se, q_bn, q_br, q_be, q_rr, q_rn, e_res0, e_res1, e_res2, e_b, d_nil, d_cons, d_op, d_step, d_stepG, d_stepN, d_clo, d_cloF, d_ret, d_put, d_junk, d_inf, d_fin, g_not, g_and, argsTM, stepE, stBuiltin, stBox, stAlloc, stLoad, stStore, stField, stExtract, stBin, stUn, stConv, stNilCheck, stFieldV, stIndex, stIndexAddr, stLen, stMin, stMax, stBuild, fillI, stBuildSlice, setRows, stMakeSlice, stAppend, srcR, segR, rdCells, stSlice, bnd, stArr, stCopy, stConv2, isIntV, cutR, byteRows, rowByte, binStr, Option.map_some, Option.map_none, eq_self, canTL, canT, canH, canL, patL, gcH, gcT, gcI, get_gcT, mapC, pullS, pullI, pushS, push1, pushI, pushC, pullHW, roC, ix, List.map_map, Function.comp_def, List.zip_cons_cons, List.zip_nil_left, List.zip_nil_right, List.range'_zero, List.range'_succ, rd, get, put, IV.cells, ofValue, seg, spl, ldIV, binInt, eqI, cellsEq, leafEq, resI, flat, isT, upd, up1, nextM, cR, ptrC, nAl, isAl, List.length_cons, List.length_nil, List.length_append, List.length_replicate, List.length_set, Nat.reduceAdd, Nat.reduceMul, Nat.reduceEqDiff, Nat.reduceLeDiff, Nat.zero_add, Nat.add_zero, ne_eq, reduceCtorEq, not_false_eq_true, not_true_eq_false, reduceIte, true_and, and_true, and_false, false_and, and_self, List.nil_append, List.cons_append, List.append_nil, List.getElem?_cons_zero, List.getElem?_cons_succ, List.drop_succ_cons, List.drop_zero, List.take_succ_cons, List.take_zero, List.set_cons_zero, List.set_cons_succ, List.getElem?_toArray, Option.bind_some, Bool.false_eq_true, Nat.add_one_ne_zero, Nat.succ_ne_self, List.map_cons, List.map_nil, Bool.not_true, Bool.not_false, List.replicate_succ, List.replicate_zero, List.mem_cons, List.not_mem_nil, or_false, false_or, or_true, true_or, forall_const, false_implies, implies_true, true_implies, Int.reduceToNat, Int.reduceLE, Int.reduceLT, Int.cast_ofNat_Int, bne, Int.reduceEq, Int.reduceNe, Int.reduceNeg, Int.reduceAdd, Int.reduceSub, Int.reduceMul, beq_self_eq_true, Int.reduceBEq, Int.reduceBNe, Bool.true_and, Bool.false_and, Bool.and_true, Bool.and_false, Bool.true_or, Bool.false_or, Bool.or_true, Bool.or_false, Nat.reduceLT, Nat.reduceSub, Nat.zero_min, Nat.min_zero, Nat.min_self, List.flatMap_cons, List.flatMap_nil, Int.toNat_natCast, strEq_self, Bool.not_eq_true', decide_true, decide_false, WLS, Try.underlying27, Try.underlying3, Try.underlying4, Try.underlying5, Try.underlying77, ty_ok_57, ty_ok_59, ty_ok_70, ty_pl_57_0, ty_pl_57_1, ty_pl_57_2, ty_pl_57_3, ty_pl_57_4, ty_pl_57_5, ty_pl_59_0, ty_pl_59_1, ty_pl_70_0, ty_pl_70_1, ty_sl_72, ty_ze_57, ty_ze_59, ty_ze_70, ty_zs_125]
        | (with_reducible refine drawK_id ?_); refine drawK_auto hmix (by kernel_rfl) ?_
        | (with_reducible refine draw_fin ?_ ?_); · kernel_rfl
        | (with_reducible refine draw_id ?_); kernel_rfl
        | (with_reducible refine callK_id (f := 32) ?_); refine callK_fun (f32 _) rfl rfl ?_
        | ((with_reducible refine callK_id (f := 19) ?_); refine callK_funR [2] (r := .s (.raw (.int .u32 (withP 0 ((1 + i % 16 : Nat) : Int))))) (by simp [pullH, roC, pullI, pullS, ix]; exact f19 _) rfl ?_)
        | ((with_reducible refine callK_id (f := 26) ?_); refine callK_funW [] [0, 1] (c26) (by simp [pullHW, roC, Function.comp_def, rows_pull, pullS, ix, pullI, mapC, kC_pull, sE_k, sE_v, sE_fold, eS_pull]) rfl rfl (by decide) (by simp) (by simp [pullI, pullS, ix, kC_pull, eS, eS_bld]) ?_; rintro r Hn ⟨rfl, rfl⟩ -; skip)
        | (with_reducible refine And.intro ?_ ?_; · omega)
      refine ⟨n - (i + 1), _, _, by omega, Wk.gc [0, 1] rfl (by decide), i + 1, c2, L2, rfl, by omega, hst2, ?_, ?_, ?_, ?_, ?_⟩ <;> first | with_reducible rfl | (simp [Function.comp_def, get_gcT, get, put, gcI, pullI, pullS, gcH, patL, canL, canH, canTL, canT, rows_pull, ix, g1, g5, g6, g7]; done) | (simp [Function.comp_def, get_gcT, get, put, gcI, pullI, pullS, gcH, patL, canL, canH, canTL, canT, rows_pull, ix, H7, tabC, mpS, mapC, kC_pull, sE_k, sE_v, sE_fold, eS_pull]; done) | (simp [Function.comp_def, get_gcT, get, put, gcI, pullI, pullS, gcH, patL, canL, canH, canTL, canT, rows_pull, ix, H7, tabC, mpS, mapC, kC_pull, sE_k, sE_v, sE_fold, eS_pull]; try (intros; rfl))
    · have q2 : decide ((i : Int) < 16) = false := decide_eq_false (by omega)
      have q3 : decide ((16 : Int) ≤ (i : Int)) = true := decide_eq_true (by omega)
      rw [if_neg h16] at c26
      repeat' first
        | with_reducible rfl
        | simp only [eS_bld, q1, q2, r1, r2, r3, r4, r5, r6, r7, hi1, kf, qf, kC_fold, encM_len, List.length_map, Int.toNat_natCast, g1, g5, g6, g7, kC_push, kC_pull, sE_k, sE_v, sE_fold, kC_len, eS_len, eS_pull, eS_push, q3, e_nil, e_cons, e_gd, e_gdt, e_gdf, e_g0, e_g1, e_op, e_step, e_stepG, e_stepN, e_clo, e_cloF, e_ret, e_put, e_junk, e_skip, e_reg, e_draw, e_seq, e_cond, e_block, e_exit, e_r, e_label, e_loop, q_sn, q_sr, q_se, q_bn, q_br, q_be, q_rr, q_rn, e_res0, e_res1, e_res2, e_b, d_nil, d_cons, d_op, d_step, d_stepG, d_stepN, d_clo, d_cloF, d_ret, d_put, d_junk, d_inf, d_fin, g_not, g_and, argsTM, stepE, stBuiltin, stBox, stAlloc, stLoad, stStore, stField, stExtract, stBin, stUn, stConv, stNilCheck, stFieldV, stIndex, stIndexAddr, stLen, stMin, stMax, stBuild, fillI, stBuildSlice, setRows, stMakeSlice, stAppend, srcR, segR, rdCells, stSlice, bnd, stArr, stCopy, stConv2, isIntV, cutR, byteRows, rowByte, binStr, Option.map_some, Option.map_none, eq_self, canTL, canT, canH, canL, patL, gcH, gcT, gcI, get_gcT, mapC, pullS, pullI, pushS, push1, pushI, pushC, pullHW, roC, ix, List.map_map, Function.comp_def, List.zip_cons_cons, List.zip_nil_left, List.zip_nil_right, List.range'_zero, List.range'_succ, rd, get, put, IV.cells, ofValue, seg, spl, ldIV, binInt, eqI, cellsEq, leafEq, resI, flat, isT, upd, up1, nextM, cR, ptrC, nAl, isAl, List.length_cons, List.length_nil, List.length_append, List.length_replicate, List.length_set, Nat.reduceAdd, Nat.reduceMul, Nat.reduceEqDiff, Nat.reduceLeDiff, Nat.zero_add, Nat.add_zero, ne_eq, reduceCtorEq, not_false_eq_true, not_true_eq_false, reduceIte, true_and, and_true, and_false, false_and, and_self, List.nil_append, List.cons_append, List.append_nil, List.getElem?_cons_zero, List.getElem?_cons_succ, List.drop_succ_cons, List.drop_zero, List.take_succ_cons, List.take_zero, List.set_cons_zero, List.set_cons_succ, List.getElem?_toArray, Option.bind_some, Bool.false_eq_true, Nat.add_one_ne_zero, Nat.succ_ne_self, List.map_cons, List.map_nil, Bool.not_true, Bool.not_false, List.replicate_succ, List.replicate_zero, List.mem_cons, List.not_mem_nil, or_false, false_or, or_true, true_or, forall_const, false_implies, implies_true, true_implies, Int.reduceToNat, Int.reduceLE, Int.reduceLT, Int.cast_ofNat_Int, bne, Int.reduceEq, Int.reduceNe, Int.reduceNeg, Int.reduceAdd, Int.reduceSub, Int.reduceMul, beq_self_eq_true, Int.reduceBEq, Int.reduceBNe, Bool.true_and, Bool.false_and, Bool.and_true, Bool.and_false, Bool.true_or, Bool.false_or, Bool.or_true, Bool.or_false, Nat.reduceLT, Nat.reduceSub, Nat.zero_min, Nat.min_zero, Nat.min_self, List.flatMap_cons, List.flatMap_nil, Int.toNat_natCast, strEq_self, Bool.not_eq_true', decide_true, decide_false, WLS, Try.underlying27, Try.underlying3, Try.underlying4, Try.underlying5, Try.underlying77, ty_ok_57, ty_ok_59, ty_ok_70, ty_pl_57_0, ty_pl_57_1, ty_pl_57_2, ty_pl_57_3, ty_pl_57_4, ty_pl_57_5, ty_pl_59_0, ty_pl_59_1, ty_pl_70_0, ty_pl_70_1, ty_sl_72, ty_ze_57, ty_ze_59, ty_ze_70, ty_zs_125]
        | (with_reducible refine drawK_id ?_); refine drawK_auto hmix (by kernel_rfl) ?_
        | (with_reducible refine draw_fin ?_ ?_); · kernel_rfl
        | (with_reducible refine draw_id ?_); kernel_rfl
        | (with_reducible refine callK_id (f := 32) ?_); refine callK_fun (f32 _) rfl rfl ?_
        | ((with_reducible refine callK_id (f := 19) ?_); refine callK_funR [2] (r := .s (.raw (.int .u32 (withP 0 ((1 + i % 16 : Nat) : Int))))) (by simp [pullH, roC, pullI, pullS, ix]; exact f19 _) rfl ?_)
        | ((with_reducible refine callK_id (f := 26) ?_); refine callK_funW [] [0, 1] (c26) (by simp [pullHW, roC, Function.comp_def, rows_pull, pullS, ix, pullI, mapC, kC_pull, sE_k, sE_v, sE_fold, eS_pull]) rfl rfl (by decide) (by simp) (by simp [pullI, pullS, ix, kC_pull, eS, eS_bld]) ?_; rintro r Hn ⟨rfl, rfl⟩ -; skip)
        | (with_reducible refine And.intro ?_ ?_; · omega)
      refine ⟨n - (i + 1), _, _, by omega, Wk.gc [0, 1] rfl (by decide), i + 1, c2, L2, rfl, by omega, hst2, ?_, ?_, ?_, ?_, ?_⟩ <;> first | with_reducible rfl | (simp [Function.comp_def, get_gcT, get, put, gcI, pullI, pullS, gcH, patL, canL, canH, canTL, canT, rows_pull, ix, g1, g5, g6, g7]; done) | (simp [Function.comp_def, get_gcT, get, put, gcI, pullI, pullS, gcH, patL, canL, canH, canTL, canT, rows_pull, ix, H7, tabC, mpS, mapC, kC_pull, sE_k, sE_v, sE_fold, eS_pull]; done) | (simp [Function.comp_def, get_gcT, get, put, gcI, pullI, pullS, gcH, patL, canL, canH, canTL, canT, rows_pull, ix, H7, tabC, mpS, mapC, kC_pull, sE_k, sE_v, sE_fold, eS_pull]; try (intros; rfl))
  · obtain rfl : i = n := by omega
    have q1 : decide ((i : Int) < (i : Int)) = false := decide_eq_false (by omega)
    have fin : ∀ (clock : Nat) (L : List SEN), SF clock L i → FunW Try.prog 26 [] [tabC, mpS clock L] [.s (.ptr 0 0 0), .a (eS ⟨kL b, 0, 0⟩)] fun r Hn => r = .s (.raw (.int .i64 (if b < 16 then 6 else if i < 16 then 0 else 13))) ∧ Hn = [tabC, mpS (setS clock L (kL b) 0).2.1 (setS clock L (kL b) 0).2.2] := fun clock L h => by
      have := f26 clock L h.k ⟨kL b, 0, 0⟩
      simp only [h.last b b0 b1] at this
      exact this
    have lst : ∀ (clock : Nat) (L : List SEN), SF clock L i → b < 16 → FunW Try.prog 28 [] [tabC, mpS (setS clock L (kL b) 0).2.1 (setS clock L (kL b) 0).2.2] [.s (.ptr 0 0 0)] fun r Hn => r = .s (.slice 2 0 (min i 16)) ∧ Hn = [tabC, mpS (setS clock L (kL b) 0).2.1 (setS clock L (kL b) 0).2.2, .rows true 8 ((srtS L).map eS)] := fun clock L h hb => by
      have he : setS clock L (kL b) 0 = (6, clock, L) := by
        have h1 := h.last b b0 b1
        rw [if_pos hb] at h1
        unfold setS at h1 ⊢
        split
        · rename_i hg
          rw [if_pos hg] at h1
          split at h1 <;> simp at h1
        · rename_i hg
          rw [if_neg hg] at h1
          simp only at h1
          rw [h1]
      rw [he]
      have := f28 clock L h.s h.c (by have := h.len; omega) (sort_okS L h.k h.v (by have := h.len; omega))
      rw [h.len] at this
      exact this
    by_cases hz : i = 0
    · subst hz
      have q2 : decide ((0 : Int) < ((0 : Nat) : Int)) = false := rfl
      have c26 := fin clock L hst
      have c28 := lst clock L hst
      generalize setS clock L (kL b) 0 = P at *
      obtain ⟨er, c2, L2⟩ := P
      unfold tabC mpS at *
      by_cases hb : b < 16
      · have q4 : decide (b < 16) = true := decide_eq_true hb
        have c28 := c28 hb
        rw [if_pos hb] at c26
        repeat' first
          | with_reducible rfl
          | simp only [q1, q2, q4, srtS_len, List.length_map, Int.toNat_natCast, g1, g5, g6, g7, kC_push, kC_pull, sE_k, sE_v, sE_fold, kC_len, eS_len, eS_pull, eS_push, e_nil, e_cons, e_gd, e_gdt, e_gdf, e_g0, e_g1, e_op, e_step, e_stepG, e_stepN, e_clo, e_cloF, e_ret, e_put, e_junk, e_skip, e_reg, e_draw, e_seq, e_cond, e_block, e_exit, e_r, e_label, e_loop, q_sn, q_sr, q_se, q_bn, q_br, q_be, q_rr, q_rn, e_res0, e_res1, e_res2, e_b, d_nil, d_cons, d_op, d_step, d_stepG, d_stepN, d_clo, d_cloF, d_ret, d_put, d_junk, d_inf, d_fin, g_not, g_and, argsTM, stepE, stBuiltin, stBox, stAlloc, stLoad, stStore, stField, stExtract, stBin, stUn, stConv, stNilCheck, stFieldV, stIndex, stIndexAddr, stLen, stMin, stMax, stBuild, fillI, stBuildSlice, setRows, stMakeSlice, stAppend, srcR, segR, rdCells, stSlice, bnd, stArr, stCopy, stConv2, isIntV, cutR, byteRows, rowByte, binStr, Option.map_some, Option.map_none, eq_self, canTL, canT, canH, canL, patL, gcH, gcT, gcI, get_gcT, mapC, pullS, pullI, pushS, push1, pushI, pushC, pullHW, roC, ix, List.map_map, Function.comp_def, List.zip_cons_cons, List.zip_nil_left, List.zip_nil_right, List.range'_zero, List.range'_succ, rd, get, put, IV.cells, ofValue, seg, spl, ldIV, binInt, eqI, cellsEq, leafEq, resI, flat, isT, upd, up1, nextM, cR, ptrC, nAl, isAl, List.length_cons, List.length_nil, List.length_append, List.length_replicate, List.length_set, Nat.reduceAdd, Nat.reduceMul, Nat.reduceEqDiff, Nat.reduceLeDiff, Nat.zero_add, Nat.add_zero, ne_eq, reduceCtorEq, not_false_eq_true, not_true_eq_false, reduceIte, true_and, and_true, and_false, false_and, and_self, List.nil_append, List.cons_append, List.append_nil, List.getElem?_cons_zero, List.getElem?_cons_succ, List.drop_succ_cons, List.drop_zero, List.take_succ_cons, List.take_zero, List.set_cons_zero, List.set_cons_succ, List.getElem?_toArray, Option.bind_some, Bool.false_eq_true, Nat.add_one_ne_zero, Nat.succ_ne_self, List.map_cons, List.map_nil, Bool.not_true, Bool.not_false, List.replicate_succ, List.replicate_zero, List.mem_cons, List.not_mem_nil, or_false, false_or, or_true, true_or, forall_const, false_implies, implies_true, true_implies, Int.reduceToNat, Int.reduceLE, Int.reduceLT, Int.cast_ofNat_Int, bne, Int.reduceEq, Int.reduceNe, Int.reduceNeg, Int.reduceAdd, Int.reduceSub, Int.reduceMul, beq_self_eq_true, Int.reduceBEq, Int.reduceBNe, Bool.true_and, Bool.false_and, Bool.and_true, Bool.and_false, Bool.true_or, Bool.false_or, Bool.or_true, Bool.or_false, Nat.reduceLT, Nat.reduceSub, Nat.zero_min, Nat.min_zero, Nat.min_self, List.flatMap_cons, List.flatMap_nil, Int.toNat_natCast, strEq_self, Bool.not_eq_true', decide_true, decide_false, WLS, Try.underlying27, Try.underlying3, Try.underlying4, Try.underlying5, Try.underlying77, ty_ok_57, ty_ok_59, ty_ok_70, ty_pl_57_0, ty_pl_57_1, ty_pl_57_2, ty_pl_57_3, ty_pl_57_4, ty_pl_57_5, ty_pl_59_0, ty_pl_59_1, ty_pl_70_0, ty_pl_70_1, ty_sl_72, ty_ze_57, ty_ze_59, ty_ze_70, ty_zs_125]
          | (with_reducible refine drawK_id ?_); refine drawK_auto hmix (by kernel_rfl) ?_
          | (with_reducible refine draw_fin ?_ ?_); · kernel_rfl
          | (with_reducible refine draw_id ?_); kernel_rfl
          | (with_reducible refine callK_id (f := 32) ?_); refine callK_fun (f32 _) rfl rfl ?_
          | ((with_reducible refine callK_id (f := 26) ?_); refine callK_funW [] [0, 1] (c26) (by simp [pullHW, roC, Function.comp_def, rows_pull, pullS, ix, pullI, mapC, kC_pull, sE_k, sE_v, sE_fold, eS_pull]) rfl rfl (by decide) (by simp) (by simp [pullI, pullS, ix, kC_pull, eS, kL, kC]) ?_; rintro r Hn ⟨rfl, rfl⟩ -; skip)
          | ((with_reducible refine callK_id (f := 28) ?_); refine callK_funW [] [0, 1] (c28) (by simp [pullHW, roC, Function.comp_def, rows_pull, pullS, ix, pullI, mapC, kC_pull, sE_k, sE_v, sE_fold, eS_pull]) rfl rfl (by decide) (by simp) (by simp [pullI, pullS, ix, kC_pull, eS]) ?_; rintro r Hn ⟨rfl, rfl⟩ -; skip)
          | (with_reducible refine And.intro ?_ ?_; · omega)
      · have q4 : decide (b < 16) = false := decide_eq_false hb
        rw [if_neg hb] at c26
        simp only [Nat.lt_add_one, Nat.zero_lt_succ, if_true] at c26
        repeat' first
          | with_reducible rfl
          | simp only [q1, q2, q4, List.length_map, Int.toNat_natCast, g1, g5, g6, g7, kC_push, kC_pull, sE_k, sE_v, sE_fold, kC_len, eS_len, eS_pull, eS_push, e_nil, e_cons, e_gd, e_gdt, e_gdf, e_g0, e_g1, e_op, e_step, e_stepG, e_stepN, e_clo, e_cloF, e_ret, e_put, e_junk, e_skip, e_reg, e_draw, e_seq, e_cond, e_block, e_exit, e_r, e_label, e_loop, q_sn, q_sr, q_se, q_bn, q_br, q_be, q_rr, q_rn, e_res0, e_res1, e_res2, e_b, d_nil, d_cons, d_op, d_step, d_stepG, d_stepN, d_clo, d_cloF, d_ret, d_put, d_junk, d_inf, d_fin, g_not, g_and, argsTM, stepE, stBuiltin, stBox, stAlloc, stLoad, stStore, stField, stExtract, stBin, stUn, stConv, stNilCheck, stFieldV, stIndex, stIndexAddr, stLen, stMin, stMax, stBuild, fillI, stBuildSlice, setRows, stMakeSlice, stAppend, srcR, segR, rdCells, stSlice, bnd, stArr, stCopy, stConv2, isIntV, cutR, byteRows, rowByte, binStr, Option.map_some, Option.map_none, eq_self, canTL, canT, canH, canL, patL, gcH, gcT, gcI, get_gcT, mapC, pullS, pullI, pushS, push1, pushI, pushC, pullHW, roC, ix, List.map_map, Function.comp_def, List.zip_cons_cons, List.zip_nil_left, List.zip_nil_right, List.range'_zero, List.range'_succ, rd, get, put, IV.cells, ofValue, seg, spl, ldIV, binInt, eqI, cellsEq, leafEq, resI, flat, isT, upd, up1, nextM, cR, ptrC, nAl, isAl, List.length_cons, List.length_nil, List.length_append, List.length_replicate, List.length_set, Nat.reduceAdd, Nat.reduceMul, Nat.reduceEqDiff, Nat.reduceLeDiff, Nat.zero_add, Nat.add_zero, ne_eq, reduceCtorEq, not_false_eq_true, not_true_eq_false, reduceIte, true_and, and_true, and_false, false_and, and_self, List.nil_append, List.cons_append, List.append_nil, List.getElem?_cons_zero, List.getElem?_cons_succ, List.drop_succ_cons, List.drop_zero, List.take_succ_cons, List.take_zero, List.set_cons_zero, List.set_cons_succ, List.getElem?_toArray, Option.bind_some, Bool.false_eq_true, Nat.add_one_ne_zero, Nat.succ_ne_self, List.map_cons, List.map_nil, Bool.not_true, Bool.not_false, List.replicate_succ, List.replicate_zero, List.mem_cons, List.not_mem_nil, or_false, false_or, or_true, true_or, forall_const, false_implies, implies_true, true_implies, Int.reduceToNat, Int.reduceLE, Int.reduceLT, Int.cast_ofNat_Int, bne, Int.reduceEq, Int.reduceNe, Int.reduceNeg, Int.reduceAdd, Int.reduceSub, Int.reduceMul, beq_self_eq_true, Int.reduceBEq, Int.reduceBNe, Bool.true_and, Bool.false_and, Bool.and_true, Bool.and_false, Bool.true_or, Bool.false_or, Bool.or_true, Bool.or_false, Nat.reduceLT, Nat.reduceSub, Nat.zero_min, Nat.min_zero, Nat.min_self, List.flatMap_cons, List.flatMap_nil, Int.toNat_natCast, strEq_self, Bool.not_eq_true', decide_true, decide_false, WLS, Try.underlying27, Try.underlying3, Try.underlying4, Try.underlying5, Try.underlying77, ty_ok_57, ty_ok_59, ty_ok_70, ty_pl_57_0, ty_pl_57_1, ty_pl_57_2, ty_pl_57_3, ty_pl_57_4, ty_pl_57_5, ty_pl_59_0, ty_pl_59_1, ty_pl_70_0, ty_pl_70_1, ty_sl_72, ty_ze_57, ty_ze_59, ty_ze_70, ty_zs_125]
          | (with_reducible refine drawK_id ?_); refine drawK_auto hmix (by kernel_rfl) ?_
          | (with_reducible refine draw_fin ?_ ?_); · kernel_rfl
          | (with_reducible refine draw_id ?_); kernel_rfl
          | (with_reducible refine callK_id (f := 32) ?_); refine callK_fun (f32 _) rfl rfl ?_
          | ((with_reducible refine callK_id (f := 26) ?_); refine callK_funW [] [0, 1] (c26) (by simp [pullHW, roC, Function.comp_def, rows_pull, pullS, ix, pullI, mapC, kC_pull, sE_k, sE_v, sE_fold, eS_pull]) rfl rfl (by decide) (by simp) (by simp [pullI, pullS, ix, kC_pull, eS, kL, kC]) ?_; rintro r Hn ⟨rfl, rfl⟩ -; skip)
          | (with_reducible refine And.intro ?_ ?_; · omega)
    · have q2 : decide ((0 : Int) < (i : Int)) = true := decide_eq_true (by omega)
      have hg2 : goodS (kkI 0) (withP 0 2) = 0 := by decide +kernel
      have k0 : (⟨1, ⟨0, 0, 0, 0, 0, 0⟩⟩ : KEY) = kkI 0 := by decide +kernel
      obtain ⟨ha1, hst2⟩ := hst.again (by omega) (withP 0 2) hg2
      have c26a := f26 clock L hst.k ⟨kkI 0, withP 0 2, 0⟩
      simp only [ha1] at c26a
      generalize setS clock L (kkI 0) (withP 0 2) = PP at *
      obtain ⟨er1, c1, L1⟩ := PP
      simp only at c26a hst2
      have c26 := fin c1 L1 hst2
      have c28 := lst c1 L1 hst2
      generalize setS c1 L1 (kL b) 0 = P at *
      obtain ⟨er, c2, L2⟩ := P
      have ek : eS ⟨kkI 0, withP 0 2, 0⟩ = [.raw (.int .u16 1), .raw (.int .u8 0), .raw (.int .u8 0), .raw (.int .u8 0), .raw (.int .u8 0), .raw (.int .u8 0), .raw (.int .u8 0), .raw (.int .u32 (withP 0 2))] := by rw [← k0]; rfl
      rw [ek] at c26a
      unfold tabC mpS at *
      by_cases hb : b < 16
      · have q4 : decide (b < 16) = true := decide_eq_true hb
        have c28 := c28 hb
        rw [if_pos hb] at c26
        by_cases h16 : i < 16
        · have mi : min i 16 = i := by omega
          have mi2 : (if (16 : Int) < (i : Int) then (16 : Int) else (i : Int)) = (i : Int) := by split <;> omega
          rw [mi] at c28
          repeat' first
            | with_reducible rfl
            | simp only [q1, q2, q4, mi, mi2, List.length_map, Int.toNat_natCast, g1, g5, g6, g7, kC_push, kC_pull, sE_k, sE_v, sE_fold, kC_len, eS_len, eS_pull, eS_push, e_nil, e_cons, e_gd, e_gdt, e_gdf, e_g0, e_g1, e_op, e_step, e_stepG, e_stepN, e_clo, e_cloF, e_ret, e_put, e_junk, e_skip, e_reg, e_draw, e_seq, e_cond, e_block, e_exit, e_r, e_label, e_loop, q_sn, q_sr, q_se, q_bn, q_br, q_be, q_rr, q_rn, e_res0, e_res1, e_res2, e_b, d_nil, d_cons, d_op, d_step, d_stepG, d_stepN, d_clo, d_cloF, d_ret, d_put, d_junk, d_inf, d_fin, g_not, g_and, argsTM, stepE, stBuiltin, stBox, stAlloc, stLoad, stStore, stField, stExtract, stBin, stUn, stConv, stNilCheck, stFieldV, stIndex, stIndexAddr, stLen, stMin, stMax, stBuild, fillI, stBuildSlice, setRows, stMakeSlice, stAppend, srcR, segR, rdCells, stSlice, bnd, stArr, stCopy, stConv2, isIntV, cutR, byteRows, rowByte, binStr, Option.map_some, Option.map_none, eq_self, canTL, canT, canH, canL, patL, gcH, gcT, gcI, get_gcT, mapC, pullS, pullI, pushS, push1, pushI, pushC, pullHW, roC, ix, List.map_map, Function.comp_def, List.zip_cons_cons, List.zip_nil_left, List.zip_nil_right, List.range'_zero, List.range'_succ, rd, get, put, IV.cells, ofValue, seg, spl, ldIV, binInt, eqI, cellsEq, leafEq, resI, flat, isT, upd, up1, nextM, cR, ptrC, nAl, isAl, List.length_cons, List.length_nil, List.length_append, List.length_replicate, List.length_set, Nat.reduceAdd, Nat.reduceMul, Nat.reduceEqDiff, Nat.reduceLeDiff, Nat.zero_add, Nat.add_zero, ne_eq, reduceCtorEq, not_false_eq_true, not_true_eq_false, reduceIte, true_and, and_true, and_false, false_and, and_self, List.nil_append, List.cons_append, List.append_nil, List.getElem?_cons_zero, List.getElem?_cons_succ, List.drop_succ_cons, List.drop_zero, List.take_succ_cons, List.take_zero, List.set_cons_zero, List.set_cons_succ, List.getElem?_toArray, Option.bind_some, Bool.false_eq_true, Nat.add_one_ne_zero, Nat.succ_ne_self, List.map_cons, List.map_nil, Bool.not_true, Bool.not_false, List.replicate_succ, List.replicate_zero, List.mem_cons, List.not_mem_nil, or_false, false_or, or_true, true_or, forall_const, false_implies, implies_true, true_implies, Int.reduceToNat, Int.reduceLE, Int.reduceLT, Int.cast_ofNat_Int, bne, Int.reduceEq, Int.reduceNe, Int.reduceNeg, Int.reduceAdd, Int.reduceSub, Int.reduceMul, beq_self_eq_true, Int.reduceBEq, Int.reduceBNe, Bool.true_and, Bool.false_and, Bool.and_true, Bool.and_false, Bool.true_or, Bool.false_or, Bool.or_true, Bool.or_false, Nat.reduceLT, Nat.reduceSub, Nat.zero_min, Nat.min_zero, Nat.min_self, List.flatMap_cons, List.flatMap_nil, Int.toNat_natCast, strEq_self, Bool.not_eq_true', decide_true, decide_false, WLS, Try.underlying27, Try.underlying3, Try.underlying4, Try.underlying5, Try.underlying77, ty_ok_57, ty_ok_59, ty_ok_70, ty_pl_57_0, ty_pl_57_1, ty_pl_57_2, ty_pl_57_3, ty_pl_57_4, ty_pl_57_5, ty_pl_59_0, ty_pl_59_1, ty_pl_70_0, ty_pl_70_1, ty_sl_72, ty_ze_57, ty_ze_59, ty_ze_70, ty_zs_125]
            | (with_reducible refine drawK_id ?_); refine drawK_auto hmix (by kernel_rfl) ?_
            | (with_reducible refine draw_fin ?_ ?_); · kernel_rfl
            | (with_reducible refine draw_id ?_); kernel_rfl
            | (with_reducible refine callK_id (f := 32) ?_); refine callK_fun (f32 _) rfl rfl ?_
            | ((with_reducible refine callK_id (f := 19) ?_); refine callK_funR [2] (r := .s (.raw (.int .u32 (withP 0 2)))) (by simp [pullH, roC, pullI, pullS, ix]; exact f19 _) rfl ?_)
            | ((with_reducible refine callK_id (f := 26) (args := [_, .a [.raw (.int .u16 1), _, _, _, _, _, _, _]]) ?_); refine callK_funW [] [0, 1] (c26a) (by simp [pullHW, roC, Function.comp_def, rows_pull, pullS, ix, pullI, mapC, kC_pull, sE_k, sE_v, sE_fold, eS_pull]) rfl rfl (by decide) (by simp) (by simp [pullI, pullS, ix, kC_pull, eS, ek]) ?_; rintro r Hn ⟨rfl, rfl⟩ -; skip)
            | ((with_reducible refine callK_id (f := 26) ?_); refine callK_funW [] [0, 1] (c26) (by simp [pullHW, roC, Function.comp_def, rows_pull, pullS, ix, pullI, mapC, kC_pull, sE_k, sE_v, sE_fold, eS_pull]) rfl rfl (by decide) (by simp) (by simp [pullI, pullS, ix, kC_pull, eS, kL, kC]) ?_; rintro r Hn ⟨rfl, rfl⟩ -; skip)
            | ((with_reducible refine callK_id (f := 28) ?_); refine callK_funW [] [0, 1] (c28) (by simp [pullHW, roC, Function.comp_def, rows_pull, pullS, ix, pullI, mapC, kC_pull, sE_k, sE_v, sE_fold, eS_pull]) rfl rfl (by decide) (by simp) (by simp [pullI, pullS, ix, kC_pull, eS]) ?_; rintro r Hn ⟨rfl, rfl⟩ -; skip)
            | (with_reducible refine And.intro ?_ ?_; · omega)
        · have mi : min i 16 = 16 := by omega
          have mi2 : (if (16 : Int) < (i : Int) then (16 : Int) else (i : Int)) = ((16 : Nat) : Int) := by split <;> omega
          rw [mi] at c28
          repeat' first
            | with_reducible rfl
            | simp only [q1, q2, q4, mi, mi2, List.length_map, Int.toNat_natCast, g1, g5, g6, g7, kC_push, kC_pull, sE_k, sE_v, sE_fold, kC_len, eS_len, eS_pull, eS_push, e_nil, e_cons, e_gd, e_gdt, e_gdf, e_g0, e_g1, e_op, e_step, e_stepG, e_stepN, e_clo, e_cloF, e_ret, e_put, e_junk, e_skip, e_reg, e_draw, e_seq, e_cond, e_block, e_exit, e_r, e_label, e_loop, q_sn, q_sr, q_se, q_bn, q_br, q_be, q_rr, q_rn, e_res0, e_res1, e_res2, e_b, d_nil, d_cons, d_op, d_step, d_stepG, d_stepN, d_clo, d_cloF, d_ret, d_put, d_junk, d_inf, d_fin, g_not, g_and, argsTM, stepE, stBuiltin, stBox, stAlloc, stLoad, stStore, stField, stExtract, stBin, stUn, stConv, stNilCheck, stFieldV, stIndex, stIndexAddr, stLen, stMin, stMax, stBuild, fillI, stBuildSlice, setRows, stMakeSlice, stAppend, srcR, segR, rdCells, stSlice, bnd, stArr, stCopy, stConv2, isIntV, cutR, byteRows, rowByte, binStr, Option.map_some, Option.map_none, eq_self, canTL, canT, canH, canL, patL, gcH, gcT, gcI, get_gcT, mapC, pullS, pullI, pushS, push1, pushI, pushC, pullHW, roC, ix, List.map_map, Function.comp_def, List.zip_cons_cons, List.zip_nil_left, List.zip_nil_right, List.range'_zero, List.range'_succ, rd, get, put, IV.cells, ofValue, seg, spl, ldIV, binInt, eqI, cellsEq, leafEq, resI, flat, isT, upd, up1, nextM, cR, ptrC, nAl, isAl, List.length_cons, List.length_nil, List.length_append, List.length_replicate, List.length_set, Nat.reduceAdd, Nat.reduceMul, Nat.reduceEqDiff, Nat.reduceLeDiff, Nat.zero_add, Nat.add_zero, ne_eq, reduceCtorEq, not_false_eq_true, not_true_eq_false, reduceIte, true_and, and_true, and_false, false_and, and_self, List.nil_append, List.cons_append, List.append_nil, List.getElem?_cons_zero, List.getElem?_cons_succ, List.drop_succ_cons, List.drop_zero, List.take_succ_cons, List.take_zero, List.set_cons_zero, List.set_cons_succ, List.getElem?_toArray, Option.bind_some, Bool.false_eq_true, Nat.add_one_ne_zero, Nat.succ_ne_self, List.map_cons, List.map_nil, Bool.not_true, Bool.not_false, List.replicate_succ, List.replicate_zero, List.mem_cons, List.not_mem_nil, or_false, false_or, or_true, true_or, forall_const, false_implies, implies_true, true_implies, Int.reduceToNat, Int.reduceLE, Int.reduceLT, Int.cast_ofNat_Int, bne, Int.reduceEq, Int.reduceNe, Int.reduceNeg, Int.reduceAdd, Int.reduceSub, Int.reduceMul, beq_self_eq_true, Int.reduceBEq, Int.reduceBNe, Bool.true_and, Bool.false_and, Bool.and_true, Bool.and_false, Bool.true_or, Bool.false_or, Bool.or_true, Bool.or_false, Nat.reduceLT, Nat.reduceSub, Nat.zero_min, Nat.min_zero, Nat.min_self, List.flatMap_cons, List.flatMap_nil, Int.toNat_natCast, strEq_self, Bool.not_eq_true', decide_true, decide_false, WLS, Try.underlying27, Try.underlying3, Try.underlying4, Try.underlying5, Try.underlying77, ty_ok_57, ty_ok_59, ty_ok_70, ty_pl_57_0, ty_pl_57_1, ty_pl_57_2, ty_pl_57_3, ty_pl_57_4, ty_pl_57_5, ty_pl_59_0, ty_pl_59_1, ty_pl_70_0, ty_pl_70_1, ty_sl_72, ty_ze_57, ty_ze_59, ty_ze_70, ty_zs_125]
            | (with_reducible refine drawK_id ?_); refine drawK_auto hmix (by kernel_rfl) ?_
            | (with_reducible refine draw_fin ?_ ?_); · kernel_rfl
            | (with_reducible refine draw_id ?_); kernel_rfl
            | (with_reducible refine callK_id (f := 32) ?_); refine callK_fun (f32 _) rfl rfl ?_
            | ((with_reducible refine callK_id (f := 19) ?_); refine callK_funR [2] (r := .s (.raw (.int .u32 (withP 0 2)))) (by simp [pullH, roC, pullI, pullS, ix]; exact f19 _) rfl ?_)
            | ((with_reducible refine callK_id (f := 26) (args := [_, .a [.raw (.int .u16 1), _, _, _, _, _, _, _]]) ?_); refine callK_funW [] [0, 1] (c26a) (by simp [pullHW, roC, Function.comp_def, rows_pull, pullS, ix, pullI, mapC, kC_pull, sE_k, sE_v, sE_fold, eS_pull]) rfl rfl (by decide) (by simp) (by simp [pullI, pullS, ix, kC_pull, eS, ek]) ?_; rintro r Hn ⟨rfl, rfl⟩ -; skip)
            | ((with_reducible refine callK_id (f := 26) ?_); refine callK_funW [] [0, 1] (c26) (by simp [pullHW, roC, Function.comp_def, rows_pull, pullS, ix, pullI, mapC, kC_pull, sE_k, sE_v, sE_fold, eS_pull]) rfl rfl (by decide) (by simp) (by simp [pullI, pullS, ix, kC_pull, eS, kL, kC]) ?_; rintro r Hn ⟨rfl, rfl⟩ -; skip)
            | ((with_reducible refine callK_id (f := 28) ?_); refine callK_funW [] [0, 1] (c28) (by simp [pullHW, roC, Function.comp_def, rows_pull, pullS, ix, pullI, mapC, kC_pull, sE_k, sE_v, sE_fold, eS_pull]) rfl rfl (by decide) (by simp) (by simp [pullI, pullS, ix, kC_pull, eS]) ?_; rintro r Hn ⟨rfl, rfl⟩ -; skip)
            | (with_reducible refine And.intro ?_ ?_; · omega)
      · have q4 : decide (b < 16) = false := decide_eq_false hb
        rw [if_neg hb] at c26
        by_cases h16 : i < 16
        · have q5 : decide ((16 : Int) ≤ (i : Int)) = false := decide_eq_false (by omega)
          have q6 : decide ((i : Int) < 16) = true := decide_eq_true (by omega)
          rw [if_pos h16] at c26
          repeat' first
            | with_reducible rfl
            | simp only [q1, q2, q4, q5, q6, List.length_map, Int.toNat_natCast, g1, g5, g6, g7, kC_push, kC_pull, sE_k, sE_v, sE_fold, kC_len, eS_len, eS_pull, eS_push, e_nil, e_cons, e_gd, e_gdt, e_gdf, e_g0, e_g1, e_op, e_step, e_stepG, e_stepN, e_clo, e_cloF, e_ret, e_put, e_junk, e_skip, e_reg, e_draw, e_seq, e_cond, e_block, e_exit, e_r, e_label, e_loop, q_sn, q_sr, q_se, q_bn, q_br, q_be, q_rr, q_rn, e_res0, e_res1, e_res2, e_b, d_nil, d_cons, d_op, d_step, d_stepG, d_stepN, d_clo, d_cloF, d_ret, d_put, d_junk, d_inf, d_fin, g_not, g_and, argsTM, stepE, stBuiltin, stBox, stAlloc, stLoad, stStore, stField, stExtract, stBin, stUn, stConv, stNilCheck, stFieldV, stIndex, stIndexAddr, stLen, stMin, stMax, stBuild, fillI, stBuildSlice, setRows, stMakeSlice, stAppend, srcR, segR, rdCells, stSlice, bnd, stArr, stCopy, stConv2, isIntV, cutR, byteRows, rowByte, binStr, Option.map_some, Option.map_none, eq_self, canTL, canT, canH, canL, patL, gcH, gcT, gcI, get_gcT, mapC, pullS, pullI, pushS, push1, pushI, pushC, pullHW, roC, ix, List.map_map, Function.comp_def, List.zip_cons_cons, List.zip_nil_left, List.zip_nil_right, List.range'_zero, List.range'_succ, rd, get, put, IV.cells, ofValue, seg, spl, ldIV, binInt, eqI, cellsEq, leafEq, resI, flat, isT, upd, up1, nextM, cR, ptrC, nAl, isAl, List.length_cons, List.length_nil, List.length_append, List.length_replicate, List.length_set, Nat.reduceAdd, Nat.reduceMul, Nat.reduceEqDiff, Nat.reduceLeDiff, Nat.zero_add, Nat.add_zero, ne_eq, reduceCtorEq, not_false_eq_true, not_true_eq_false, reduceIte, true_and, and_true, and_false, false_and, and_self, List.nil_append, List.cons_append, List.append_nil, List.getElem?_cons_zero, List.getElem?_cons_succ, List.drop_succ_cons, List.drop_zero, List.take_succ_cons, List.take_zero, List.set_cons_zero, List.set_cons_succ, List.getElem?_toArray, Option.bind_some, Bool.false_eq_true, Nat.add_one_ne_zero, Nat.succ_ne_self, List.map_cons, List.map_nil, Bool.not_true, Bool.not_false, List.replicate_succ, List.replicate_zero, List.mem_cons, List.not_mem_nil, or_false, false_or, or_true, true_or, forall_const, false_implies, implies_true, true_implies, Int.reduceToNat, Int.reduceLE, Int.reduceLT, Int.cast_ofNat_Int, bne, Int.reduceEq, Int.reduceNe, Int.reduceNeg, Int.reduceAdd, Int.reduceSub, Int.reduceMul, beq_self_eq_true, Int.reduceBEq, Int.reduceBNe, Bool.true_and, Bool.false_and, Bool.and_true, Bool.and_false, Bool.true_or, Bool.false_or, Bool.or_true, Bool.or_false, Nat.reduceLT, Nat.reduceSub, Nat.zero_min, Nat.min_zero, Nat.min_self, List.flatMap_cons, List.flatMap_nil, Int.toNat_natCast, strEq_self, Bool.not_eq_true', decide_true, decide_false, WLS, Try.underlying27, Try.underlying3, Try.underlying4, Try.underlying5, Try.underlying77, ty_ok_57, ty_ok_59, ty_ok_70, ty_pl_57_0, ty_pl_57_1, ty_pl_57_2, ty_pl_57_3, ty_pl_57_4, ty_pl_57_5, ty_pl_59_0, ty_pl_59_1, ty_pl_70_0, ty_pl_70_1, ty_sl_72, ty_ze_57, ty_ze_59, ty_ze_70, ty_zs_125]
            | (with_reducible refine drawK_id ?_); refine drawK_auto hmix (by kernel_rfl) ?_
            | (with_reducible refine draw_fin ?_ ?_); · kernel_rfl
            | (with_reducible refine draw_id ?_); kernel_rfl
            | (with_reducible refine callK_id (f := 32) ?_); refine callK_fun (f32 _) rfl rfl ?_
            | ((with_reducible refine callK_id (f := 19) ?_); refine callK_funR [2] (r := .s (.raw (.int .u32 (withP 0 2)))) (by simp [pullH, roC, pullI, pullS, ix]; exact f19 _) rfl ?_)
            | ((with_reducible refine callK_id (f := 26) (args := [_, .a [.raw (.int .u16 1), _, _, _, _, _, _, _]]) ?_); refine callK_funW [] [0, 1] (c26a) (by simp [pullHW, roC, Function.comp_def, rows_pull, pullS, ix, pullI, mapC, kC_pull, sE_k, sE_v, sE_fold, eS_pull]) rfl rfl (by decide) (by simp) (by simp [pullI, pullS, ix, kC_pull, eS, ek]) ?_; rintro r Hn ⟨rfl, rfl⟩ -; skip)
            | ((with_reducible refine callK_id (f := 26) ?_); refine callK_funW [] [0, 1] (c26) (by simp [pullHW, roC, Function.comp_def, rows_pull, pullS, ix, pullI, mapC, kC_pull, sE_k, sE_v, sE_fold, eS_pull]) rfl rfl (by decide) (by simp) (by simp [pullI, pullS, ix, kC_pull, eS, kL, kC]) ?_; rintro r Hn ⟨rfl, rfl⟩ -; skip)
            | (with_reducible refine And.intro ?_ ?_; · omega)
        · have q5 : decide ((16 : Int) ≤ (i : Int)) = true := decide_eq_true (by omega)
          have q6 : decide ((i : Int) < 16) = false := decide_eq_false (by omega)
          rw [if_neg h16] at c26
          repeat' first
            | with_reducible rfl
            | simp only [q1, q2, q4, q5, q6, List.length_map, Int.toNat_natCast, g1, g5, g6, g7, kC_push, kC_pull, sE_k, sE_v, sE_fold, kC_len, eS_len, eS_pull, eS_push, e_nil, e_cons, e_gd, e_gdt, e_gdf, e_g0, e_g1, e_op, e_step, e_stepG, e_stepN, e_clo, e_cloF, e_ret, e_put, e_junk, e_skip, e_reg, e_draw, e_seq, e_cond, e_block, e_exit, e_r, e_label, e_loop, q_sn, q_sr, q_se, q_bn, q_br, q_be, q_rr, q_rn, e_res0, e_res1, e_res2, e_b, d_nil, d_cons, d_op, d_step, d_stepG, d_stepN, d_clo, d_cloF, d_ret, d_put, d_junk, d_inf, d_fin, g_not, g_and, argsTM, stepE, stBuiltin, stBox, stAlloc, stLoad, stStore, stField, stExtract, stBin, stUn, stConv, stNilCheck, stFieldV, stIndex, stIndexAddr, stLen, stMin, stMax, stBuild, fillI, stBuildSlice, setRows, stMakeSlice, stAppend, srcR, segR, rdCells, stSlice, bnd, stArr, stCopy, stConv2, isIntV, cutR, byteRows, rowByte, binStr, Option.map_some, Option.map_none, eq_self, canTL, canT, canH, canL, patL, gcH, gcT, gcI, get_gcT, mapC, pullS, pullI, pushS, push1, pushI, pushC, pullHW, roC, ix, List.map_map, Function.comp_def, List.zip_cons_cons, List.zip_nil_left, List.zip_nil_right, List.range'_zero, List.range'_succ, rd, get, put, IV.cells, ofValue, seg, spl, ldIV, binInt, eqI, cellsEq, leafEq, resI, flat, isT, upd, up1, nextM, cR, ptrC, nAl, isAl, List.length_cons, List.length_nil, List.length_append, List.length_replicate, List.length_set, Nat.reduceAdd, Nat.reduceMul, Nat.reduceEqDiff, Nat.reduceLeDiff, Nat.zero_add, Nat.add_zero, ne_eq, reduceCtorEq, not_false_eq_true, not_true_eq_false, reduceIte, true_and, and_true, and_false, false_and, and_self, List.nil_append, List.cons_append, List.append_nil, List.getElem?_cons_zero, List.getElem?_cons_succ, List.drop_succ_cons, List.drop_zero, List.take_succ_cons, List.take_zero, List.set_cons_zero, List.set_cons_succ, List.getElem?_toArray, Option.bind_some, Bool.false_eq_true, Nat.add_one_ne_zero, Nat.succ_ne_self, List.map_cons, List.map_nil, Bool.not_true, Bool.not_false, List.replicate_succ, List.replicate_zero, List.mem_cons, List.not_mem_nil, or_false, false_or, or_true, true_or, forall_const, false_implies, implies_true, true_implies, Int.reduceToNat, Int.reduceLE, Int.reduceLT, Int.cast_ofNat_Int, bne, Int.reduceEq, Int.reduceNe, Int.reduceNeg, Int.reduceAdd, Int.reduceSub, Int.reduceMul, beq_self_eq_true, Int.reduceBEq, Int.reduceBNe, Bool.true_and, Bool.false_and, Bool.and_true, Bool.and_false, Bool.true_or, Bool.false_or, Bool.or_true, Bool.or_false, Nat.reduceLT, Nat.reduceSub, Nat.zero_min, Nat.min_zero, Nat.min_self, List.flatMap_cons, List.flatMap_nil, Int.toNat_natCast, strEq_self, Bool.not_eq_true', decide_true, decide_false, WLS, Try.underlying27, Try.underlying3, Try.underlying4, Try.underlying5, Try.underlying77, ty_ok_57, ty_ok_59, ty_ok_70, ty_pl_57_0, ty_pl_57_1, ty_pl_57_2, ty_pl_57_3, ty_pl_57_4, ty_pl_57_5, ty_pl_59_0, ty_pl_59_1, ty_pl_70_0, ty_pl_70_1, ty_sl_72, ty_ze_57, ty_ze_59, ty_ze_70, ty_zs_125]
            | (with_reducible refine drawK_id ?_); refine drawK_auto hmix (by kernel_rfl) ?_
            | (with_reducible refine draw_fin ?_ ?_); · kernel_rfl
            | (with_reducible refine draw_id ?_); kernel_rfl
            | (with_reducible refine callK_id (f := 32) ?_); refine callK_fun (f32 _) rfl rfl ?_
            | ((with_reducible refine callK_id (f := 19) ?_); refine callK_funR [2] (r := .s (.raw (.int .u32 (withP 0 2)))) (by simp [pullH, roC, pullI, pullS, ix]; exact f19 _) rfl ?_)
            | ((with_reducible refine callK_id (f := 26) (args := [_, .a [.raw (.int .u16 1), _, _, _, _, _, _, _]]) ?_); refine callK_funW [] [0, 1] (c26a) (by simp [pullHW, roC, Function.comp_def, rows_pull, pullS, ix, pullI, mapC, kC_pull, sE_k, sE_v, sE_fold, eS_pull]) rfl rfl (by decide) (by simp) (by simp [pullI, pullS, ix, kC_pull, eS, ek]) ?_; rintro r Hn ⟨rfl, rfl⟩ -; skip)
            | ((with_reducible refine callK_id (f := 26) ?_); refine callK_funW [] [0, 1] (c26) (by simp [pullHW, roC, Function.comp_def, rows_pull, pullS, ix, pullI, mapC, kC_pull, sE_k, sE_v, sE_fold, eS_pull]) rfl rfl (by decide) (by simp) (by simp [pullI, pullS, ix, kC_pull, eS, kL, kC]) ?_; rintro r Hn ⟨rfl, rfl⟩ -; skip)
            | (with_reducible refine And.intro ?_ ?_; · omega)
end Go.Ev
