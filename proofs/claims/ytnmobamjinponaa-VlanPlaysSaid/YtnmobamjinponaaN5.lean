/- A part of the proof: contracts of the functions that the statement reaches. -/
import Derived.Test.YtnmobamjinponaaEvC
import Derived.Test.YtnmobamjinponaaN4
namespace Go.Ev
open Go.Proofs
set_option maxRecDepth 100000
set_option linter.unusedSimpArgs false
set_option linter.unusedVariables false
set_option maxHeartbeats 4000000
open Srt
def mI (j : Nat) : Int := withP 0 ((1 + j % 16 : Nat) : Int)
theorem mI_facts : ∀ i : Fin 30, mI i.val < 65536 ∧ withinP 0 (mI i.val) = true := by decide +kernel
theorem good_in {v m u : Int} (h1 : 1 ≤ v) (h2 : v ≤ 4094) (h3 : m < 65536) (h4 : u < 65536) (h5 : withinP u m = true) : goodV v m u = 0 := by
  unfold goodV badV
  rw [decide_eq_false (by omega), decide_eq_false (by omega), decide_eq_true h3, decide_eq_true h4, h5]
  rfl
theorem callK_idM {P : Program} {X : Ctx} {f : FuncId} {args : List IV} {k : IV → Heap → Prop} {H : Heap} {c : Nat} {ch : Chunk} (h : H[c]? = some ch) (g : callK P X f args k H) : callK P X f args k H := g
/-- What is true behind i rounds. -/
structure SF (b : Int) (L : List VEN) (i : Nat) : Prop where
  k : NDkV L
  len : L.length = min i 16
  ii : ∀ e ∈ L, ∃ j, j < i ∧ e.v = b + (j : Nat)
  z : 0 < i → ∃ e ∈ L, e.v = b
theorem SF.new {b : Int} {L : List VEN} {i : Nat} (h : SF b L i) : lookV L (b + (i : Nat)) = none := lookV_none fun e he hk => by
  obtain ⟨j, hj, hk2⟩ := h.ii e he
  omega
theorem SF.step {b : Int} {clock : Nat} {L : List VEN} {i : Nat} (h : SF b L i) (hi : i < 30) (b1 : 1 ≤ b) (b2 : b ≤ 4000) : (setV clock L (b + (i : Nat)) (mI i) 0).1 = (if i < 16 then 0 else 13) ∧ SF b (setV clock L (b + (i : Nat)) (mI i) 0).2.2 (i + 1) := by
  have hg := good_in (v := b + (i : Nat)) (by omega) (by omega) (mI_facts ⟨i, hi⟩).1 (show (0 : Int) < 65536 by decide) (mI_facts ⟨i, hi⟩).2
  have hn := h.new
  have hlen := h.len
  by_cases h16 : i < 16
  · have hs : setV clock L (b + (i : Nat)) (mI i) 0 = (0, clock + 1, L ++ [⟨b + (i : Nat), mI i, 0, clock⟩]) := by
      have : ¬ 16 ≤ L.length := by omega
      simp only [setV, hg, if_true, this, and_false, if_false, putV_miss clock L _ _ _ hn]
    rw [hs, if_pos h16]
    refine ⟨rfl, ?_, ?_, ?_, fun _ => ?_⟩
    · unfold NDkV
      rw [List.map_append, List.nodup_append]
      exact ⟨h.k, by simp, fun a ha b' hb e => by
        obtain ⟨x, hx, rfl⟩ := List.mem_map.1 ha
        simp at hb
        obtain ⟨j, hj, hk⟩ := h.ii x hx
        omega⟩
    · simp; omega
    · intro e he
      rcases List.mem_append.1 he with he | he
      · obtain ⟨j, hj, hk⟩ := h.ii e he
        exact ⟨j, by omega, hk⟩
      · simp at he; subst he; exact ⟨i, by omega, rfl⟩
    · by_cases h0 : 0 < i
      · obtain ⟨e, he, hk⟩ := h.z h0
        exact ⟨e, by simp [he], hk⟩
      · obtain rfl : i = 0 := by omega
        exact ⟨⟨b + ((0 : Nat) : Int), mI 0, 0, clock⟩, by simp, by simp⟩
  · have hs : setV clock L (b + (i : Nat)) (mI i) 0 = (13, clock, L) := by
      have : 16 ≤ L.length := by omega
      simp only [setV, hg, if_true, this, hn, Option.isSome_none, and_self]
    rw [hs, if_neg h16]
    exact ⟨rfl, h.k, (show L.length = min (i + 1) 16 by omega), fun e he => by
      obtain ⟨j, hj, hk⟩ := h.ii e he
      exact ⟨j, by omega, hk⟩, fun _ => h.z (by omega)⟩
theorem SF.again {b : Int} {clock : Nat} {L : List VEN} {n : Nat} (h : SF b L n) (hn : 0 < n) (m u : Int) (hg : goodV b m u = 0) : (setV clock L b m u).1 = 0 ∧ SF b (setV clock L b m u).2.2 n := by
  obtain ⟨e, he, hk⟩ := h.z hn
  obtain ⟨l1, l2, rfl, h0⟩ := mem_splitV h.k he
  have hlook := lookV_mid h0
  have hs : setV clock (l1 ++ e :: l2) b m u = (0, clock, l1 ++ ⟨e.v, m, u, e.s⟩ :: l2) := by
    rw [← hk] at hg ⊢
    simp only [setV, hg, if_true, hlook, Option.isSome_some, Bool.true_eq_false, false_and, if_false, putV_hit clock l1 e l2 m u hlook h0]
  rw [hs]
  have hm : ∀ x ∈ l1 ++ (⟨e.v, m, u, e.s⟩ : VEN) :: l2, x = ⟨e.v, m, u, e.s⟩ ∨ x ∈ l1 ++ e :: l2 := fun x hx => by
    rcases List.mem_append.1 hx with h | h
    · exact .inr (by simp [h])
    · rcases List.mem_cons.1 h with h | h
      · exact .inl h
      · exact .inr (by simp [h])
  refine ⟨rfl, by have := h.k; unfold NDkV at *; simpa using this, by have := h.len; simpa using this, ?_, fun _ => ⟨⟨e.v, m, u, e.s⟩, by simp, hk⟩⟩
  intro x hx
  rcases hm x hx with rfl | h2
  · exact h.ii e (by simp)
  · exact h.ii x h2
theorem SF.drop {b : Int} {L : List VEN} {n : Nat} (h : SF b L n) (hn : 0 < n) : (lookV L b).isSome = true ∧ NDkV (delV L b) ∧ (delV L b).length = min n 16 - 1 ∧ lookV (delV L b) b = none ∧ delV (delV L b) b = delV L b := by
  obtain ⟨e, he, hk⟩ := h.z hn
  obtain ⟨l1, l2, rfl, h0⟩ := mem_splitV h.k he
  subst hk
  have hlook := lookV_mid h0
  have hs : (l1 ++ l2).Sublist (l1 ++ e :: l2) := List.Sublist.append_left (List.sublist_cons_self e l2) l1
  rw [hlook, delV_hit l1 e l2 h0]
  refine ⟨rfl, (List.Sublist.map (fun e : VEN => e.v) hs).nodup h.k, ?_, lookV_none h0, filterV_off _ _ h0⟩
  have := h.len
  simp at this ⊢
  omega
def H4 (clock : Nat) (L : List VEN) : Heap := [tabV, mpV clock L]
def I4 (n : Nat) (b : Int) (mm : Nat) (tm : TM) (H : Heap) : Prop := ∃ (i clock : Nat) (L : List VEN), mm = n - i ∧ i ≤ n ∧ SF b L i ∧ get tm 5 = .s (.ptr 0 0 0) ∧ get tm 6 = .s (.raw (.int .i64 (n : Int))) ∧ get tm 7 = .s (.raw (.int .u16 b)) ∧ get tm 8 = .s (.raw (.int .i64 (i : Int))) ∧ H = H4 clock L
theorem law4 (x y : Int) (x0 : 0 ≤ x) (x1 : x ≤ 65535) (y0 : 0 ≤ y) (y1 : y ≤ 255) : Fun Try.prog 4 [.s (.raw (.int .u16 x)), .s (.raw (.int .u8 y))] (.s (.raw (.bool true))) := by
  refine fun_of rfl fun X => ?_
  obtain ⟨n, hn, n1⟩ : ∃ n : Nat, Int.tmod (IntKind.i64.wrap y) 30 = (n : Int) ∧ n < 30 := by
    have w : IntKind.i64.wrap y = y := wr_i64 (by omega) (by omega)
    rw [w, Int.tmod_eq_emod_of_nonneg y0]
    exact ⟨(y % 30).toNat, by omega, by omega⟩
  obtain ⟨b, hb, b1, b2⟩ : ∃ b : Int, IntKind.u16.wrap (1 + Int.tmod x 4000) = b ∧ 1 ≤ b ∧ b ≤ 4000 := by
    rw [Int.tmod_eq_emod_of_nonneg x0, wr_u16 (by omega) (by omega)]
    exact ⟨_, rfl, by omega, by omega⟩
  have c11 := f11
  unfold tabV at c11
  refine callK_inline (rs := [.tmp 4]) (n := 85) Try.func4 rfl rfl rfl (by kernel_rfl) (by kernel_rfl) (by simp only [List.length_cons, List.length_nil]; decide) ?_
  repeat' first
    | with_reducible rfl
    | simp only [hn, hb, List.length_map, push_V, pull_V, rwp1, clo_pull, clo_push, pw16, w16_push, RS_, argsTM, stepE, stBuiltin, stBox, stAlloc, stLoad, stStore, stField, stExtract, stBin, stUn, stConv, stNilCheck, stFieldV, stIndex, stIndexAddr, stLen, stMin, stMax, stBuild, fillI, stBuildSlice, setRows, stMakeSlice, stAppend, srcR, segR, rdCells, stSlice, bnd, stArr, stCopy, stConv2, isIntV, cutR, byteRows, rowByte, binStr, Option.map_some, Option.map_none, eq_self, canTL, canT, canH, canL, patL, gcH, gcT, gcI, get_gcT, pullS, pullI, pushS, push1, pushI, pullHW, roC, ix, List.map_map, Function.comp_def, List.zip_cons_cons, List.zip_nil_left, List.zip_nil_right, List.range'_zero, List.range'_succ, rd, get, put, IV.cells, ofValue, seg, spl, ldIV, binInt, eqI, cellsEq, leafEq, resI, flat, isT, upd, up1, nextM, cR, ptrC, nAl, isAl, ST_, Nat.reduceAdd, Nat.reduceMul, Nat.reduceEqDiff, Nat.reduceLeDiff, ne_eq, reduceCtorEq, reduceIte, forall_const, implies_true, Int.reduceToNat, Int.reduceLE, Int.reduceLT, bne, Int.reduceEq, Int.reduceNe, Int.reduceNeg, Int.reduceAdd, Int.reduceSub, Int.reduceMul, Int.reduceBEq, Int.reduceBNe, Nat.reduceLT, Nat.reduceSub, WLS, Try.underlying27, Try.underlying3, Try.underlying5, ty_ok_37, ty_pl_37_0, ty_pl_37_1, ty_pl_37_2, ty_sl_45, ty_ze_37, ty_zs_125]
    | (with_reducible refine drawK_id ?_); refine drawK_auto hmix (by kernel_rfl) ?_
    | (with_reducible refine draw_fin ?_ ?_); · kernel_rfl
    | (with_reducible refine draw_id ?_); kernel_rfl
    | (with_reducible refine callK_id (f := 10) ?_); refine callK_fun (f10) rfl rfl ?_
    | ((with_reducible refine callK_id (f := 11) ?_); refine callK_funW [] [] (c11) (by simp [pullHW, roC, Function.comp_def, rows_pull, pullS, ix, push_V, pull_V, rwp1, clo_pull, clo_push, pw16, w16_push, pullI, push1, pushI, pushS, eV_pull]) rfl rfl (by decide) (by simp [ne_V]) (by simp [pullI, pullS, ix, kV, eV_def]) ?_; rintro r Hn ⟨rfl, rfl⟩ -; skip)
    | (with_reducible refine And.intro ?_ ?_; · omega)
  refine loopK_wk (by kernel_rfl) (I4 n b) n ⟨_, _, Wk.refl, 0, 0, [], by omega, by omega, ⟨List.nodup_nil, by simp, by simp, fun h => by omega⟩, ?_, ?_, ?_, ?_, ?_⟩ ?_ <;> first | with_reducible rfl | (simp [Function.comp_def, get_gcT, get, put, gcI, pullI, pullS, gcH, patL, canL, canH, canTL, canT, rows_pull, ix, segR]; done) | (simp [Function.comp_def, get_gcT, get, put, gcI, pullI, pullS, gcH, patL, canL, canH, canTL, canT, rows_pull, ix, segR, H4, tabV, pull_V]; done) | skip
  rintro mm tm H ⟨i, clock, L, rfl, hi, hst, g5, g6, g7, g8, rfl⟩
  unfold H4
  by_cases hq : i < n
  · have q1 : decide ((i : Int) < (n : Int)) = true := decide_eq_true (by omega)
    have r1 : IntKind.u16.wrap (i : Int) = (i : Int) := wr_u16 (by omega) (by omega)
    have r2 : IntKind.u16.wrap (b + (i : Int)) = b + (i : Int) := wr_u16 (by omega) (by omega)
    have r3 : Int.tmod (i : Int) 16 = ((i % 16 : Nat) : Int) := by rw [Int.tmod_eq_emod_of_nonneg (by omega)]; omega
    have r4 : IntKind.i64.wrap (1 + ((i % 16 : Nat) : Int)) = ((1 + i % 16 : Nat) : Int) := by rw [wr_i64 (by omega) (by omega)]; omega
    have hi1 : IntKind.i64.wrap ((i : Int) + 1) = ((i + 1 : Nat) : Int) := by rw [wr_i64 (by omega) (by omega)]; rfl
    have o1 : FunR Try.prog 19 [.rows false 1 [[.raw (.int .i64 ((1 + i % 16 : Nat) : Int))]]] [.s (.slice 0 0 1)] (.s (.raw (.int .u32 (mI i)))) := f19 _
    obtain ⟨hs1, hst2⟩ := hst.step (clock := clock) (by omega) b1 b2
    have c16 := f16 clock L hst.k ⟨b + (i : Nat), mI i, 0, 0⟩
    simp only at c16
    generalize hP : setV clock L (b + (i : Nat)) (mI i) 0 = P at *
    obtain ⟨er, c2, L2⟩ := P
    simp only at hs1 hst2 c16
    subst hs1
    unfold tabV at c16 ⊢
    generalize hmi : mI i = mi at *
    by_cases h16 : i < 16
    · have q2 : decide ((i : Int) < 16) = true := decide_eq_true (by omega)
      have q3 : decide ((16 : Int) ≤ (i : Int)) = false := decide_eq_false (by omega)
      rw [if_pos h16] at c16
      repeat' first
        | with_reducible rfl
        | simp only [q1, q2, q3, r1, r2, r3, r4, hi1, g5, g6, g7, g8, List.length_map, push_V, pull_V, rwp1, clo_pull, clo_push, pw16, w16_push, RS_, argsTM, stepE, stBuiltin, stBox, stAlloc, stLoad, stStore, stField, stExtract, stBin, stUn, stConv, stNilCheck, stFieldV, stIndex, stIndexAddr, stLen, stMin, stMax, stBuild, fillI, stBuildSlice, setRows, stMakeSlice, stAppend, srcR, segR, rdCells, stSlice, bnd, stArr, stCopy, stConv2, isIntV, cutR, byteRows, rowByte, binStr, Option.map_some, Option.map_none, eq_self, canTL, canT, canH, canL, patL, gcH, gcT, gcI, get_gcT, pullS, pullI, pushS, push1, pushI, pullHW, roC, ix, List.map_map, Function.comp_def, List.zip_cons_cons, List.zip_nil_left, List.zip_nil_right, List.range'_zero, List.range'_succ, rd, get, put, IV.cells, ofValue, seg, spl, ldIV, binInt, eqI, cellsEq, leafEq, resI, flat, isT, upd, up1, nextM, cR, ptrC, nAl, isAl, ST_, Nat.reduceAdd, Nat.reduceMul, Nat.reduceEqDiff, Nat.reduceLeDiff, ne_eq, reduceCtorEq, reduceIte, forall_const, implies_true, Int.reduceToNat, Int.reduceLE, Int.reduceLT, bne, Int.reduceEq, Int.reduceNe, Int.reduceNeg, Int.reduceAdd, Int.reduceSub, Int.reduceMul, Int.reduceBEq, Int.reduceBNe, Nat.reduceLT, Nat.reduceSub, WLS, Try.underlying27, Try.underlying3, Try.underlying5, ty_ok_37, ty_pl_37_0, ty_pl_37_1, ty_pl_37_2, ty_sl_45, ty_ze_37, ty_zs_125]
        | (with_reducible refine drawK_id ?_); refine drawK_auto hmix (by kernel_rfl) ?_
        | (with_reducible refine draw_fin ?_ ?_); · kernel_rfl
        | (with_reducible refine draw_id ?_); kernel_rfl
        | ((with_reducible refine callK_id (f := 19) ?_); refine callK_funR [2] (r := .s (.raw (.int .u32 mi))) (by simp [pullH, roC, pullI, pullS, ix]; exact o1) rfl ?_)
        | ((with_reducible refine callK_id (f := 16) ?_); refine callK_funW [] [0, 1] (c16) (by simp [pullHW, roC, Function.comp_def, rows_pull, pullS, ix, push_V, pull_V, rwp1, clo_pull, clo_push, pw16, w16_push, pullI, push1, pushI, pushS, eV_pull]) rfl rfl (by decide) (by simp [ne_V]) (by simp [pullI, pullS, ix, kV, eV_def]) ?_; rintro r Hn ⟨rfl, rfl⟩ -; skip)
        | (with_reducible refine And.intro ?_ ?_; · omega)
      refine ⟨n - (i + 1), _, _, by omega, Wk.gc [0, 1] rfl (by decide), i + 1, c2, L2, rfl, by omega, hst2, ?_, ?_, ?_, ?_, ?_⟩ <;> first | with_reducible rfl | (simp [Function.comp_def, get_gcT, get, put, gcI, pullI, pullS, gcH, patL, canL, canH, canTL, canT, rows_pull, ix, segR, g5, g6, g7, g8]; done) | (simp [Function.comp_def, get_gcT, get, put, gcI, pullI, pullS, gcH, patL, canL, canH, canTL, canT, rows_pull, ix, segR, H4, tabV, pull_V]; done)
    · have q2 : decide ((i : Int) < 16) = false := decide_eq_false (by omega)
      have q3 : decide ((16 : Int) ≤ (i : Int)) = true := decide_eq_true (by omega)
      rw [if_neg h16] at c16
      repeat' first
        | with_reducible rfl
        | simp only [q1, q2, q3, r1, r2, r3, r4, hi1, g5, g6, g7, g8, List.length_map, push_V, pull_V, rwp1, clo_pull, clo_push, pw16, w16_push, RS_, argsTM, stepE, stBuiltin, stBox, stAlloc, stLoad, stStore, stField, stExtract, stBin, stUn, stConv, stNilCheck, stFieldV, stIndex, stIndexAddr, stLen, stMin, stMax, stBuild, fillI, stBuildSlice, setRows, stMakeSlice, stAppend, srcR, segR, rdCells, stSlice, bnd, stArr, stCopy, stConv2, isIntV, cutR, byteRows, rowByte, binStr, Option.map_some, Option.map_none, eq_self, canTL, canT, canH, canL, patL, gcH, gcT, gcI, get_gcT, pullS, pullI, pushS, push1, pushI, pullHW, roC, ix, List.map_map, Function.comp_def, List.zip_cons_cons, List.zip_nil_left, List.zip_nil_right, List.range'_zero, List.range'_succ, rd, get, put, IV.cells, ofValue, seg, spl, ldIV, binInt, eqI, cellsEq, leafEq, resI, flat, isT, upd, up1, nextM, cR, ptrC, nAl, isAl, ST_, Nat.reduceAdd, Nat.reduceMul, Nat.reduceEqDiff, Nat.reduceLeDiff, ne_eq, reduceCtorEq, reduceIte, forall_const, implies_true, Int.reduceToNat, Int.reduceLE, Int.reduceLT, bne, Int.reduceEq, Int.reduceNe, Int.reduceNeg, Int.reduceAdd, Int.reduceSub, Int.reduceMul, Int.reduceBEq, Int.reduceBNe, Nat.reduceLT, Nat.reduceSub, WLS, Try.underlying27, Try.underlying3, Try.underlying5, ty_ok_37, ty_pl_37_0, ty_pl_37_1, ty_pl_37_2, ty_sl_45, ty_ze_37, ty_zs_125]
        | (with_reducible refine drawK_id ?_); refine drawK_auto hmix (by kernel_rfl) ?_
        | (with_reducible refine draw_fin ?_ ?_); · kernel_rfl
        | (with_reducible refine draw_id ?_); kernel_rfl
        | ((with_reducible refine callK_id (f := 19) ?_); refine callK_funR [2] (r := .s (.raw (.int .u32 mi))) (by simp [pullH, roC, pullI, pullS, ix]; exact o1) rfl ?_)
        | ((with_reducible refine callK_id (f := 16) ?_); refine callK_funW [] [0, 1] (c16) (by simp [pullHW, roC, Function.comp_def, rows_pull, pullS, ix, push_V, pull_V, rwp1, clo_pull, clo_push, pw16, w16_push, pullI, push1, pushI, pushS, eV_pull]) rfl rfl (by decide) (by simp [ne_V]) (by simp [pullI, pullS, ix, kV, eV_def]) ?_; rintro r Hn ⟨rfl, rfl⟩ -; skip)
        | (with_reducible refine And.intro ?_ ?_; · omega)
      refine ⟨n - (i + 1), _, _, by omega, Wk.gc [0, 1] rfl (by decide), i + 1, c2, L2, rfl, by omega, hst2, ?_, ?_, ?_, ?_, ?_⟩ <;> first | with_reducible rfl | (simp [Function.comp_def, get_gcT, get, put, gcI, pullI, pullS, gcH, patL, canL, canH, canTL, canT, rows_pull, ix, segR, g5, g6, g7, g8]; done) | (simp [Function.comp_def, get_gcT, get, put, gcI, pullI, pullS, gcH, patL, canL, canH, canTL, canT, rows_pull, ix, segR, H4, tabV, pull_V]; done)
  · obtain rfl : i = n := by omega
    have q1 : decide ((i : Int) < (i : Int)) = false := decide_eq_false (by omega)
    by_cases hz : i = 0
    · subst hz
      have q2 : decide ((0 : Int) < ((0 : Nat) : Int)) = false := rfl
      have wm : IntKind.i64.wrap (-1) = -1 := rfl
      have hl := hst.len
      have c18 := listW clock L (by omega) hst.k
      rw [hl] at c18
      unfold tabV at *
      repeat' first
        | with_reducible rfl
        | simp only [q1, q2, wm, g5, g6, g7, g8, List.length_map, push_V, pull_V, rwp1, clo_pull, clo_push, pw16, w16_push, RS_, argsTM, stepE, stBuiltin, stBox, stAlloc, stLoad, stStore, stField, stExtract, stBin, stUn, stConv, stNilCheck, stFieldV, stIndex, stIndexAddr, stLen, stMin, stMax, stBuild, fillI, stBuildSlice, setRows, stMakeSlice, stAppend, srcR, segR, rdCells, stSlice, bnd, stArr, stCopy, stConv2, isIntV, cutR, byteRows, rowByte, binStr, Option.map_some, Option.map_none, eq_self, canTL, canT, canH, canL, patL, gcH, gcT, gcI, get_gcT, pullS, pullI, pushS, push1, pushI, pullHW, roC, ix, List.map_map, Function.comp_def, List.zip_cons_cons, List.zip_nil_left, List.zip_nil_right, List.range'_zero, List.range'_succ, rd, get, put, IV.cells, ofValue, seg, spl, ldIV, binInt, eqI, cellsEq, leafEq, resI, flat, isT, upd, up1, nextM, cR, ptrC, nAl, isAl, ST_, Nat.reduceAdd, Nat.reduceMul, Nat.reduceEqDiff, Nat.reduceLeDiff, ne_eq, reduceCtorEq, reduceIte, forall_const, implies_true, Int.reduceToNat, Int.reduceLE, Int.reduceLT, bne, Int.reduceEq, Int.reduceNe, Int.reduceNeg, Int.reduceAdd, Int.reduceSub, Int.reduceMul, Int.reduceBEq, Int.reduceBNe, Nat.reduceLT, Nat.reduceSub, WLS, Try.underlying27, Try.underlying3, Try.underlying5, ty_ok_37, ty_pl_37_0, ty_pl_37_1, ty_pl_37_2, ty_sl_45, ty_ze_37, ty_zs_125]
        | (with_reducible refine drawK_id ?_); refine drawK_auto hmix (by kernel_rfl) ?_
        | (with_reducible refine draw_fin ?_ ?_); · kernel_rfl
        | (with_reducible refine draw_id ?_); kernel_rfl
        | ((with_reducible refine callK_id (f := 18) ?_); refine callK_funW [] [0, 1] (c18) (by simp [pullHW, roC, Function.comp_def, rows_pull, pullS, ix, push_V, pull_V, rwp1, clo_pull, clo_push, pw16, w16_push, pullI, push1, pushI, pushS, eV_pull]) rfl rfl (by decide) (by simp [ne_V]) (by simp [pullI, pullS, ix, kV, eV_def]) ?_; rintro r Hn ⟨rfl, rfl⟩ -; skip)
        | (with_reducible refine And.intro ?_ ?_; · omega)
    · have q2 : decide ((0 : Int) < (i : Int)) = true := decide_eq_true (by omega)
      have o1 : FunR Try.prog 19 [.rows false 1 [[.raw (.int .i64 3)], [.raw (.int .i64 4)]]] [.s (.slice 0 0 2)] (.s (.raw (.int .u32 12))) := f19b 3 4
      have o2 : FunR Try.prog 19 [.rows false 1 [[.raw (.int .i64 4)]]] [.s (.slice 0 0 1)] (.s (.raw (.int .u32 8))) := f19 4
      obtain ⟨ha1, hst2⟩ := hst.again (clock := clock) (by omega) 12 8 (good_in b1 (by omega) (by decide) (by decide) (by decide +kernel))
      have c16 := f16 clock L hst.k ⟨b, 12, 8, 0⟩
      simp only [ha1] at c16
      generalize setV clock L b 12 8 = P at *
      obtain ⟨er, c1, L1⟩ := P
      simp only at c16 hst2
      obtain ⟨d1, d2, d3, d4, d5⟩ := hst2.drop (by omega)
      have c12 := f12 c1 L1 hst2.k b
      rw [d1, if_pos rfl] at c12
      have c12b := f12 c1 (delV L1 b) d2 b
      rw [d4, d5] at c12b
      simp only [Option.isSome_none, Bool.false_eq_true, if_false] at c12b
      have c18 := listW c1 (delV L1 b) (by omega) d2
      rw [d3] at c18
      generalize delV L1 b = L3 at *
      unfold tabV kV at *
      by_cases h16 : i < 16
      · have mi2 : (if (16 : Int) < (i : Int) then (16 : Int) else (i : Int)) = (i : Int) := by split <;> omega
        have mi3 : IntKind.i64.wrap ((i : Int) - 1) = ((min i 16 - 1 : Nat) : Int) := by rw [wr_i64 (by omega) (by omega)]; omega
        have mi4 : (if ((min i 16 - 1 : Nat) : Int) < 0 then (0 : Int) else ((min i 16 - 1 : Nat) : Int)) = ((min i 16 - 1 : Nat) : Int) := by split <;> omega
        repeat' first
          | with_reducible rfl
          | simp only [q1, q2, mi2, mi3, mi4, g5, g6, g7, g8, List.length_map, push_V, pull_V, rwp1, clo_pull, clo_push, pw16, w16_push, RS_, argsTM, stepE, stBuiltin, stBox, stAlloc, stLoad, stStore, stField, stExtract, stBin, stUn, stConv, stNilCheck, stFieldV, stIndex, stIndexAddr, stLen, stMin, stMax, stBuild, fillI, stBuildSlice, setRows, stMakeSlice, stAppend, srcR, segR, rdCells, stSlice, bnd, stArr, stCopy, stConv2, isIntV, cutR, byteRows, rowByte, binStr, Option.map_some, Option.map_none, eq_self, canTL, canT, canH, canL, patL, gcH, gcT, gcI, get_gcT, pullS, pullI, pushS, push1, pushI, pullHW, roC, ix, List.map_map, Function.comp_def, List.zip_cons_cons, List.zip_nil_left, List.zip_nil_right, List.range'_zero, List.range'_succ, rd, get, put, IV.cells, ofValue, seg, spl, ldIV, binInt, eqI, cellsEq, leafEq, resI, flat, isT, upd, up1, nextM, cR, ptrC, nAl, isAl, ST_, Nat.reduceAdd, Nat.reduceMul, Nat.reduceEqDiff, Nat.reduceLeDiff, ne_eq, reduceCtorEq, reduceIte, forall_const, implies_true, Int.reduceToNat, Int.reduceLE, Int.reduceLT, bne, Int.reduceEq, Int.reduceNe, Int.reduceNeg, Int.reduceAdd, Int.reduceSub, Int.reduceMul, Int.reduceBEq, Int.reduceBNe, Nat.reduceLT, Nat.reduceSub, WLS, Try.underlying27, Try.underlying3, Try.underlying5, ty_ok_37, ty_pl_37_0, ty_pl_37_1, ty_pl_37_2, ty_sl_45, ty_ze_37, ty_zs_125]
          | (with_reducible refine drawK_id ?_); refine drawK_auto hmix (by kernel_rfl) ?_
          | (with_reducible refine draw_fin ?_ ?_); · kernel_rfl
          | (with_reducible refine draw_id ?_); kernel_rfl
          | ((with_reducible refine callK_id (f := 19) (args := [.s (.slice _ 0 2)]) ?_); refine callK_funR [2] (r := .s (.raw (.int .u32 12))) (by simp [pullH, roC, pullI, pullS, ix]; exact o1) rfl ?_)
          | ((with_reducible refine callK_id (f := 19) (args := [.s (.slice _ 0 1)]) ?_); refine callK_funR [3] (r := .s (.raw (.int .u32 8))) (by simp [pullH, roC, pullI, pullS, ix]; exact o2) rfl ?_)
          | ((with_reducible refine callK_id (f := 16) ?_); refine callK_funW [] [0, 1] (c16) (by simp [pullHW, roC, Function.comp_def, rows_pull, pullS, ix, push_V, pull_V, rwp1, clo_pull, clo_push, pw16, w16_push, pullI, push1, pushI, pushS, eV_pull]) rfl rfl (by decide) (by simp [ne_V]) (by simp [pullI, pullS, ix, kV, eV_def]) ?_; rintro r Hn ⟨rfl, rfl⟩ -; skip)
          | (refine callK_idM (f := 12) (c := 1) (ch := mpV c1 L1) rfl ?_; refine callK_funW [] [0, 1] (c12) (by simp [pullHW, roC, Function.comp_def, rows_pull, pullS, ix, push_V, pull_V, rwp1, clo_pull, clo_push, pw16, w16_push, pullI, push1, pushI, pushS, eV_pull]) rfl rfl (by decide) (by simp [ne_V]) (by simp [pullI, pullS, ix, kV, eV_def]) ?_; rintro r Hn ⟨rfl, rfl⟩ -; skip)
          | ((with_reducible refine callK_id (f := 12) ?_); refine callK_funW [] [0, 1] (c12b) (by simp [pullHW, roC, Function.comp_def, rows_pull, pullS, ix, push_V, pull_V, rwp1, clo_pull, clo_push, pw16, w16_push, pullI, push1, pushI, pushS, eV_pull]) rfl rfl (by decide) (by simp [ne_V]) (by simp [pullI, pullS, ix, kV, eV_def]) ?_; rintro r Hn ⟨rfl, rfl⟩ -; skip)
          | ((with_reducible refine callK_id (f := 18) ?_); refine callK_funW [] [0, 1] (c18) (by simp [pullHW, roC, Function.comp_def, rows_pull, pullS, ix, push_V, pull_V, rwp1, clo_pull, clo_push, pw16, w16_push, pullI, push1, pushI, pushS, eV_pull]) rfl rfl (by decide) (by simp [ne_V]) (by simp [pullI, pullS, ix, kV, eV_def]) ?_; rintro r Hn ⟨rfl, rfl⟩ -; skip)
          | (with_reducible refine And.intro ?_ ?_; · omega)
      · have mi2 : (if (16 : Int) < (i : Int) then (16 : Int) else (i : Int)) = 16 := by split <;> omega
        have mi5 : ((min i 16 - 1 : Nat) : Int) = 15 := by omega
        have mi3 : IntKind.i64.wrap ((16 : Int) - 1) = ((min i 16 - 1 : Nat) : Int) := by rw [wr_i64 (by omega) (by omega)]; omega
        have mi4 : (if ((min i 16 - 1 : Nat) : Int) < 0 then (0 : Int) else ((min i 16 - 1 : Nat) : Int)) = ((min i 16 - 1 : Nat) : Int) := by split <;> omega
        repeat' first
          | with_reducible rfl
          | simp only [q1, q2, mi2, mi3, mi4, mi5, g5, g6, g7, g8, List.length_map, push_V, pull_V, rwp1, clo_pull, clo_push, pw16, w16_push, RS_, argsTM, stepE, stBuiltin, stBox, stAlloc, stLoad, stStore, stField, stExtract, stBin, stUn, stConv, stNilCheck, stFieldV, stIndex, stIndexAddr, stLen, stMin, stMax, stBuild, fillI, stBuildSlice, setRows, stMakeSlice, stAppend, srcR, segR, rdCells, stSlice, bnd, stArr, stCopy, stConv2, isIntV, cutR, byteRows, rowByte, binStr, Option.map_some, Option.map_none, eq_self, canTL, canT, canH, canL, patL, gcH, gcT, gcI, get_gcT, pullS, pullI, pushS, push1, pushI, pullHW, roC, ix, List.map_map, Function.comp_def, List.zip_cons_cons, List.zip_nil_left, List.zip_nil_right, List.range'_zero, List.range'_succ, rd, get, put, IV.cells, ofValue, seg, spl, ldIV, binInt, eqI, cellsEq, leafEq, resI, flat, isT, upd, up1, nextM, cR, ptrC, nAl, isAl, ST_, Nat.reduceAdd, Nat.reduceMul, Nat.reduceEqDiff, Nat.reduceLeDiff, ne_eq, reduceCtorEq, reduceIte, forall_const, implies_true, Int.reduceToNat, Int.reduceLE, Int.reduceLT, bne, Int.reduceEq, Int.reduceNe, Int.reduceNeg, Int.reduceAdd, Int.reduceSub, Int.reduceMul, Int.reduceBEq, Int.reduceBNe, Nat.reduceLT, Nat.reduceSub, WLS, Try.underlying27, Try.underlying3, Try.underlying5, ty_ok_37, ty_pl_37_0, ty_pl_37_1, ty_pl_37_2, ty_sl_45, ty_ze_37, ty_zs_125]
          | (with_reducible refine drawK_id ?_); refine drawK_auto hmix (by kernel_rfl) ?_
          | (with_reducible refine draw_fin ?_ ?_); · kernel_rfl
          | (with_reducible refine draw_id ?_); kernel_rfl
          | ((with_reducible refine callK_id (f := 19) (args := [.s (.slice _ 0 2)]) ?_); refine callK_funR [2] (r := .s (.raw (.int .u32 12))) (by simp [pullH, roC, pullI, pullS, ix]; exact o1) rfl ?_)
          | ((with_reducible refine callK_id (f := 19) (args := [.s (.slice _ 0 1)]) ?_); refine callK_funR [3] (r := .s (.raw (.int .u32 8))) (by simp [pullH, roC, pullI, pullS, ix]; exact o2) rfl ?_)
          | ((with_reducible refine callK_id (f := 16) ?_); refine callK_funW [] [0, 1] (c16) (by simp [pullHW, roC, Function.comp_def, rows_pull, pullS, ix, push_V, pull_V, rwp1, clo_pull, clo_push, pw16, w16_push, pullI, push1, pushI, pushS, eV_pull]) rfl rfl (by decide) (by simp [ne_V]) (by simp [pullI, pullS, ix, kV, eV_def]) ?_; rintro r Hn ⟨rfl, rfl⟩ -; skip)
          | (refine callK_idM (f := 12) (c := 1) (ch := mpV c1 L1) rfl ?_; refine callK_funW [] [0, 1] (c12) (by simp [pullHW, roC, Function.comp_def, rows_pull, pullS, ix, push_V, pull_V, rwp1, clo_pull, clo_push, pw16, w16_push, pullI, push1, pushI, pushS, eV_pull]) rfl rfl (by decide) (by simp [ne_V]) (by simp [pullI, pullS, ix, kV, eV_def]) ?_; rintro r Hn ⟨rfl, rfl⟩ -; skip)
          | ((with_reducible refine callK_id (f := 12) ?_); refine callK_funW [] [0, 1] (c12b) (by simp [pullHW, roC, Function.comp_def, rows_pull, pullS, ix, push_V, pull_V, rwp1, clo_pull, clo_push, pw16, w16_push, pullI, push1, pushI, pushS, eV_pull]) rfl rfl (by decide) (by simp [ne_V]) (by simp [pullI, pullS, ix, kV, eV_def]) ?_; rintro r Hn ⟨rfl, rfl⟩ -; skip)
          | ((with_reducible refine callK_id (f := 18) ?_); refine callK_funW [] [0, 1] (c18) (by simp [pullHW, roC, Function.comp_def, rows_pull, pullS, ix, push_V, pull_V, rwp1, clo_pull, clo_push, pw16, w16_push, pullI, push1, pushI, pushS, eV_pull]) rfl rfl (by decide) (by simp [ne_V]) (by simp [pullI, pullS, ix, kV, eV_def]) ?_; rintro r Hn ⟨rfl, rfl⟩ -; skip)
          | (with_reducible refine And.intro ?_ ?_; · omega)
end Go.Ev
