/- A part of the proof: contracts of the functions that the statement reaches. -/
import Derived.Test.YtnmobamjinponaaEvC
import Derived.Test.YtnmobamjinponaaQ7
namespace Go.Ev
open Go.Proofs
set_option maxRecDepth 100000
set_option linter.unusedSimpArgs false
set_option linter.unusedVariables false
set_option maxHeartbeats 4000000
def IPd (L : List Int) (mm : Nat) (tm : TM) (H : Heap) : Prop := ∃ (K : List Int) (a b lim : Nat) (wb wp : Bool), mm = b - a ∧ Same 0 L.length L K ∧ a ≤ b ∧ b ≤ L.length ∧ Outer K a b L.length ∧ (b ≤ a + lim + 12 ∧ lim ≤ 100) ∧ get tm 0 = .s (.slice 0 0 L.length) ∧ get tm 1 = .s (.raw (.int .i64 (a : Int))) ∧ get tm 2 = .s (.raw (.int .i64 (b : Int))) ∧ get tm 3 = .s (.raw (.int .i64 (lim : Int))) ∧ get tm 8 = .s (.raw (.bool wb)) ∧ get tm 9 = .s (.raw (.bool wp)) ∧ H = [.rows true 1 (K.map w16)]
theorem pw16 (σ : List Nat) (M : List Int) : List.map (fun x => List.map (pushS σ) (w16 x)) M = List.map w16 M := rfl
theorem w16_ap (x : Int) : w16 x = [.raw (.int .u16 x)] := rfl
theorem low_at {M : List Int} {a b n p : Nat} (hO : Outer M a b n) (hn : M.Nodup) (hl : M.length = n) (h16 : n ≤ 16) (p1 : a ≤ p) (p2 : p < b) (hb : b ≤ n) :
    (decide ((0 : Int) < (a : Int)) = true ∧ (IntKind.i64.wrap ((a : Int) - 1) = ((a - 1 : Nat) : Int)) ∧ ((M.map w16)[a - 1]? = some (w16 (gI M (a - 1)))) ∧ (decide (gI M (a - 1) < gI M p) = true) ∧ ((0 : Int) ≤ ((a - 1 : Nat) : Int)) ∧ (((a - 1 : Nat) : Int) < (n : Int))) ∨
    (decide ((0 : Int) < (a : Int)) = false ∧ True ∧ True ∧ True ∧ True ∧ True) := by
  by_cases hpos : (0 : Int) < (a : Int)
  · left
    refine ⟨decide_eq_true hpos, by rw [wr_i64 (by omega) (by omega)]; omega, gI_at (by omega), decide_eq_true ?_, by omega, by omega⟩
    have h1 := hO (a - 1) p (by omega) (by omega) (by omega)
    have h2 : gI M (a - 1) ≠ gI M p := fun e => by
      have := gI_inj hn (i := a - 1) (j := p) (by omega) (by omega) e
      omega
    omega
  · right
    exact ⟨decide_eq_false hpos, trivial, trivial, trivial, trivial, trivial⟩
def PdqS (L : List Int) (a b : Nat) (lim : Int) : Prop := FunW Try.prog 95 [] [.rows true 1 (L.map w16)] [.s (.slice 0 0 L.length), .s (.raw (.int .i64 (a : Int))), .s (.raw (.int .i64 (b : Int))), .s (.raw (.int .i64 lim))]
    fun r Hn => r = .t [] ∧ ∃ M, Same a b L M ∧ Asc M a b ∧ Hn = [.rows true 1 (M.map w16)]
theorem pdq_lr (L : List Int) (a b m : Nat) (lim : Int) (h16 : L.length ≤ 16) (m1 : a ≤ m) (m2 : m < b) (hb : b ≤ L.length) :
    (decide (((m - a : Nat) : Int) < ((b - m : Nat) : Int)) = true ∧ m - a < b - m ∧ PdqS L a m lim) ∨ (decide (((m - a : Nat) : Int) < ((b - m : Nat) : Int)) = false ∧ ¬ m - a < b - m ∧ PdqS L (m + 1) b lim) := by
  by_cases h : m - a < b - m
  · exact .inl ⟨decide_eq_true (by omega), h, pdqS L a m lim (by omega) (by omega) (by omega) (by omega)⟩
  · exact .inr ⟨decide_eq_false (by omega), h, pdqS L (m + 1) b lim (by omega) (by omega) (by omega) (by omega)⟩
theorem pdqW (L : List Int) (hnd : L.Nodup) (h16 : L.length ≤ 16) (lim0 : Nat) (hl0 : L.length ≤ lim0 + 12) (hl1 : lim0 ≤ 100) : FunW Try.prog 95 [] [.rows true 1 (L.map w16)] [.s (.slice 0 0 L.length), .s (.raw (.int .i64 0)), .s (.raw (.int .i64 (L.length : Int))), .s (.raw (.int .i64 (lim0 : Int)))]
    fun r Hn => r = .t [] ∧ ∃ M, Same 0 L.length L M ∧ Asc M 0 L.length ∧ Hn = [.rows true 1 (M.map w16)] := by
  refine funW_of fun X => ?_
  refine callK_inline (rs := []) (n := 134) Try.func95 rfl rfl rfl (by kernel_rfl) (by kernel_rfl) (by simp only [List.length_cons, List.length_nil]; decide) ?_
  repeat' first
    | with_reducible rfl
    | simp only [Int.toNat_natCast, List.length_map, RS_, argsTM, stepE, stBuiltin, stBox, stAlloc, stLoad, stStore, stField, stExtract, stBin, stUn, stConv, stNilCheck, stFieldV, stIndex, stIndexAddr, stLen, stMin, stMax, stBuild, fillI, stBuildSlice, setRows, stMakeSlice, stAppend, srcR, segR, rdCells, stSlice, bnd, stArr, stCopy, stConv2, isIntV, cutR, byteRows, rowByte, binStr, Option.map_some, Option.map_none, eq_self, canTL, canT, canH, canL, patL, gcH, gcT, gcI, get_gcT, mapC, pullS, pullI, pushS, push1, pushI, pushC, pullHW, roC, ix, List.map_map, Function.comp_def, List.zip_cons_cons, List.zip_nil_left, List.zip_nil_right, List.range'_zero, List.range'_succ, rd, get, put, IV.cells, ofValue, seg, spl, ldIV, binInt, eqI, cellsEq, leafEq, resI, flat, isT, upd, up1, nextM, cR, ptrC, nAl, isAl, ST_, Nat.reduceAdd, Nat.reduceMul, Nat.reduceEqDiff, Nat.reduceLeDiff, ne_eq, reduceCtorEq, reduceIte, forall_const, implies_true, Int.reduceToNat, Int.reduceLE, Int.reduceLT, bne, Int.reduceEq, Int.reduceNe, Int.reduceNeg, Int.reduceAdd, Int.reduceSub, Int.reduceMul, Int.reduceBEq, Int.reduceBNe, Nat.reduceLT, Nat.reduceSub, WLS, ty_ag_27, ty_sl_120, ty_sz_27]
    | (with_reducible refine drawK_id ?_); refine drawK_auto hmix (by kernel_rfl) ?_
    | (with_reducible refine draw_fin ?_ ?_); · kernel_rfl
    | (with_reducible refine draw_id ?_); kernel_rfl
    | (with_reducible refine And.intro ?_ ?_; · omega)
  refine loopK_wk (by kernel_rfl) (IPd L) L.length ⟨_, _, Wk.gc [0] rfl (by decide), L, 0, L.length, lim0, true, true, rfl, Same.refl _ _ _, by omega, by omega, fun p q h1 h2 h3 => by omega, by omega, ?_, ?_, ?_, ?_, ?_, ?_, ?_⟩ ?_
  · simp [Function.comp_def, get_gcT, get, put, gcI, pullI, pullS, gcH, patL, canL, canH, canTL, canT, rows_pull, ix]
  · simp [Function.comp_def, get_gcT, get, put, gcI, pullI, pullS, gcH, patL, canL, canH, canTL, canT, rows_pull, ix]
  · simp [Function.comp_def, get_gcT, get, put, gcI, pullI, pullS, gcH, patL, canL, canH, canTL, canT, rows_pull, ix]
  · simp [Function.comp_def, get_gcT, get, put, gcI, pullI, pullS, gcH, patL, canL, canH, canTL, canT, rows_pull, ix]
  · simp [Function.comp_def, get_gcT, get, put, gcI, pullI, pullS, gcH, patL, canL, canH, canTL, canT, rows_pull, ix]
  · simp [Function.comp_def, get_gcT, get, put, gcI, pullI, pullS, gcH, patL, canL, canH, canTL, canT, rows_pull, ix]
  · simp [Function.comp_def, get_gcT, get, put, gcI, pullI, pullS, gcH, patL, canL, canH, canTL, canT, rows_pull, ix, w16_pull]
  rintro mm tm H ⟨K, a, b, lim, wb, wp, rfl, hK, hab, hbn, hO, hlim, g0, g1, g2, g3, g8, g9, rfl⟩
  have hKl := hK.len
  have hKn : K.Nodup := hK.perm.nodup_iff.2 hnd
  have n0 : IntKind.i64.wrap ((b : Int) - (a : Int)) = ((b - a : Nat) : Int) := by rw [wr_i64 (by omega) (by omega)]; omega
  by_cases h12 : b ≤ a + 12
  · have q1 : decide (((b - a : Nat) : Int) ≤ 12) = true := decide_eq_true (by omega)
    have ci := insW K a b hab (by omega) (by omega)
    rw [hKl] at ci
    repeat' first
      | with_reducible rfl
      | simp only [n0, q1, pw16, g0, g1, g2, g3, g8, g9, Int.toNat_natCast, List.length_map, RS_, argsTM, stepE, stBuiltin, stBox, stAlloc, stLoad, stStore, stField, stExtract, stBin, stUn, stConv, stNilCheck, stFieldV, stIndex, stIndexAddr, stLen, stMin, stMax, stBuild, fillI, stBuildSlice, setRows, stMakeSlice, stAppend, srcR, segR, rdCells, stSlice, bnd, stArr, stCopy, stConv2, isIntV, cutR, byteRows, rowByte, binStr, Option.map_some, Option.map_none, eq_self, canTL, canT, canH, canL, patL, gcH, gcT, gcI, get_gcT, mapC, pullS, pullI, pushS, push1, pushI, pushC, pullHW, roC, ix, List.map_map, Function.comp_def, List.zip_cons_cons, List.zip_nil_left, List.zip_nil_right, List.range'_zero, List.range'_succ, rd, get, put, IV.cells, ofValue, seg, spl, ldIV, binInt, eqI, cellsEq, leafEq, resI, flat, isT, upd, up1, nextM, cR, ptrC, nAl, isAl, ST_, Nat.reduceAdd, Nat.reduceMul, Nat.reduceEqDiff, Nat.reduceLeDiff, ne_eq, reduceCtorEq, reduceIte, forall_const, implies_true, Int.reduceToNat, Int.reduceLE, Int.reduceLT, bne, Int.reduceEq, Int.reduceNe, Int.reduceNeg, Int.reduceAdd, Int.reduceSub, Int.reduceMul, Int.reduceBEq, Int.reduceBNe, Nat.reduceLT, Nat.reduceSub, WLS, ty_ag_27, ty_sl_120, ty_sz_27]
      | (with_reducible refine drawK_id ?_); refine drawK_auto hmix (by kernel_rfl) ?_
      | (with_reducible refine draw_fin ?_ ?_); · kernel_rfl
      | (with_reducible refine draw_id ?_); kernel_rfl
      | ((with_reducible refine callK_id (f := 116) ?_); refine callK_funW [] [0] (ci) (by simp [pullHW, roC, Function.comp_def, rows_pull, pullS, ix, w16_pull] <;> (intros; rfl)) rfl rfl (by decide) (by simp) (by simp [pullI, pullS, ix]) ?_; rintro r Hn ⟨rfl, M9, hM9, hA9, rfl⟩ -; skip)
      | (refine ⟨_, _, (WkR.gc [0] rfl (by decide)).to ?_ ?_, by simp, rfl, M9, hK.trans (hM9.wide (Nat.zero_le _) hbn), (hO.keep hM9 hKn hKl.symm hbn).asc hA9, rfl⟩ <;> (first | (simp [gcI, pullI, pullS]; done) | (simp [Function.comp_def, get_gcT, get, put, gcI, pullI, pullS, gcH, patL, canL, canH, canTL, canT, rows_pull, ix, w16_pull, rwp1, pw16, w16_push]; done)))
      | (with_reducible refine And.intro ?_ ?_; · omega)
  · have q1 : decide (((b - a : Nat) : Int) ≤ 12) = false := decide_eq_false (by omega)
    have ql : ((lim : Int) == 0) = false := by rw [beq_eq_false_iff_ne]; omega
    have wl : IntKind.i64.wrap ((lim : Int) - 1) = ((lim - 1 : Nat) : Int) := by rw [wr_i64 (by omega) (by omega)]; omega
    cases wb
    have cb := brkW K a b (by omega) (by omega) (by omega) (by omega)
    rw [hKl] at cb
    repeat' first
      | with_reducible rfl
      | simp only [n0, q1, ql, wl, pw16, g0, g1, g2, g3, g8, g9, Int.toNat_natCast, List.length_map, RS_, argsTM, stepE, stBuiltin, stBox, stAlloc, stLoad, stStore, stField, stExtract, stBin, stUn, stConv, stNilCheck, stFieldV, stIndex, stIndexAddr, stLen, stMin, stMax, stBuild, fillI, stBuildSlice, setRows, stMakeSlice, stAppend, srcR, segR, rdCells, stSlice, bnd, stArr, stCopy, stConv2, isIntV, cutR, byteRows, rowByte, binStr, Option.map_some, Option.map_none, eq_self, canTL, canT, canH, canL, patL, gcH, gcT, gcI, get_gcT, mapC, pullS, pullI, pushS, push1, pushI, pushC, pullHW, roC, ix, List.map_map, Function.comp_def, List.zip_cons_cons, List.zip_nil_left, List.zip_nil_right, List.range'_zero, List.range'_succ, rd, get, put, IV.cells, ofValue, seg, spl, ldIV, binInt, eqI, cellsEq, leafEq, resI, flat, isT, upd, up1, nextM, cR, ptrC, nAl, isAl, ST_, Nat.reduceAdd, Nat.reduceMul, Nat.reduceEqDiff, Nat.reduceLeDiff, ne_eq, reduceCtorEq, reduceIte, forall_const, implies_true, Int.reduceToNat, Int.reduceLE, Int.reduceLT, bne, Int.reduceEq, Int.reduceNe, Int.reduceNeg, Int.reduceAdd, Int.reduceSub, Int.reduceMul, Int.reduceBEq, Int.reduceBNe, Nat.reduceLT, Nat.reduceSub, WLS, ty_ag_27, ty_sl_120, ty_sz_27]
      | (with_reducible refine drawK_id ?_); refine drawK_auto hmix (by kernel_rfl) ?_
      | (with_reducible refine draw_fin ?_ ?_); · kernel_rfl
      | (with_reducible refine draw_id ?_); kernel_rfl
      | ((with_reducible refine callK_id (f := 118) ?_); refine callK_funW [] [0] (cb) (by simp [pullHW, roC, Function.comp_def, rows_pull, pullS, ix, w16_pull] <;> (intros; rfl)) rfl rfl (by decide) (by simp) (by simp [pullI, pullS, ix]) ?_; rintro r Hn ⟨rfl, M, hM, rfl⟩ -; skip)
      | (with_reducible refine And.intro ?_ ?_; · omega)
    obtain ⟨l2, hl2, hl3⟩ : ∃ l2, lim - 1 = l2 ∧ (b ≤ a + l2 + 13 ∧ l2 ≤ 100) := ⟨_, rfl, by omega⟩
    simp only [hl2]
    rotate_left
    obtain ⟨l2, hl2, hl3⟩ : ∃ l2, lim = l2 ∧ (b ≤ a + l2 + 13 ∧ l2 ≤ 100) := ⟨_, rfl, by omega⟩
    rw [hl2] at g3
    obtain ⟨M, hKM⟩ : ∃ M, K = M := ⟨_, rfl⟩
    have hM : Same a b K M := hKM ▸ Same.refl a b K
    have hT : True := trivial
    rw [hKM]
    repeat' first
      | with_reducible rfl
      | simp only [n0, q1, ql, hl2, pw16, g0, g1, g2, g3, g8, g9, Int.toNat_natCast, List.length_map, RS_, argsTM, stepE, stBuiltin, stBox, stAlloc, stLoad, stStore, stField, stExtract, stBin, stUn, stConv, stNilCheck, stFieldV, stIndex, stIndexAddr, stLen, stMin, stMax, stBuild, fillI, stBuildSlice, setRows, stMakeSlice, stAppend, srcR, segR, rdCells, stSlice, bnd, stArr, stCopy, stConv2, isIntV, cutR, byteRows, rowByte, binStr, Option.map_some, Option.map_none, eq_self, canTL, canT, canH, canL, patL, gcH, gcT, gcI, get_gcT, mapC, pullS, pullI, pushS, push1, pushI, pushC, pullHW, roC, ix, List.map_map, Function.comp_def, List.zip_cons_cons, List.zip_nil_left, List.zip_nil_right, List.range'_zero, List.range'_succ, rd, get, put, IV.cells, ofValue, seg, spl, ldIV, binInt, eqI, cellsEq, leafEq, resI, flat, isT, upd, up1, nextM, cR, ptrC, nAl, isAl, ST_, Nat.reduceAdd, Nat.reduceMul, Nat.reduceEqDiff, Nat.reduceLeDiff, ne_eq, reduceCtorEq, reduceIte, forall_const, implies_true, Int.reduceToNat, Int.reduceLE, Int.reduceLT, bne, Int.reduceEq, Int.reduceNe, Int.reduceNeg, Int.reduceAdd, Int.reduceSub, Int.reduceMul, Int.reduceBEq, Int.reduceBNe, Nat.reduceLT, Nat.reduceSub, WLS, ty_ag_27, ty_sl_120, ty_sz_27]
      | (with_reducible refine drawK_id ?_); refine drawK_auto hmix (by kernel_rfl) ?_
      | (with_reducible refine draw_fin ?_ ?_); · kernel_rfl
      | (with_reducible refine draw_id ?_); kernel_rfl
      | (with_reducible refine And.intro ?_ ?_; · omega)
    all_goals have hMl : M.length = L.length := hM.len.trans hKl
    all_goals have hMn : M.Nodup := hM.perm.nodup_iff.2 hKn
    all_goals have hO2 := hO.keep hM hKn hKl.symm hbn
    all_goals have hLM : Same 0 L.length L M := hK.trans (hM.wide (Nat.zero_le _) hbn)
    all_goals have cv := pivW M a b (by omega) (by omega) (by omega) (by omega)
    all_goals have hv := pivC_in M a b (by omega)
    all_goals have cr := parW M a b (by omega) (by omega) (by omega) (by omega)
    all_goals rw [hMl] at cv cr
    all_goals generalize pivC M a b = PV at cv hv
    all_goals obtain ⟨p, hint⟩ := PV
    all_goals simp only at cv hv
    all_goals obtain ⟨p1, p2, hh⟩ := hv
    all_goals have ct := partW M a b p (by omega) ⟨p1, p2⟩ (by omega) (by omega)
    all_goals rw [hMl] at ct
    all_goals have low := low_at hO2 hMn hMl h16 p1 p2 hbn
    all_goals have ep := gI_at (L := M) (i := p) (by omega)
    all_goals have zp : (0 : Int) ≤ (p : Int) := by omega
    all_goals have zp1 : (p : Int) < (L.length : Int) := by omega
    all_goals have hint2 : (hint == 2) = false := by rcases hh with rfl | rfl <;> rfl
    all_goals first | (revert hT; intro hT; rcases hh with rfl | rfl <;> cases wp) | skip
    all_goals rcases low with ⟨ha, zaw, ea, qlow, zb0, zb1⟩ | ⟨ha, zaw, ea, qlow, zb0, zb1⟩
    all_goals (
        repeat' first
          | with_reducible rfl
          | simp only [hint2, ha, zaw, ea, qlow, zb0, zb1, ep, zp, zp1, w16_ap, pw16, g0, g1, g2, g3, g8, g9, Int.toNat_natCast, List.length_map, RS_, argsTM, stepE, stBuiltin, stBox, stAlloc, stLoad, stStore, stField, stExtract, stBin, stUn, stConv, stNilCheck, stFieldV, stIndex, stIndexAddr, stLen, stMin, stMax, stBuild, fillI, stBuildSlice, setRows, stMakeSlice, stAppend, srcR, segR, rdCells, stSlice, bnd, stArr, stCopy, stConv2, isIntV, cutR, byteRows, rowByte, binStr, Option.map_some, Option.map_none, eq_self, canTL, canT, canH, canL, patL, gcH, gcT, gcI, get_gcT, mapC, pullS, pullI, pushS, push1, pushI, pushC, pullHW, roC, ix, List.map_map, Function.comp_def, List.zip_cons_cons, List.zip_nil_left, List.zip_nil_right, List.range'_zero, List.range'_succ, rd, get, put, IV.cells, ofValue, seg, spl, ldIV, binInt, eqI, cellsEq, leafEq, resI, flat, isT, upd, up1, nextM, cR, ptrC, nAl, isAl, ST_, Nat.reduceAdd, Nat.reduceMul, Nat.reduceEqDiff, Nat.reduceLeDiff, ne_eq, reduceCtorEq, reduceIte, forall_const, implies_true, Int.reduceToNat, Int.reduceLE, Int.reduceLT, bne, Int.reduceEq, Int.reduceNe, Int.reduceNeg, Int.reduceAdd, Int.reduceSub, Int.reduceMul, Int.reduceBEq, Int.reduceBNe, Nat.reduceLT, Nat.reduceSub, WLS, ty_ag_27, ty_sl_120, ty_sz_27]
          | (with_reducible refine drawK_id ?_); refine drawK_auto hmix (by kernel_rfl) ?_
          | (with_reducible refine draw_fin ?_ ?_); · kernel_rfl
          | (with_reducible refine draw_id ?_); kernel_rfl
          | (with_reducible refine callD_id (f := 122) ?_); refine callD_of (lessW _ _) rfl rfl ?_
          | ((with_reducible refine callK_id (f := 119) ?_); refine callK_funW [0] [] (cv) (by simp [pullHW, roC, Function.comp_def, rows_pull, pullS, ix, w16_pull] <;> (intros; rfl)) rfl rfl (by decide) (by simp) (by simp [pullI, pullS, ix]) ?_; rintro r Hn ⟨rfl, rfl⟩ -; skip)
          | ((with_reducible refine callK_id (f := 121) ?_); refine callK_funW [0] [] (cr) (by simp [pullHW, roC, Function.comp_def, rows_pull, pullS, ix, w16_pull] <;> (intros; rfl)) rfl rfl (by decide) (by simp) (by simp [pullI, pullS, ix]) ?_; rintro r Hn ⟨⟨t7, rfl, ht7⟩, rfl⟩ -; cases t7)
          | (refine ⟨_, _, (WkR.gc [0] rfl (by decide)).to ?_ ?_, by simp, rfl, M, hLM, hO2.asc (ht7 rfl), rfl⟩ <;> (first | (simp [gcI, pullI, pullS]; done) | (simp [Function.comp_def, get_gcT, get, put, gcI, pullI, pullS, gcH, patL, canL, canH, canTL, canT, rows_pull, ix, w16_pull, rwp1, pw16, w16_push]; done)))
          | (with_reducible refine And.intro ?_ ?_; · omega))
    all_goals ((with_reducible refine callK_id (f := 124) ?_); refine callK_funW [] [0] (ct) (by simp [pullHW, roC, Function.comp_def, rows_pull, pullS, ix, w16_pull] <;> (intros; rfl)) rfl rfl (by decide) (by simp) (by simp [pullI, pullS, ix]) ?_; rintro r Hn ⟨M2, m, t2, rfl, hS2, hP2, rfl⟩ -; skip)
    all_goals have hM2l : M2.length = L.length := hS2.len.trans hMl
    all_goals have hM2n : M2.Nodup := hS2.perm.nodup_iff.2 hMn
    all_goals have hO3 := hO2.keep hS2 hMn hMl.symm hbn
    all_goals have hLM2 : Same 0 L.length L M2 := hLM.trans (hS2.wide (Nat.zero_le _) hbn)
    all_goals obtain ⟨m1, m2⟩ : a ≤ m ∧ m < b := ⟨hP2.1, hP2.2.1⟩
    all_goals have w1 : IntKind.i64.wrap ((m : Int) - (a : Int)) = ((m - a : Nat) : Int) := by rw [wr_i64 (by omega) (by omega)]; omega
    all_goals have w2 : IntKind.i64.wrap ((b : Int) - (m : Int)) = ((b - m : Nat) : Int) := by rw [wr_i64 (by omega) (by omega)]; omega
    all_goals have w3 : IntKind.i64.wrap ((m : Int) + 1) = ((m + 1 : Nat) : Int) := by rw [wr_i64 (by omega) (by omega)]; rfl
    all_goals obtain ⟨x8, hx8, hx8w⟩ : ∃ x8 : Int, Int.tdiv ((b - a : Nat) : Int) 8 = x8 ∧ IntKind.i64.wrap x8 = x8 := ⟨_, rfl, by rw [Int.tdiv_eq_ediv_of_nonneg (by omega)]; exact wr_i64 (by omega) (by omega)⟩
    all_goals rcases pdq_lr M2 a b m (l2 : Int) (by omega) m1 m2 (by omega) with ⟨q9, hq9, cs⟩ | ⟨q9, hq9, cs⟩
    all_goals unfold PdqS at cs
    all_goals rw [hM2l] at cs
    all_goals (
        repeat' first
          | with_reducible rfl
          | simp only [q9, w1, w2, w3, n0, hx8, hx8w, pw16, g0, g1, g2, g3, g8, g9, Int.toNat_natCast, List.length_map, RS_, argsTM, stepE, stBuiltin, stBox, stAlloc, stLoad, stStore, stField, stExtract, stBin, stUn, stConv, stNilCheck, stFieldV, stIndex, stIndexAddr, stLen, stMin, stMax, stBuild, fillI, stBuildSlice, setRows, stMakeSlice, stAppend, srcR, segR, rdCells, stSlice, bnd, stArr, stCopy, stConv2, isIntV, cutR, byteRows, rowByte, binStr, Option.map_some, Option.map_none, eq_self, canTL, canT, canH, canL, patL, gcH, gcT, gcI, get_gcT, mapC, pullS, pullI, pushS, push1, pushI, pushC, pullHW, roC, ix, List.map_map, Function.comp_def, List.zip_cons_cons, List.zip_nil_left, List.zip_nil_right, List.range'_zero, List.range'_succ, rd, get, put, IV.cells, ofValue, seg, spl, ldIV, binInt, eqI, cellsEq, leafEq, resI, flat, isT, upd, up1, nextM, cR, ptrC, nAl, isAl, ST_, Nat.reduceAdd, Nat.reduceMul, Nat.reduceEqDiff, Nat.reduceLeDiff, ne_eq, reduceCtorEq, reduceIte, forall_const, implies_true, Int.reduceToNat, Int.reduceLE, Int.reduceLT, bne, Int.reduceEq, Int.reduceNe, Int.reduceNeg, Int.reduceAdd, Int.reduceSub, Int.reduceMul, Int.reduceBEq, Int.reduceBNe, Nat.reduceLT, Nat.reduceSub, WLS, ty_ag_27, ty_sl_120, ty_sz_27]
          | (with_reducible refine drawK_id ?_); refine drawK_auto hmix (by kernel_rfl) ?_
          | (with_reducible refine draw_fin ?_ ?_); · kernel_rfl
          | (with_reducible refine draw_id ?_); kernel_rfl
          | ((with_reducible refine callK_id (f := 95) ?_); refine callK_funW [] [0] (cs) (by simp [pullHW, roC, Function.comp_def, rows_pull, pullS, ix, w16_pull] <;> (intros; rfl)) rfl rfl (by decide) (by simp) (by simp [pullI, pullS, ix]) ?_; rintro r Hn ⟨rfl, M3, hM3, hA3, rfl⟩ -; skip)
          | (with_reducible refine And.intro ?_ ?_; · omega))
    all_goals first
      | (refine ⟨b - (m + 1), _, _, by omega, Wk.gc [0] rfl (by decide), M3, m + 1, b, l2, decide (x8 ≤ ((m - a : Nat) : Int)), t2, rfl, hLM2.trans (hM3.wide (by omega) (by omega)), by omega, by omega, (hO3.keep (hM3.wide (Nat.le_refl _) (by omega)) hM2n hM2l.symm (by omega)).left (hP2.keepL hM3 hM2n (by omega)) hA3, by omega, ?_, ?_, ?_, ?_, ?_, ?_, ?_⟩ <;> first | (simp [Function.comp_def, get_gcT, get, put, gcI, pullI, pullS, gcH, patL, canL, canH, canTL, canT, rows_pull, ix, g0, g1, g2, g3, g8, g9]; done) | (simp [Function.comp_def, get_gcT, get, put, gcI, pullI, pullS, gcH, patL, canL, canH, canTL, canT, rows_pull, ix, w16_pull, rwp1, pw16, w16_push]; done))
      | (refine ⟨m - a, _, _, by omega, Wk.gc [0] rfl (by decide), M3, a, m, l2, decide (x8 ≤ ((b - m : Nat) : Int)), t2, rfl, hLM2.trans (hM3.wide (by omega) (by omega)), by omega, by omega, (hO3.keep (hM3.wide (by omega) (Nat.le_refl _)) hM2n hM2l.symm (by omega)).right (hP2.keepR hM3 hM2n (by omega)) hA3, by omega, ?_, ?_, ?_, ?_, ?_, ?_, ?_⟩ <;> first | (simp [Function.comp_def, get_gcT, get, put, gcI, pullI, pullS, gcH, patL, canL, canH, canTL, canT, rows_pull, ix, g0, g1, g2, g3, g8, g9]; done) | (simp [Function.comp_def, get_gcT, get, put, gcI, pullI, pullS, gcH, patL, canL, canH, canTL, canT, rows_pull, ix, w16_pull, rwp1, pw16, w16_push]; done))
end Go.Ev
