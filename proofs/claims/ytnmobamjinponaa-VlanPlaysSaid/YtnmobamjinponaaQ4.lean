/- A part of the proof: contracts of the functions that the statement reaches. -/
import Derived.Test.YtnmobamjinponaaEvC
import Derived.Test.YtnmobamjinponaaQ3
namespace Go.Ev
open Go.Proofs
set_option maxRecDepth 100000
set_option linter.unusedSimpArgs false
set_option linter.unusedVariables false
set_option maxHeartbeats 4000000
def pivC (L : List Int) (a b : Nat) : Nat × Int :=
  let M := med3 L (a + (b - a) / 4) (a + 2 * ((b - a) / 4)) (a + 3 * ((b - a) / 4)) 0
  (M.1, if M.2 = 0 then 1 else 0)
theorem pivW (L : List Int) (a b : Nat) (hab : a + 8 ≤ b) (h50 : b < a + 50) (hb : b ≤ L.length) (hn : L.length ≤ 1000000) : FunW Try.prog 119 [.rows false 1 (L.map w16)] [] [.s (.slice 0 0 L.length), .s (.raw (.int .i64 (a : Int))), .s (.raw (.int .i64 (b : Int)))]
    fun r Hn => r = .t [.s (.raw (.int .i64 ((pivC L a b).1 : Int))), .s (.raw (.int .i64 (pivC L a b).2))] ∧ Hn = [] := by
  refine funW_of fun X => ?_
  have n0 : IntKind.i64.wrap ((b : Int) - (a : Int)) = ((b - a : Nat) : Int) := by rw [wr_i64 (by omega) (by omega)]; omega
  unfold pivC
  obtain ⟨q, hq⟩ : ∃ q, (b - a) / 4 = q := ⟨_, rfl⟩
  have hq2 : q ≤ 12 ∧ 4 * q ≤ b - a := by omega
  have d1 : Int.tdiv (((b - a : Nat)) : Int) 4 = (q : Int) := by rw [Int.tdiv_eq_ediv_of_nonneg (by omega)]; omega
  have d2 : IntKind.i64.wrap (q : Int) = (q : Int) := wr_i64 (by omega) (by omega)
  rw [hq]
  have m1 : IntKind.i64.wrap ((q : Int) * 1) = (q : Int) := by rw [wr_i64 (by omega) (by omega)]; omega
  have m2 : IntKind.i64.wrap ((q : Int) * 2) = ((2 * q : Nat) : Int) := by rw [wr_i64 (by omega) (by omega)]; omega
  have m3 : IntKind.i64.wrap ((q : Int) * 3) = ((3 * q : Nat) : Int) := by rw [wr_i64 (by omega) (by omega)]; omega
  have a1 : IntKind.i64.wrap ((a : Int) + (q : Int)) = ((a + q : Nat) : Int) := by rw [wr_i64 (by omega) (by omega)]; omega
  have a2 : IntKind.i64.wrap ((a : Int) + ((2 * q : Nat) : Int)) = ((a + 2 * q : Nat) : Int) := by rw [wr_i64 (by omega) (by omega)]; omega
  have a3 : IntKind.i64.wrap ((a : Int) + ((3 * q : Nat) : Int)) = ((a + 3 * q : Nat) : Int) := by rw [wr_i64 (by omega) (by omega)]; omega
  have g8 : decide ((8 : Int) ≤ ((b - a : Nat) : Int)) = true := decide_eq_true (by omega)
  have g50 : decide ((50 : Int) ≤ ((b - a : Nat) : Int)) = false := decide_eq_false (by omega)
  have cm := med3W L (a + q) (a + 2 * q) (a + 3 * q) 0 (by omega) (by omega) (by omega) (by omega) (by omega)
  have ho := med3_or L (a + q) (a + 2 * q) (a + 3 * q) 0
  generalize med3 L (a + q) (a + 2 * q) (a + 3 * q) 0 = M at *
  obtain ⟨M1, M2⟩ := M
  simp only at cm ho ⊢
  have h12 : (M2 == 12) = false := by rw [beq_eq_false_iff_ne]; omega
  cases h0 : (M2 == 0) with
  | true =>
    rw [if_pos (by simpa using h0)]
    refine callK_inline (rs := [.tmp 6, .tmp 7]) (n := 57) Try.func119 rfl rfl rfl (by kernel_rfl) (by kernel_rfl) (by simp only [List.length_cons, List.length_nil]; decide) ?_
    repeat' first
      | with_reducible rfl
      | simp only [n0, d1, d2, m1, m2, m3, a1, a2, a3, g8, g50, h0, h12, Int.toNat_natCast, List.length_map, RS_, argsTM, stepE, stBuiltin, stBox, stAlloc, stLoad, stStore, stField, stExtract, stBin, stUn, stConv, stNilCheck, stFieldV, stIndex, stIndexAddr, stLen, stMin, stMax, stBuild, fillI, stBuildSlice, setRows, stMakeSlice, stAppend, srcR, segR, rdCells, stSlice, bnd, stArr, stCopy, stConv2, isIntV, cutR, byteRows, rowByte, binStr, Option.map_some, Option.map_none, eq_self, canTL, canT, canH, canL, patL, gcH, gcT, gcI, get_gcT, mapC, pullS, pullI, pushS, push1, pushI, pushC, pullHW, roC, ix, List.map_map, Function.comp_def, List.zip_cons_cons, List.zip_nil_left, List.zip_nil_right, List.range'_zero, List.range'_succ, rd, get, put, IV.cells, ofValue, seg, spl, ldIV, binInt, eqI, cellsEq, leafEq, resI, flat, isT, upd, up1, nextM, cR, ptrC, nAl, isAl, ST_, Nat.reduceAdd, Nat.reduceMul, Nat.reduceEqDiff, Nat.reduceLeDiff, ne_eq, reduceCtorEq, reduceIte, forall_const, implies_true, Int.reduceToNat, Int.reduceLE, Int.reduceLT, bne, Int.reduceEq, Int.reduceNe, Int.reduceNeg, Int.reduceAdd, Int.reduceSub, Int.reduceMul, Int.reduceBEq, Int.reduceBNe, Nat.reduceLT, Nat.reduceSub, WLS, ty_ag_3, ty_sz_3, ty_ze_3]
      | (with_reducible refine drawK_id ?_); refine drawK_auto hmix (by kernel_rfl) ?_
      | (with_reducible refine draw_fin ?_ ?_); · kernel_rfl
      | (with_reducible refine draw_id ?_); kernel_rfl
      | ((with_reducible refine callK_id (f := 135) ?_); refine callK_funW [0] [1] (cm) (by simp [pullHW, roC, Function.comp_def, rows_pull, pullS, ix, w16_pull]) rfl rfl (by decide) (by simp) (by simp [pullI, pullS, ix]) ?_; rintro r Hn ⟨rfl, rfl⟩ -; skip)
      | (refine ⟨_, _, (WkR.gc [0] rfl (by decide)).to ?_ ?_, by simp, rfl, rfl⟩ <;> (first | (simp [gcI, pullI, pullS]; done) | (simp [gcH, rows_pull, pullS, ix, w16_pull]; done)))
      | (with_reducible refine And.intro ?_ ?_; · omega)
  | false =>
    rw [if_neg (by simpa using h0)]
    refine callK_inline (rs := [.tmp 6, .tmp 7]) (n := 57) Try.func119 rfl rfl rfl (by kernel_rfl) (by kernel_rfl) (by simp only [List.length_cons, List.length_nil]; decide) ?_
    repeat' first
      | with_reducible rfl
      | simp only [n0, d1, d2, m1, m2, m3, a1, a2, a3, g8, g50, h0, h12, Int.toNat_natCast, List.length_map, RS_, argsTM, stepE, stBuiltin, stBox, stAlloc, stLoad, stStore, stField, stExtract, stBin, stUn, stConv, stNilCheck, stFieldV, stIndex, stIndexAddr, stLen, stMin, stMax, stBuild, fillI, stBuildSlice, setRows, stMakeSlice, stAppend, srcR, segR, rdCells, stSlice, bnd, stArr, stCopy, stConv2, isIntV, cutR, byteRows, rowByte, binStr, Option.map_some, Option.map_none, eq_self, canTL, canT, canH, canL, patL, gcH, gcT, gcI, get_gcT, mapC, pullS, pullI, pushS, push1, pushI, pushC, pullHW, roC, ix, List.map_map, Function.comp_def, List.zip_cons_cons, List.zip_nil_left, List.zip_nil_right, List.range'_zero, List.range'_succ, rd, get, put, IV.cells, ofValue, seg, spl, ldIV, binInt, eqI, cellsEq, leafEq, resI, flat, isT, upd, up1, nextM, cR, ptrC, nAl, isAl, ST_, Nat.reduceAdd, Nat.reduceMul, Nat.reduceEqDiff, Nat.reduceLeDiff, ne_eq, reduceCtorEq, reduceIte, forall_const, implies_true, Int.reduceToNat, Int.reduceLE, Int.reduceLT, bne, Int.reduceEq, Int.reduceNe, Int.reduceNeg, Int.reduceAdd, Int.reduceSub, Int.reduceMul, Int.reduceBEq, Int.reduceBNe, Nat.reduceLT, Nat.reduceSub, WLS, ty_ag_3, ty_sz_3, ty_ze_3]
      | (with_reducible refine drawK_id ?_); refine drawK_auto hmix (by kernel_rfl) ?_
      | (with_reducible refine draw_fin ?_ ?_); · kernel_rfl
      | (with_reducible refine draw_id ?_); kernel_rfl
      | ((with_reducible refine callK_id (f := 135) ?_); refine callK_funW [0] [1] (cm) (by simp [pullHW, roC, Function.comp_def, rows_pull, pullS, ix, w16_pull]) rfl rfl (by decide) (by simp) (by simp [pullI, pullS, ix]) ?_; rintro r Hn ⟨rfl, rfl⟩ -; skip)
      | (refine ⟨_, _, (WkR.gc [0] rfl (by decide)).to ?_ ?_, by simp, rfl, rfl⟩ <;> (first | (simp [gcI, pullI, pullS]; done) | (simp [gcH, rows_pull, pullS, ix, w16_pull]; done)))
      | (with_reducible refine And.intro ?_ ?_; · omega)
theorem Asc.step {L : List Int} {a i : Nat} (h : Asc L a i) (hai : a < i) (hx : ¬ gI L i < gI L (i - 1)) : Asc L a (i + 1) := by
  intro p q h1 h2 h3
  by_cases e : q = i
  · subst e
    by_cases e2 : p = q - 1
    · subst e2; omega
    · have := h p (q - 1) h1 (by omega) (by omega); omega
  · exact h p q h1 h2 (by omega)
def IPa (L : List Int) (a b : Nat) (mm : Nat) (tm : TM) (H : Heap) : Prop := ∃ i : Nat, mm = b - i ∧ a + 1 ≤ i ∧ i ≤ b ∧ Asc L a i ∧ get tm 0 = .s (.slice 0 0 L.length) ∧ get tm 1 = .s (.raw (.int .i64 (a : Int))) ∧ get tm 2 = .s (.raw (.int .i64 (b : Int))) ∧ get tm 7 = .s (.raw (.int .i64 (i : Int))) ∧ H = [.rows false 1 (L.map w16)]
theorem parW (L : List Int) (a b : Nat) (hab : a + 2 ≤ b) (h50 : b < a + 50) (hb : b ≤ L.length) (hn : L.length ≤ 1000000) : FunW Try.prog 121 [.rows false 1 (L.map w16)] [] [.s (.slice 0 0 L.length), .s (.raw (.int .i64 (a : Int))), .s (.raw (.int .i64 (b : Int)))]
    fun r Hn => (∃ t : Bool, r = .s (.raw (.bool t)) ∧ (t = true → Asc L a b)) ∧ Hn = [] := by
  refine funW_of fun X => ?_
  have ha1 : IntKind.i64.wrap ((a : Int) + 1) = ((a + 1 : Nat) : Int) := by rw [wr_i64 (by omega) (by omega)]; rfl
  have n0 : IntKind.i64.wrap ((b : Int) - (a : Int)) = ((b - a : Nat) : Int) := by rw [wr_i64 (by omega) (by omega)]; omega
  have g50 : decide (((b - a : Nat) : Int) < (50 : Int)) = true := decide_eq_true (by omega)
  refine callK_inline (rs := [.tmp 6]) (n := 133) Try.func121 rfl rfl rfl (by kernel_rfl) (by kernel_rfl) (by simp only [List.length_cons, List.length_nil]; decide) ?_
  repeat' first
    | with_reducible rfl
    | simp only [ha1, RS_, argsTM, stepE, stBuiltin, stBox, stAlloc, stLoad, stStore, stField, stExtract, stBin, stUn, stConv, stNilCheck, stFieldV, stIndex, stIndexAddr, stLen, stMin, stMax, stBuild, fillI, stBuildSlice, setRows, stMakeSlice, stAppend, srcR, segR, rdCells, stSlice, bnd, stArr, stCopy, stConv2, isIntV, cutR, byteRows, rowByte, binStr, Option.map_some, Option.map_none, eq_self, canTL, canT, canH, canL, patL, gcH, gcT, gcI, get_gcT, mapC, pullS, pullI, pushS, push1, pushI, pushC, pullHW, roC, ix, List.map_map, Function.comp_def, List.zip_cons_cons, List.zip_nil_left, List.zip_nil_right, List.range'_zero, List.range'_succ, rd, get, put, IV.cells, ofValue, seg, spl, ldIV, binInt, eqI, cellsEq, leafEq, resI, flat, isT, upd, up1, nextM, cR, ptrC, nAl, isAl, ST_, Nat.reduceAdd, Nat.reduceMul, Nat.reduceEqDiff, Nat.reduceLeDiff, ne_eq, reduceCtorEq, reduceIte, forall_const, implies_true, Int.reduceToNat, Int.reduceLE, Int.reduceLT, bne, Int.reduceEq, Int.reduceNe, Int.reduceNeg, Int.reduceAdd, Int.reduceSub, Int.reduceMul, Int.reduceBEq, Int.reduceBNe, Nat.reduceLT, Nat.reduceSub, WLS, ty_ag_27, ty_sl_120, ty_sz_27]
    | (with_reducible refine drawK_id ?_); refine drawK_auto hmix (by kernel_rfl) ?_
    | (with_reducible refine draw_fin ?_ ?_); · kernel_rfl
    | (with_reducible refine draw_id ?_); kernel_rfl
    | (with_reducible refine And.intro ?_ ?_; · omega)
  refine loopK_n 1 (by kernel_rfl) ?_
  repeat' first
    | with_reducible rfl
    | simp only [e_loopN, ha1, Int.toNat_natCast, List.length_map, RS_, argsTM, stepE, stBuiltin, stBox, stAlloc, stLoad, stStore, stField, stExtract, stBin, stUn, stConv, stNilCheck, stFieldV, stIndex, stIndexAddr, stLen, stMin, stMax, stBuild, fillI, stBuildSlice, setRows, stMakeSlice, stAppend, srcR, segR, rdCells, stSlice, bnd, stArr, stCopy, stConv2, isIntV, cutR, byteRows, rowByte, binStr, Option.map_some, Option.map_none, eq_self, canTL, canT, canH, canL, patL, gcH, gcT, gcI, get_gcT, mapC, pullS, pullI, pushS, push1, pushI, pushC, pullHW, roC, ix, List.map_map, Function.comp_def, List.zip_cons_cons, List.zip_nil_left, List.zip_nil_right, List.range'_zero, List.range'_succ, rd, get, put, IV.cells, ofValue, seg, spl, ldIV, binInt, eqI, cellsEq, leafEq, resI, flat, isT, upd, up1, nextM, cR, ptrC, nAl, isAl, ST_, Nat.reduceAdd, Nat.reduceMul, Nat.reduceEqDiff, Nat.reduceLeDiff, ne_eq, reduceCtorEq, reduceIte, forall_const, implies_true, Int.reduceToNat, Int.reduceLE, Int.reduceLT, bne, Int.reduceEq, Int.reduceNe, Int.reduceNeg, Int.reduceAdd, Int.reduceSub, Int.reduceMul, Int.reduceBEq, Int.reduceBNe, Nat.reduceLT, Nat.reduceSub, WLS, ty_ag_27, ty_sl_120, ty_sz_27]
    | (with_reducible refine drawK_id ?_); refine drawK_auto hmix (by kernel_rfl) ?_
    | (with_reducible refine draw_fin ?_ ?_); · kernel_rfl
    | (with_reducible refine draw_id ?_); kernel_rfl
    | (with_reducible refine And.intro ?_ ?_; · omega)
  refine loopK_wk (by kernel_rfl) (IPa L a b) (b - (a + 1)) ⟨_, _, Wk.gc [0] rfl (by decide), a + 1, by omega, by omega, by omega, fun p q h1 h2 h3 => by omega, ?_, ?_, ?_, ?_, ?_⟩ ?_
  · simp [Function.comp_def, get_gcT, get, put, gcI, pullI, pullS, gcH, patL, canL, canH, canTL, canT, rows_pull, ix]
  · simp [Function.comp_def, get_gcT, get, put, gcI, pullI, pullS, gcH, patL, canL, canH, canTL, canT, rows_pull, ix]
  · simp [Function.comp_def, get_gcT, get, put, gcI, pullI, pullS, gcH, patL, canL, canH, canTL, canT, rows_pull, ix]
  · simp [Function.comp_def, get_gcT, get, put, gcI, pullI, pullS, gcH, patL, canL, canH, canTL, canT, rows_pull, ix]
  · simp [Function.comp_def, get_gcT, get, put, gcI, pullI, pullS, gcH, patL, canL, canH, canTL, canT, rows_pull, ix, w16_pull]
  rintro mm tm H ⟨i, rfl, i1, i2, hA, g0, g1, g2, g7, rfl⟩
  by_cases hib : i < b
  · have q3 : decide ((i : Int) < (b : Int)) = true := decide_eq_true (by omega)
    have hj1 : IntKind.i64.wrap ((i : Int) - 1) = ((i - 1 : Nat) : Int) := by rw [wr_i64 (by omega) (by omega)]; omega
    have hi1 : IntKind.i64.wrap ((i : Int) + 1) = ((i + 1 : Nat) : Int) := by rw [wr_i64 (by omega) (by omega)]; rfl
    have z0 : (0 : Int) ≤ (i : Int) := by omega
    have z1 : (i : Int) < (L.length : Int) := by omega
    have z2 : (0 : Int) ≤ ((i - 1 : Nat) : Int) := by omega
    have z3 : ((i - 1 : Nat) : Int) < (L.length : Int) := by omega
    have e0 := gI_at (L := L) (i := i) (by omega)
    have e1 := gI_at (L := L) (i := i - 1) (by omega)
    have q5 : ((i : Int) == (b : Int)) = false := by rw [beq_eq_false_iff_ne]; omega
    cases q4 : decide (gI L i < gI L (i - 1)) with
    | true =>
      repeat' first
        | with_reducible rfl
        | simp only [q3, q4, q5, hj1, hi1, z0, z1, z2, z3, e0, e1, w16, n0, g50, g0, g1, g2, g7, Int.toNat_natCast, List.length_map, RS_, argsTM, stepE, stBuiltin, stBox, stAlloc, stLoad, stStore, stField, stExtract, stBin, stUn, stConv, stNilCheck, stFieldV, stIndex, stIndexAddr, stLen, stMin, stMax, stBuild, fillI, stBuildSlice, setRows, stMakeSlice, stAppend, srcR, segR, rdCells, stSlice, bnd, stArr, stCopy, stConv2, isIntV, cutR, byteRows, rowByte, binStr, Option.map_some, Option.map_none, eq_self, canTL, canT, canH, canL, patL, gcH, gcT, gcI, get_gcT, mapC, pullS, pullI, pushS, push1, pushI, pushC, pullHW, roC, ix, List.map_map, Function.comp_def, List.zip_cons_cons, List.zip_nil_left, List.zip_nil_right, List.range'_zero, List.range'_succ, rd, get, put, IV.cells, ofValue, seg, spl, ldIV, binInt, eqI, cellsEq, leafEq, resI, flat, isT, upd, up1, nextM, cR, ptrC, nAl, isAl, ST_, Nat.reduceAdd, Nat.reduceMul, Nat.reduceEqDiff, Nat.reduceLeDiff, ne_eq, reduceCtorEq, reduceIte, forall_const, implies_true, Int.reduceToNat, Int.reduceLE, Int.reduceLT, bne, Int.reduceEq, Int.reduceNe, Int.reduceNeg, Int.reduceAdd, Int.reduceSub, Int.reduceMul, Int.reduceBEq, Int.reduceBNe, Nat.reduceLT, Nat.reduceSub, WLS, ty_ag_27, ty_sl_120, ty_sz_27]
        | (with_reducible refine drawK_id ?_); refine drawK_auto hmix (by kernel_rfl) ?_
        | (with_reducible refine draw_fin ?_ ?_); · kernel_rfl
        | (with_reducible refine draw_id ?_); kernel_rfl
        | (with_reducible refine callD_id (f := 122) ?_); refine callD_of (lessW _ _) rfl rfl ?_
        | (refine ⟨_, _, (WkR.gc [0] rfl (by decide)).to rfl ?_, by simp, ⟨false, rfl, fun h => by cases h⟩, rfl⟩; (simp [gcH, rows_pull, pullS, ix, w16_pull]; done))
        | (with_reducible refine And.intro ?_ ?_; · omega)
    | false =>
      repeat' first
        | with_reducible rfl
        | simp only [q3, q4, q5, hj1, hi1, z0, z1, z2, z3, e0, e1, w16, n0, g50, g0, g1, g2, g7, Int.toNat_natCast, List.length_map, RS_, argsTM, stepE, stBuiltin, stBox, stAlloc, stLoad, stStore, stField, stExtract, stBin, stUn, stConv, stNilCheck, stFieldV, stIndex, stIndexAddr, stLen, stMin, stMax, stBuild, fillI, stBuildSlice, setRows, stMakeSlice, stAppend, srcR, segR, rdCells, stSlice, bnd, stArr, stCopy, stConv2, isIntV, cutR, byteRows, rowByte, binStr, Option.map_some, Option.map_none, eq_self, canTL, canT, canH, canL, patL, gcH, gcT, gcI, get_gcT, mapC, pullS, pullI, pushS, push1, pushI, pushC, pullHW, roC, ix, List.map_map, Function.comp_def, List.zip_cons_cons, List.zip_nil_left, List.zip_nil_right, List.range'_zero, List.range'_succ, rd, get, put, IV.cells, ofValue, seg, spl, ldIV, binInt, eqI, cellsEq, leafEq, resI, flat, isT, upd, up1, nextM, cR, ptrC, nAl, isAl, ST_, Nat.reduceAdd, Nat.reduceMul, Nat.reduceEqDiff, Nat.reduceLeDiff, ne_eq, reduceCtorEq, reduceIte, forall_const, implies_true, Int.reduceToNat, Int.reduceLE, Int.reduceLT, bne, Int.reduceEq, Int.reduceNe, Int.reduceNeg, Int.reduceAdd, Int.reduceSub, Int.reduceMul, Int.reduceBEq, Int.reduceBNe, Nat.reduceLT, Nat.reduceSub, WLS, ty_ag_27, ty_sl_120, ty_sz_27]
        | (with_reducible refine drawK_id ?_); refine drawK_auto hmix (by kernel_rfl) ?_
        | (with_reducible refine draw_fin ?_ ?_); · kernel_rfl
        | (with_reducible refine draw_id ?_); kernel_rfl
        | (with_reducible refine callD_id (f := 122) ?_); refine callD_of (lessW _ _) rfl rfl ?_
        | (with_reducible refine And.intro ?_ ?_; · omega)
      refine ⟨b - (i + 1), _, _, by omega, Wk.gc [0] rfl (by decide), i + 1, rfl, by omega, by omega, hA.step (by omega) (of_decide_eq_false q4), ?_, ?_, ?_, ?_, ?_⟩
      · simp [Function.comp_def, get_gcT, get, put, gcI, pullI, pullS, gcH, patL, canL, canH, canTL, canT, rows_pull, ix, g0, g1, g2, g7]
      · simp [Function.comp_def, get_gcT, get, put, gcI, pullI, pullS, gcH, patL, canL, canH, canTL, canT, rows_pull, ix, g0, g1, g2, g7]
      · simp [Function.comp_def, get_gcT, get, put, gcI, pullI, pullS, gcH, patL, canL, canH, canTL, canT, rows_pull, ix, g0, g1, g2, g7]
      · simp [Function.comp_def, get_gcT, get, put, gcI, pullI, pullS, gcH, patL, canL, canH, canTL, canT, rows_pull, ix, g0, g1, g2, g7]
      · simp [Function.comp_def, get_gcT, get, put, gcI, pullI, pullS, gcH, patL, canL, canH, canTL, canT, rows_pull, ix, w16_pull]
  · have hib2 : i = b := by omega
    subst hib2
    have q3 : decide ((i : Int) < (i : Int)) = false := decide_eq_false (by omega)
    repeat' first
      | with_reducible rfl
      | simp only [q3, g0, g1, g2, g7, Int.toNat_natCast, List.length_map, RS_, argsTM, stepE, stBuiltin, stBox, stAlloc, stLoad, stStore, stField, stExtract, stBin, stUn, stConv, stNilCheck, stFieldV, stIndex, stIndexAddr, stLen, stMin, stMax, stBuild, fillI, stBuildSlice, setRows, stMakeSlice, stAppend, srcR, segR, rdCells, stSlice, bnd, stArr, stCopy, stConv2, isIntV, cutR, byteRows, rowByte, binStr, Option.map_some, Option.map_none, eq_self, canTL, canT, canH, canL, patL, gcH, gcT, gcI, get_gcT, mapC, pullS, pullI, pushS, push1, pushI, pushC, pullHW, roC, ix, List.map_map, Function.comp_def, List.zip_cons_cons, List.zip_nil_left, List.zip_nil_right, List.range'_zero, List.range'_succ, rd, get, put, IV.cells, ofValue, seg, spl, ldIV, binInt, eqI, cellsEq, leafEq, resI, flat, isT, upd, up1, nextM, cR, ptrC, nAl, isAl, ST_, Nat.reduceAdd, Nat.reduceMul, Nat.reduceEqDiff, Nat.reduceLeDiff, ne_eq, reduceCtorEq, reduceIte, forall_const, implies_true, Int.reduceToNat, Int.reduceLE, Int.reduceLT, bne, Int.reduceEq, Int.reduceNe, Int.reduceNeg, Int.reduceAdd, Int.reduceSub, Int.reduceMul, Int.reduceBEq, Int.reduceBNe, Nat.reduceLT, Nat.reduceSub, WLS, ty_ag_27, ty_sl_120, ty_sz_27]
      | (with_reducible refine drawK_id ?_); refine drawK_auto hmix (by kernel_rfl) ?_
      | (with_reducible refine draw_fin ?_ ?_); · kernel_rfl
      | (with_reducible refine draw_id ?_); kernel_rfl
      | (refine ⟨_, _, (WkR.gc [0] rfl (by decide)).to rfl ?_, by simp, ⟨true, rfl, fun _ => hA⟩, rfl⟩; (simp [gcH, rows_pull, pullS, ix, w16_pull]; done))
      | (with_reducible refine And.intro ?_ ?_; · omega)
end Go.Ev
