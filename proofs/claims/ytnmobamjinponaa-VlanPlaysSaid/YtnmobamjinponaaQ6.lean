/- A part of the proof: contracts of the functions that the statement reaches. -/
import Derived.Test.YtnmobamjinponaaEvC
import Derived.Test.YtnmobamjinponaaQ5
import Derived.Test.YtnmobamjinponaaJsE
namespace Go.Ev
open Go.Proofs
set_option maxRecDepth 100000
set_option linter.unusedSimpArgs false
set_option linter.unusedVariables false
set_option maxHeartbeats 4000000
theorem lenW (x : Int) (h0 : 0 ≤ x) (h1 : x ≤ 18446744073709551615) : Fun Try.prog 84 [.s (.raw (.int .u64 x))] (.s (.raw (.int .i64 ((Lib.bitLen x.toNat : Nat) : Int)))) := ⟨rfl, fun w vs h => by
  match vs, h with
  | [v], ⟨hv, _⟩ =>
    obtain ⟨rfl, _⟩ := (hv : _ ∧ _)
    exact (Try.bits_Len x w h0 h1).mono fun e w' ⟨he, hw⟩ => ⟨_, he, ⟨rfl, rfl⟩, hw ▸ BelowD.refl _ _⟩⟩
def npC (n : Nat) : Nat := if n < 16 then 16 else 32
theorem np_eq : ∀ k : Fin 9, shL .u64 1 ((Lib.bitLen ((k.val + 8 : Nat) : Int).toNat : Nat) : Int) = ((npC (k.val + 8) : Nat) : Int) := by decide +kernel
theorem npW (n : Nat) (h1 : 8 ≤ n) (h2 : n ≤ 16) : Fun Try.prog 126 [.s (.raw (.int .i64 (n : Int)))] (.s (.raw (.int .u64 ((npC n : Nat) : Int)))) := by
  refine fun_of rfl fun X => ?_
  have w1 : IntKind.u64.wrap (n : Int) = (n : Int) := by simp [IntKind.wrap, IntKind.signed, IntKind.bits]; omega
  have cl := lenW (n : Int) (by omega) (by omega)
  have he : shL .u64 1 ((Lib.bitLen (n : Int).toNat : Nat) : Int) = ((npC n : Nat) : Int) := by
    have := np_eq ⟨n - 8, by omega⟩
    simpa [show n - 8 + 8 = n by omega] using this
  have hz : (0 : Int) ≤ ((Lib.bitLen (n : Int).toNat : Nat) : Int) := by omega
  generalize ((Lib.bitLen (n : Int).toNat : Nat) : Int) = bl at *
  refine callK_inline (rs := [.tmp 2]) (n := 7) Try.func126 rfl rfl rfl (by kernel_rfl) (by kernel_rfl) (by simp only [List.length_cons, List.length_nil]; decide) ?_
  repeat' first
    | with_reducible rfl
    | simp only [w1, he, hz, RS_, argsTM, stepE, stBuiltin, stBox, stAlloc, stLoad, stStore, stField, stExtract, stBin, stUn, stConv, stNilCheck, stFieldV, stIndex, stIndexAddr, stLen, stMin, stMax, stBuild, fillI, stBuildSlice, setRows, stMakeSlice, stAppend, srcR, segR, rdCells, stSlice, bnd, stArr, stCopy, stConv2, isIntV, cutR, byteRows, rowByte, binStr, Option.map_some, Option.map_none, eq_self, canTL, canT, canH, canL, patL, gcH, gcT, gcI, get_gcT, mapC, pullS, pullI, pushS, push1, pushI, pushC, pullHW, roC, ix, List.map_map, Function.comp_def, List.zip_cons_cons, List.zip_nil_left, List.zip_nil_right, List.range'_zero, List.range'_succ, rd, get, put, IV.cells, ofValue, seg, spl, ldIV, binInt, eqI, cellsEq, leafEq, resI, flat, isT, upd, up1, nextM, cR, ptrC, nAl, isAl, ST_, Nat.reduceAdd, Nat.reduceMul, Nat.reduceEqDiff, Nat.reduceLeDiff, ne_eq, reduceCtorEq, reduceIte, forall_const, implies_true, Int.reduceToNat, Int.reduceLE, Int.reduceLT, bne, Int.reduceEq, Int.reduceNe, Int.reduceNeg, Int.reduceAdd, Int.reduceSub, Int.reduceMul, Int.reduceBEq, Int.reduceBNe, Nat.reduceLT, Nat.reduceSub, WLS, Try.underlying161, Try.underlying3]
    | (with_reducible refine drawK_id ?_); refine drawK_auto hmix (by kernel_rfl) ?_
    | (with_reducible refine draw_fin ?_ ?_); · kernel_rfl
    | (with_reducible refine draw_id ?_); kernel_rfl
    | ((with_reducible refine callK_id (f := 84) ?_); refine callK_fun cl rfl rfl ?_)
    | (with_reducible refine And.intro ?_ ?_; · omega)
def nxC (r : Int) : Int :=
  let a := bXor .u64 r (shL .u64 r 13)
  let b := bXor .u64 a (shR .u64 a 7)
  bXor .u64 b (shL .u64 b 17)
theorem nxW (r : Int) : FunW Try.prog 127 [] [.rows true 1 [[.raw (.int .u64 r)]]] [.s (.ptr 0 0 0)] fun r' Hn => r' = .s (.raw (.int .u64 (nxC r))) ∧ Hn = [.rows true 1 [[.raw (.int .u64 (nxC r))]]] := by
  refine funW_of fun X => ?_
  unfold nxC
  simp only
  obtain ⟨a, ha⟩ : ∃ a, bXor .u64 r (shL .u64 r 13) = a := ⟨_, rfl⟩
  rw [ha]
  obtain ⟨b, hb⟩ : ∃ b, bXor .u64 a (shR .u64 a 7) = b := ⟨_, rfl⟩
  rw [hb]
  obtain ⟨c, hc⟩ : ∃ c, bXor .u64 b (shL .u64 b 17) = c := ⟨_, rfl⟩
  rw [hc]
  refine callK_inline (rs := [.tmp 2]) (n := 33) Try.func127 rfl rfl rfl (by kernel_rfl) (by kernel_rfl) (by simp only [List.length_cons, List.length_nil]; decide) ?_
  repeat' first
    | with_reducible rfl
    | simp only [ha, hb, hc, RS_, argsTM, stepE, stBuiltin, stBox, stAlloc, stLoad, stStore, stField, stExtract, stBin, stUn, stConv, stNilCheck, stFieldV, stIndex, stIndexAddr, stLen, stMin, stMax, stBuild, fillI, stBuildSlice, setRows, stMakeSlice, stAppend, srcR, segR, rdCells, stSlice, bnd, stArr, stCopy, stConv2, isIntV, cutR, byteRows, rowByte, binStr, Option.map_some, Option.map_none, eq_self, canTL, canT, canH, canL, patL, gcH, gcT, gcI, get_gcT, mapC, pullS, pullI, pushS, push1, pushI, pushC, pullHW, roC, ix, List.map_map, Function.comp_def, List.zip_cons_cons, List.zip_nil_left, List.zip_nil_right, List.range'_zero, List.range'_succ, rd, get, put, IV.cells, ofValue, seg, spl, ldIV, binInt, eqI, cellsEq, leafEq, resI, flat, isT, upd, up1, nextM, cR, ptrC, nAl, isAl, ST_, Nat.reduceAdd, Nat.reduceMul, Nat.reduceEqDiff, Nat.reduceLeDiff, ne_eq, reduceCtorEq, reduceIte, forall_const, implies_true, Int.reduceToNat, Int.reduceLE, Int.reduceLT, bne, Int.reduceEq, Int.reduceNe, Int.reduceNeg, Int.reduceAdd, Int.reduceSub, Int.reduceMul, Int.reduceBEq, Int.reduceBNe, Nat.reduceLT, Nat.reduceSub, WLS, ty_ag_196, ty_sz_196]
    | (with_reducible refine drawK_id ?_); refine drawK_auto hmix (by kernel_rfl) ?_
    | (with_reducible refine draw_fin ?_ ?_); · kernel_rfl
    | (with_reducible refine draw_id ?_); kernel_rfl
    | exact ⟨_, _, WkR.refl, by simp, rfl, rfl⟩
    | (with_reducible refine And.intro ?_ ?_; · omega)
theorem and64 (x : Int) (m : Nat) (hm : m < 2 ^ 63) : 0 ≤ bAnd .u64 x (m : Int) ∧ bAnd .u64 x (m : Int) ≤ (m : Int) := by
  unfold bAnd
  rw [BitVec.toNat_and]
  have e : (BitVec.ofInt IntKind.u64.bits (m : Int)).toNat = m := by
    simp [IntKind.bits]; omega
  rw [e]
  have := Nat.and_le_right (n := (BitVec.ofInt IntKind.u64.bits x).toNat) (m := m)
  have w : ∀ y : Nat, y < 2 ^ 63 → IntKind.u64.wrap (y : Int) = (y : Int) := fun y hy => by simp [IntKind.wrap, IntKind.signed, IntKind.bits]; omega
  rw [w _ (by omega)]
  omega
def IBk (L : List Int) (a b q : Nat) (mm : Nat) (tm : TM) (H : Heap) : Prop := ∃ (d : Nat) (M : List Int) (r : Int), mm = 3 - d ∧ d ≤ 3 ∧ Same a b L M ∧ get tm 0 = .s (.slice 0 0 L.length) ∧ get tm 1 = .s (.raw (.int .i64 (a : Int))) ∧ get tm 6 = .s (.raw (.int .i64 ((b - a : Nat) : Int))) ∧ get tm 7 = .s (.ptr 1 0 0) ∧ get tm 8 = .s (.raw (.int .u64 ((npC (b - a) : Nat) : Int))) ∧ get tm 9 = .s (.raw (.int .i64 ((a + 2 * q - 1 + d : Nat) : Int))) ∧ H = [.rows true 1 (M.map w16), .rows true 1 [[.raw (.int .u64 r)]]]
theorem brkW (L : List Int) (a b : Nat) (hab : a + 8 ≤ b) (h16 : b ≤ a + 16) (hb : b ≤ L.length) (hn : L.length ≤ 1000000) : FunW Try.prog 118 [] [.rows true 1 (L.map w16)] [.s (.slice 0 0 L.length), .s (.raw (.int .i64 (a : Int))), .s (.raw (.int .i64 (b : Int)))]
    fun r Hn => r = .t [] ∧ ∃ M, Same a b L M ∧ Hn = [.rows true 1 (M.map w16)] := by
  refine funW_of fun X => ?_
  have n0 : IntKind.i64.wrap ((b : Int) - (a : Int)) = ((b - a : Nat) : Int) := by rw [wr_i64 (by omega) (by omega)]; omega
  obtain ⟨q, hq⟩ : ∃ q, (b - a) / 4 = q := ⟨_, rfl⟩
  have hq2 : 2 ≤ q ∧ q ≤ 4 ∧ 4 * q ≤ b - a := by omega
  have d1 : Int.tdiv (((b - a : Nat)) : Int) 4 = (q : Int) := by rw [Int.tdiv_eq_ediv_of_nonneg (by omega)]; omega
  have d2 : IntKind.i64.wrap (q : Int) = (q : Int) := wr_i64 (by omega) (by omega)
  have m2 : IntKind.i64.wrap ((q : Int) * 2) = ((2 * q : Nat) : Int) := by rw [wr_i64 (by omega) (by omega)]; omega
  have a2 : IntKind.i64.wrap ((a : Int) + ((2 * q : Nat) : Int)) = ((a + 2 * q : Nat) : Int) := by rw [wr_i64 (by omega) (by omega)]; omega
  have am : IntKind.i64.wrap (((a + 2 * q : Nat) : Int) - 1) = ((a + 2 * q - 1 : Nat) : Int) := by rw [wr_i64 (by omega) (by omega)]; omega
  have ap : IntKind.i64.wrap (((a + 2 * q : Nat) : Int) + 1) = ((a + 2 * q + 1 : Nat) : Int) := by rw [wr_i64 (by omega) (by omega)]; rfl
  have g8 : decide ((8 : Int) ≤ ((b - a : Nat) : Int)) = true := decide_eq_true (by omega)
  have cp := npW (b - a) (by omega) (by omega)
  obtain ⟨mo, hmo, hmo2⟩ : ∃ mo, npC (b - a) = mo ∧ (mo = 16 ∧ b - a < 16 ∨ mo = 32 ∧ b - a = 16) := ⟨_, rfl, by unfold npC; split <;> omega⟩
  have np1 : IntKind.u64.wrap ((mo : Int) - 1) = ((mo - 1 : Nat) : Int) := by simp [IntKind.wrap, IntKind.signed, IntKind.bits]; omega
  rw [hmo] at cp
  refine callK_inline (rs := []) (n := 65) Try.func118 rfl rfl rfl (by kernel_rfl) (by kernel_rfl) (by simp only [List.length_cons, List.length_nil]; decide) ?_
  repeat' first
    | with_reducible rfl
    | simp only [(show IntKind.u64.wrap ((b - a : Nat) : Int) = ((b - a : Nat) : Int) by simp [IntKind.wrap, IntKind.signed, IntKind.bits]; omega), n0, d1, d2, m2, a2, am, ap, g8, g8, hmo, Int.toNat_natCast, List.length_map, RS_, argsTM, stepE, stBuiltin, stBox, stAlloc, stLoad, stStore, stField, stExtract, stBin, stUn, stConv, stNilCheck, stFieldV, stIndex, stIndexAddr, stLen, stMin, stMax, stBuild, fillI, stBuildSlice, setRows, stMakeSlice, stAppend, srcR, segR, rdCells, stSlice, bnd, stArr, stCopy, stConv2, isIntV, cutR, byteRows, rowByte, binStr, Option.map_some, Option.map_none, eq_self, canTL, canT, canH, canL, patL, gcH, gcT, gcI, get_gcT, mapC, pullS, pullI, pushS, push1, pushI, pushC, pullHW, roC, ix, List.map_map, Function.comp_def, List.zip_cons_cons, List.zip_nil_left, List.zip_nil_right, List.range'_zero, List.range'_succ, rd, get, put, IV.cells, ofValue, seg, spl, ldIV, binInt, eqI, cellsEq, leafEq, resI, flat, isT, upd, up1, nextM, cR, ptrC, nAl, isAl, ST_, Nat.reduceAdd, Nat.reduceMul, Nat.reduceEqDiff, Nat.reduceLeDiff, ne_eq, reduceCtorEq, reduceIte, forall_const, implies_true, Int.reduceToNat, Int.reduceLE, Int.reduceLT, bne, Int.reduceEq, Int.reduceNe, Int.reduceNeg, Int.reduceAdd, Int.reduceSub, Int.reduceMul, Int.reduceBEq, Int.reduceBNe, Nat.reduceLT, Nat.reduceSub, WLS, Try.underlying161, Try.underlying196, Try.underlying3, ty_ag_27, ty_sl_120, ty_sz_196, ty_sz_27, ty_ze_196]
    | (with_reducible refine drawK_id ?_); refine drawK_auto hmix (by kernel_rfl) ?_
    | (with_reducible refine draw_fin ?_ ?_); · kernel_rfl
    | (with_reducible refine draw_id ?_); kernel_rfl
    | ((with_reducible refine callK_id (f := 126) ?_); refine callK_fun cp rfl rfl ?_)
    | (with_reducible refine And.intro ?_ ?_; · omega)
  refine loopK_wk (by kernel_rfl) (IBk L a b q) 3 ⟨_, _, Wk.gc [0, 1] rfl (by decide), 0, L, ((b - a : Nat) : Int), rfl, by omega, Same.refl a b L, ?_, ?_, ?_, ?_, ?_, ?_, ?_⟩ ?_
  · simp [Function.comp_def, get_gcT, get, put, gcI, pullI, pullS, gcH, patL, canL, canH, canTL, canT, rows_pull, ix]
  · simp [Function.comp_def, get_gcT, get, put, gcI, pullI, pullS, gcH, patL, canL, canH, canTL, canT, rows_pull, ix]
  · simp [Function.comp_def, get_gcT, get, put, gcI, pullI, pullS, gcH, patL, canL, canH, canTL, canT, rows_pull, ix]
  · simp [Function.comp_def, get_gcT, get, put, gcI, pullI, pullS, gcH, patL, canL, canH, canTL, canT, rows_pull, ix]
  · simp [Function.comp_def, get_gcT, get, put, gcI, pullI, pullS, gcH, patL, canL, canH, canTL, canT, rows_pull, ix, hmo]
  · simp [Function.comp_def, get_gcT, get, put, gcI, pullI, pullS, gcH, patL, canL, canH, canTL, canT, rows_pull, ix]
  · simp [Function.comp_def, get_gcT, get, put, gcI, pullI, pullS, gcH, patL, canL, canH, canTL, canT, rows_pull, ix, w16_pull]
  rintro mm tm H ⟨d, M, r, rfl, hd, hM, g0, g1, g6, g7, g8', g9, rfl⟩
  rw [hmo] at g8'
  have hMl := hM.len
  by_cases hd3 : d < 3
  · have q3 : decide (((a + 2 * q - 1 + d : Nat) : Int) ≤ ((a + 2 * q + 1 : Nat) : Int)) = true := decide_eq_true (by omega)
    have cx := nxW r
    generalize nxC r = v at cx
    obtain ⟨w, hw, w0, w1⟩ : ∃ w : Int, bAnd .u64 v ((mo - 1 : Nat) : Int) = w ∧ 0 ≤ w ∧ w ≤ ((mo - 1 : Nat) : Int) := ⟨_, rfl, (and64 v (mo - 1) (by omega)).1, (and64 v (mo - 1) (by omega)).2⟩
    have ww : IntKind.i64.wrap w = w := wr_i64 (by omega) (by omega)
    have hi1 : IntKind.i64.wrap (((a + 2 * q - 1 + d : Nat) : Int) + 1) = ((a + 2 * q - 1 + (d + 1) : Nat) : Int) := by rw [wr_i64 (by omega) (by omega)]; omega
    obtain ⟨i, hi⟩ : ∃ i, a + 2 * q - 1 + d = i := ⟨_, rfl⟩
    rw [hi] at q3 hi1 g9
    have zi : (0 : Int) ≤ (i : Int) := by omega
    have zi1 : (i : Int) < (L.length : Int) := by omega
    have ei := gI_at (L := M) (i := i) (by omega)
    cases q4 : decide (((b - a : Nat) : Int) ≤ w) with
    | true =>
      have hge := of_decide_eq_true q4
      have ws : IntKind.i64.wrap (w - ((b - a : Nat) : Int)) = w - ((b - a : Nat) : Int) := wr_i64 (by omega) (by omega)
      obtain ⟨j, hj, hj2⟩ : ∃ j : Nat, IntKind.i64.wrap ((a : Int) + (w - ((b - a : Nat) : Int))) = (j : Int) ∧ a ≤ j ∧ j < b := ⟨(a + (w - ((b - a : Nat) : Int))).toNat, by rw [wr_i64 (by omega) (by omega)]; omega, by omega⟩
      have zj : (0 : Int) ≤ (j : Int) := by omega
      have zj1 : (j : Int) < (L.length : Int) := by omega
      have ej := gI_at (L := M) (i := j) (by omega)
      have es := st_at (K := M) (i := i) (j := j) (gI M j) (by omega)
      repeat' first
        | with_reducible rfl
        | simp only [swp_rows, q3, q4, ws, hi1, hw, ww, np1, hj, zi, zi1, zj, zj1, ei, ej, es, w16, d1, d2, m2, a2, ap, g0, g1, g6, g7, g8', g9, Int.toNat_natCast, List.length_map, RS_, argsTM, stepE, stBuiltin, stBox, stAlloc, stLoad, stStore, stField, stExtract, stBin, stUn, stConv, stNilCheck, stFieldV, stIndex, stIndexAddr, stLen, stMin, stMax, stBuild, fillI, stBuildSlice, setRows, stMakeSlice, stAppend, srcR, segR, rdCells, stSlice, bnd, stArr, stCopy, stConv2, isIntV, cutR, byteRows, rowByte, binStr, Option.map_some, Option.map_none, eq_self, canTL, canT, canH, canL, patL, gcH, gcT, gcI, get_gcT, mapC, pullS, pullI, pushS, push1, pushI, pushC, pullHW, roC, ix, List.map_map, Function.comp_def, List.zip_cons_cons, List.zip_nil_left, List.zip_nil_right, List.range'_zero, List.range'_succ, rd, get, put, IV.cells, ofValue, seg, spl, ldIV, binInt, eqI, cellsEq, leafEq, resI, flat, isT, upd, up1, nextM, cR, ptrC, nAl, isAl, ST_, Nat.reduceAdd, Nat.reduceMul, Nat.reduceEqDiff, Nat.reduceLeDiff, ne_eq, reduceCtorEq, reduceIte, forall_const, implies_true, Int.reduceToNat, Int.reduceLE, Int.reduceLT, bne, Int.reduceEq, Int.reduceNe, Int.reduceNeg, Int.reduceAdd, Int.reduceSub, Int.reduceMul, Int.reduceBEq, Int.reduceBNe, Nat.reduceLT, Nat.reduceSub, WLS, Try.underlying161, Try.underlying196, Try.underlying3, ty_ag_27, ty_sl_120, ty_sz_196, ty_sz_27, ty_ze_196]
        | (with_reducible refine drawK_id ?_); refine drawK_auto hmix (by kernel_rfl) ?_
        | (with_reducible refine draw_fin ?_ ?_); · kernel_rfl
        | (with_reducible refine draw_id ?_); kernel_rfl
        | ((with_reducible refine callK_id (f := 127) ?_); refine callK_funW [] [1] (cx) (by simp [pullHW, roC, Function.comp_def, rows_pull, pullS, ix]) rfl rfl (by decide) (by simp) (by simp [pullI, pullS, ix]) ?_; rintro r Hn ⟨rfl, rfl⟩ -; skip)
        | (with_reducible refine And.intro ?_ ?_; · omega)
      refine ⟨3 - (d + 1), _, _, by omega, Wk.gc [0, 1] rfl (by decide), d + 1, swp M i j, v, rfl, by omega, hM.swp (by omega) (by omega) (by omega) (by omega), ?_, ?_, ?_, ?_, ?_, ?_, ?_⟩
      · simp [Function.comp_def, get_gcT, get, put, gcI, pullI, pullS, gcH, patL, canL, canH, canTL, canT, rows_pull, ix, g0, g1, g6, g7, g8', g9]
      · simp [Function.comp_def, get_gcT, get, put, gcI, pullI, pullS, gcH, patL, canL, canH, canTL, canT, rows_pull, ix, g0, g1, g6, g7, g8', g9]
      · simp [Function.comp_def, get_gcT, get, put, gcI, pullI, pullS, gcH, patL, canL, canH, canTL, canT, rows_pull, ix, g0, g1, g6, g7, g8', g9]
      · simp [Function.comp_def, get_gcT, get, put, gcI, pullI, pullS, gcH, patL, canL, canH, canTL, canT, rows_pull, ix, g0, g1, g6, g7, g8', g9]
      · simp [Function.comp_def, get_gcT, get, put, gcI, pullI, pullS, gcH, patL, canL, canH, canTL, canT, rows_pull, ix, g0, g1, g6, g7, g8', g9, hmo]
      · simp [Function.comp_def, get_gcT, get, put, gcI, pullI, pullS, gcH, patL, canL, canH, canTL, canT, rows_pull, ix, g0, g1, g6, g7, g8', g9]
      · simp [Function.comp_def, get_gcT, get, put, gcI, pullI, pullS, gcH, patL, canL, canH, canTL, canT, rows_pull, ix, w16_pull]
    | false =>
      have hge := of_decide_eq_false q4
      obtain ⟨j, hj, hj2⟩ : ∃ j : Nat, IntKind.i64.wrap ((a : Int) + w) = (j : Int) ∧ a ≤ j ∧ j < b := ⟨(a + w).toNat, by rw [wr_i64 (by omega) (by omega)]; omega, by omega⟩
      have zj : (0 : Int) ≤ (j : Int) := by omega
      have zj1 : (j : Int) < (L.length : Int) := by omega
      have ej := gI_at (L := M) (i := j) (by omega)
      have es := st_at (K := M) (i := i) (j := j) (gI M j) (by omega)
      repeat' first
        | with_reducible rfl
        | simp only [swp_rows, q3, q4, hi1, hw, ww, np1, hj, zi, zi1, zj, zj1, ei, ej, es, w16, d1, d2, m2, a2, ap, g0, g1, g6, g7, g8', g9, Int.toNat_natCast, List.length_map, RS_, argsTM, stepE, stBuiltin, stBox, stAlloc, stLoad, stStore, stField, stExtract, stBin, stUn, stConv, stNilCheck, stFieldV, stIndex, stIndexAddr, stLen, stMin, stMax, stBuild, fillI, stBuildSlice, setRows, stMakeSlice, stAppend, srcR, segR, rdCells, stSlice, bnd, stArr, stCopy, stConv2, isIntV, cutR, byteRows, rowByte, binStr, Option.map_some, Option.map_none, eq_self, canTL, canT, canH, canL, patL, gcH, gcT, gcI, get_gcT, mapC, pullS, pullI, pushS, push1, pushI, pushC, pullHW, roC, ix, List.map_map, Function.comp_def, List.zip_cons_cons, List.zip_nil_left, List.zip_nil_right, List.range'_zero, List.range'_succ, rd, get, put, IV.cells, ofValue, seg, spl, ldIV, binInt, eqI, cellsEq, leafEq, resI, flat, isT, upd, up1, nextM, cR, ptrC, nAl, isAl, ST_, Nat.reduceAdd, Nat.reduceMul, Nat.reduceEqDiff, Nat.reduceLeDiff, ne_eq, reduceCtorEq, reduceIte, forall_const, implies_true, Int.reduceToNat, Int.reduceLE, Int.reduceLT, bne, Int.reduceEq, Int.reduceNe, Int.reduceNeg, Int.reduceAdd, Int.reduceSub, Int.reduceMul, Int.reduceBEq, Int.reduceBNe, Nat.reduceLT, Nat.reduceSub, WLS, Try.underlying161, Try.underlying196, Try.underlying3, ty_ag_27, ty_sl_120, ty_sz_196, ty_sz_27, ty_ze_196]
        | (with_reducible refine drawK_id ?_); refine drawK_auto hmix (by kernel_rfl) ?_
        | (with_reducible refine draw_fin ?_ ?_); · kernel_rfl
        | (with_reducible refine draw_id ?_); kernel_rfl
        | ((with_reducible refine callK_id (f := 127) ?_); refine callK_funW [] [1] (cx) (by simp [pullHW, roC, Function.comp_def, rows_pull, pullS, ix]) rfl rfl (by decide) (by simp) (by simp [pullI, pullS, ix]) ?_; rintro r Hn ⟨rfl, rfl⟩ -; skip)
        | (with_reducible refine And.intro ?_ ?_; · omega)
      refine ⟨3 - (d + 1), _, _, by omega, Wk.gc [0, 1] rfl (by decide), d + 1, swp M i j, v, rfl, by omega, hM.swp (by omega) (by omega) (by omega) (by omega), ?_, ?_, ?_, ?_, ?_, ?_, ?_⟩
      · simp [Function.comp_def, get_gcT, get, put, gcI, pullI, pullS, gcH, patL, canL, canH, canTL, canT, rows_pull, ix, g0, g1, g6, g7, g8', g9]
      · simp [Function.comp_def, get_gcT, get, put, gcI, pullI, pullS, gcH, patL, canL, canH, canTL, canT, rows_pull, ix, g0, g1, g6, g7, g8', g9]
      · simp [Function.comp_def, get_gcT, get, put, gcI, pullI, pullS, gcH, patL, canL, canH, canTL, canT, rows_pull, ix, g0, g1, g6, g7, g8', g9]
      · simp [Function.comp_def, get_gcT, get, put, gcI, pullI, pullS, gcH, patL, canL, canH, canTL, canT, rows_pull, ix, g0, g1, g6, g7, g8', g9]
      · simp [Function.comp_def, get_gcT, get, put, gcI, pullI, pullS, gcH, patL, canL, canH, canTL, canT, rows_pull, ix, g0, g1, g6, g7, g8', g9, hmo]
      · simp [Function.comp_def, get_gcT, get, put, gcI, pullI, pullS, gcH, patL, canL, canH, canTL, canT, rows_pull, ix, g0, g1, g6, g7, g8', g9]
      · simp [Function.comp_def, get_gcT, get, put, gcI, pullI, pullS, gcH, patL, canL, canH, canTL, canT, rows_pull, ix, w16_pull]
  · have hd4 : d = 3 := by omega
    subst hd4
    have q3 : decide (((a + 2 * q - 1 + 3 : Nat) : Int) ≤ ((a + 2 * q + 1 : Nat) : Int)) = false := decide_eq_false (by omega)
    repeat' first
      | with_reducible rfl
      | simp only [q3, d1, d2, m2, a2, ap, g0, g1, g6, g7, g8', g9, Int.toNat_natCast, List.length_map, RS_, argsTM, stepE, stBuiltin, stBox, stAlloc, stLoad, stStore, stField, stExtract, stBin, stUn, stConv, stNilCheck, stFieldV, stIndex, stIndexAddr, stLen, stMin, stMax, stBuild, fillI, stBuildSlice, setRows, stMakeSlice, stAppend, srcR, segR, rdCells, stSlice, bnd, stArr, stCopy, stConv2, isIntV, cutR, byteRows, rowByte, binStr, Option.map_some, Option.map_none, eq_self, canTL, canT, canH, canL, patL, gcH, gcT, gcI, get_gcT, mapC, pullS, pullI, pushS, push1, pushI, pushC, pullHW, roC, ix, List.map_map, Function.comp_def, List.zip_cons_cons, List.zip_nil_left, List.zip_nil_right, List.range'_zero, List.range'_succ, rd, get, put, IV.cells, ofValue, seg, spl, ldIV, binInt, eqI, cellsEq, leafEq, resI, flat, isT, upd, up1, nextM, cR, ptrC, nAl, isAl, ST_, Nat.reduceAdd, Nat.reduceMul, Nat.reduceEqDiff, Nat.reduceLeDiff, ne_eq, reduceCtorEq, reduceIte, forall_const, implies_true, Int.reduceToNat, Int.reduceLE, Int.reduceLT, bne, Int.reduceEq, Int.reduceNe, Int.reduceNeg, Int.reduceAdd, Int.reduceSub, Int.reduceMul, Int.reduceBEq, Int.reduceBNe, Nat.reduceLT, Nat.reduceSub, WLS, Try.underlying161, Try.underlying196, Try.underlying3, ty_ag_27, ty_sl_120, ty_sz_196, ty_sz_27, ty_ze_196]
      | (with_reducible refine drawK_id ?_); refine drawK_auto hmix (by kernel_rfl) ?_
      | (with_reducible refine draw_fin ?_ ?_); · kernel_rfl
      | (with_reducible refine draw_id ?_); kernel_rfl
      | (refine ⟨_, _, (WkR.gc [0] rfl (by decide)).to ?_ ?_, by simp, rfl, M, hM, rfl⟩ <;> (first | (simp [gcI, pullI, pullS]; done) | (simp [Function.comp_def, get_gcT, get, put, gcI, pullI, pullS, gcH, patL, canL, canH, canTL, canT, rows_pull, ix, w16_pull]; done)))
      | (with_reducible refine And.intro ?_ ?_; · omega)
end Go.Ev
