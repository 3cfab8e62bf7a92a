/- A part of the proof: contracts of the functions that the statement reaches. -/
import Derived.Test.YtnmobamjinponaaEvC
import Derived.Test.YtnmobamjinponaaQ4
namespace Go.Ev
open Go.Proofs
set_option maxRecDepth 100000
set_option linter.unusedSimpArgs false
set_option linter.unusedVariables false
set_option maxHeartbeats 4000000
theorem st_at {K : List Int} {i j : Nat} (v : Int) (hj : j < K.length) : ((K.map w16).set i [.raw (.int .u16 v)])[j]? = some (w16 (gI (K.set i v) j)) := by
  have e : ((K.map w16).set i [.raw (.int .u16 v)]) = (K.set i v).map w16 := by rw [List.map_set]; rfl
  rw [e]
  exact gI_at (by simpa using hj)
theorem swp_rows (K : List Int) (i j : Nat) : ((K.map w16).set i [.raw (.int .u16 (gI K j))]).set j [.raw (.int .u16 (gI K i))] = (swp K i j).map w16 := by
  simp only [swp, List.map_set]; rfl
/-- Between a and i all are less than what stands at a, between j and b none is. -/
structure PT (L : List Int) (a b : Nat) (K : List Int) (i j : Nat) : Prop where
  same : Same a b L K
  lt : ∀ k, a < k → k < i → gI K k < gI K a
  ge : ∀ k, j < k → k < b → gI K a ≤ gI K k
  i1 : a + 1 ≤ i
  i2 : i ≤ j + 1
  j1 : j < b
/-- What a partition leaves. -/
def Parted (M : List Int) (a b m : Nat) : Prop := a ≤ m ∧ m < b ∧ (∀ k, a ≤ k → k < m → gI M k < gI M m) ∧ (∀ k, m < k → k < b → gI M m ≤ gI M k)
theorem PT.fin {L : List Int} {a b : Nat} {K : List Int} {i j : Nat} (h : PT L a b K i j) (hb : b ≤ K.length) (hij : j < i) : Same a b L (swp K j a) ∧ Parted (swp K j a) a b j := by
  obtain ⟨h1, h2, h3, h4, h5, h6⟩ := h
  have hv := fun k => swp_at (L := K) (i := j) (j := a) (by omega) (by omega) k
  refine ⟨h1.swp (by omega) (by omega) (by omega) (by omega), by omega, h6, fun k k1 k2 => ?_, fun k k1 k2 => ?_⟩
  · have m1 := hv k
    have m2 := hv j
    rw [if_neg (by omega), if_pos rfl] at m2
    by_cases e : k = a
    · rw [if_pos e] at m1
      rw [m1, m2]
      exact h2 j (by omega) (by omega)
    · rw [if_neg e, if_neg (by omega)] at m1
      rw [m1, m2]
      exact h2 k (by omega) (by omega)
  · have m1 := hv k
    have m2 := hv j
    rw [if_neg (by omega), if_neg (by omega)] at m1
    by_cases e2 : j = a
    · rw [if_pos e2] at m2
      rw [m1, m2, e2]
      exact h3 k (by omega) k2
    · rw [if_neg e2, if_pos rfl] at m2
      rw [m1, m2]
      exact h3 k k1 k2
theorem PT.next {L : List Int} {a b : Nat} {K : List Int} {i j : Nat} (h : PT L a b K i j) (hb : b ≤ K.length) (hij : i ≤ j) (si : gI K a ≤ gI K i) (sj : gI K j < gI K a) : PT L a b (swp K i j) (i + 1) (j - 1) ∧ i < j := by
  obtain ⟨h1, h2, h3, h4, h5, h6⟩ := h
  have hne : i ≠ j := by rintro rfl; omega
  have hv := fun k => swp_at (L := K) (i := i) (j := j) (by omega) (by omega) k
  have ha : gI (swp K i j) a = gI K a := by rw [hv a, if_neg (by omega), if_neg (by omega)]
  refine ⟨⟨h1.swp (by omega) (by omega) (by omega) (by omega), fun k k1 k2 => ?_, fun k k1 k2 => ?_, by omega, by omega, by omega⟩, by omega⟩
  · rw [ha, hv k]
    by_cases e : k = i
    · subst e; rw [if_neg (by omega), if_pos rfl]; exact sj
    · rw [if_neg (by omega), if_neg e]; exact h2 k k1 (by omega)
  · rw [ha, hv k]
    by_cases e : k = j
    · subst e; rw [if_pos rfl]; exact si
    · rw [if_neg e, if_neg (by omega)]; exact h3 k (by omega) k2
theorem PT.incI {L : List Int} {a b : Nat} {K : List Int} {i j : Nat} (h : PT L a b K i j) (hij : i ≤ j) (hx : gI K i < gI K a) : PT L a b K (i + 1) j :=
  ⟨h.same, fun k k1 k2 => by
    by_cases e : k = i
    · subst e; exact hx
    · exact h.lt k k1 (by omega), h.ge, by have := h.i1; omega, by omega, h.j1⟩
theorem PT.decJ {L : List Int} {a b : Nat} {K : List Int} {i j : Nat} (h : PT L a b K i j) (hij : i ≤ j) (hx : ¬ gI K j < gI K a) : PT L a b K i (j - 1) :=
  ⟨h.same, h.lt, fun k k1 k2 => by
    by_cases e : k = j
    · subst e; omega
    · exact h.ge k (by omega) k2, h.i1, by have := h.i1; omega, by have := h.j1; omega⟩
def TP (L : List Int) (a b i j : Nat) (tm : TM) : Prop := get tm 0 = .s (.slice 0 0 L.length) ∧ get tm 1 = .s (.raw (.int .i64 (a : Int))) ∧ get tm 2 = .s (.raw (.int .i64 (b : Int))) ∧ get tm 10 = .s (.raw (.int .i64 (i : Int))) ∧ get tm 11 = .s (.raw (.int .i64 (j : Int)))
def IPi (L : List Int) (a b : Nat) (K : List Int) (j i0 : Nat) (mm : Nat) (tm : TM) (H : Heap) : Prop := ∃ i : Nat, mm = b + 1 - i ∧ i0 ≤ i ∧ PT L a b K i j ∧ TP L a b i j tm ∧ H = [.rows true 1 (K.map w16)]
def IPj (L : List Int) (a b : Nat) (K : List Int) (i j0 : Nat) (mm : Nat) (tm : TM) (H : Heap) : Prop := ∃ j : Nat, j = mm ∧ j ≤ j0 ∧ PT L a b K i j ∧ (i ≤ j → gI K a ≤ gI K i) ∧ TP L a b i j tm ∧ H = [.rows true 1 (K.map w16)]
def IPo (L : List Int) (a b : Nat) (mm : Nat) (tm : TM) (H : Heap) : Prop := ∃ (K : List Int) (i j : Nat), mm = j + 1 - i ∧ PT L a b K i j ∧ TP L a b i j tm ∧ H = [.rows true 1 (K.map w16)]
def KeyI (X : Ctx) (L : List Int) (a b : Nat) (K : List Int) (j i0 : Nat) (c : Code) (Q : Exit → TM → Heap → Prop) : Prop := ∀ (i : Nat) (tm : TM), i0 ≤ i → PT L a b K i j → (i ≤ j → gI K a ≤ gI K i) → TP L a b i j tm → loopK Try.prog 168 (X.at 1) c Q tm [.rows true 1 (K.map w16)]
def KeyJ (X : Ctx) (L : List Int) (a b : Nat) (c : Code) (Q : Exit → TM → Heap → Prop) : Prop := ∀ (K : List Int) (i j : Nat) (tm : TM), PT L a b K i j → TP L a b i j tm → loopK Try.prog 168 (X.at 1) c Q tm [.rows true 1 (K.map w16)]
theorem partW (L : List Int) (a b p : Nat) (hab : a + 2 ≤ b) (hp : a ≤ p ∧ p < b) (hb : b ≤ L.length) (hn : L.length ≤ 1000000) : FunW Try.prog 124 [] [.rows true 1 (L.map w16)] [.s (.slice 0 0 L.length), .s (.raw (.int .i64 (a : Int))), .s (.raw (.int .i64 (b : Int))), .s (.raw (.int .i64 (p : Int)))]
    fun r Hn => ∃ (M : List Int) (m : Nat) (t : Bool), r = .t [.s (.raw (.int .i64 (m : Int))), .s (.raw (.bool t))] ∧ Same a b L M ∧ Parted M a b m ∧ Hn = [.rows true 1 (M.map w16)] := by
  refine funW_of fun X => ?_
  have ha1 : IntKind.i64.wrap ((a : Int) + 1) = ((a + 1 : Nat) : Int) := by rw [wr_i64 (by omega) (by omega)]; rfl
  have hb1 : IntKind.i64.wrap ((b : Int) - 1) = ((b - 1 : Nat) : Int) := by rw [wr_i64 (by omega) (by omega)]; omega
  have za : (0 : Int) ≤ (a : Int) := by omega
  have za1 : (a : Int) < (L.length : Int) := by omega
  have zp : (0 : Int) ≤ (p : Int) := by omega
  have zp1 : (p : Int) < (L.length : Int) := by omega
  have ea := gI_at (L := L) (i := a) (by omega)
  have ep := gI_at (L := L) (i := p) (by omega)
  have es := st_at (K := L) (i := a) (j := p) (gI L p) (by omega)
  refine callK_inline (rs := [.tmp 8, .tmp 9]) (n := 168) Try.func124 rfl rfl rfl (by kernel_rfl) (by kernel_rfl) (by simp only [List.length_cons, List.length_nil]; decide) ?_
  repeat' first
    | with_reducible rfl
    | simp only [swp_rows, ha1, hb1, za, za1, zp, zp1, ea, ep, es, w16, Int.toNat_natCast, List.length_map, RS_, argsTM, stepE, stBuiltin, stBox, stAlloc, stLoad, stStore, stField, stExtract, stBin, stUn, stConv, stNilCheck, stFieldV, stIndex, stIndexAddr, stLen, stMin, stMax, stBuild, fillI, stBuildSlice, setRows, stMakeSlice, stAppend, srcR, segR, rdCells, stSlice, bnd, stArr, stCopy, stConv2, isIntV, cutR, byteRows, rowByte, binStr, Option.map_some, Option.map_none, eq_self, canTL, canT, canH, canL, patL, gcH, gcT, gcI, get_gcT, mapC, pullS, pullI, pushS, push1, pushI, pushC, pullHW, roC, ix, List.map_map, Function.comp_def, List.zip_cons_cons, List.zip_nil_left, List.zip_nil_right, List.range'_zero, List.range'_succ, rd, get, put, IV.cells, ofValue, seg, spl, ldIV, binInt, eqI, cellsEq, leafEq, resI, flat, isT, upd, up1, nextM, cR, ptrC, nAl, isAl, ST_, Nat.reduceAdd, Nat.reduceMul, Nat.reduceEqDiff, Nat.reduceLeDiff, ne_eq, reduceCtorEq, reduceIte, forall_const, implies_true, Int.reduceToNat, Int.reduceLE, Int.reduceLT, bne, Int.reduceEq, Int.reduceNe, Int.reduceNeg, Int.reduceAdd, Int.reduceSub, Int.reduceMul, Int.reduceBEq, Int.reduceBNe, Nat.reduceLT, Nat.reduceSub, WLS, ty_ag_27, ty_sl_120, ty_sz_27]
    | (with_reducible refine drawK_id ?_); refine drawK_auto hmix (by kernel_rfl) ?_
    | (with_reducible refine draw_fin ?_ ?_); · kernel_rfl
    | (with_reducible refine draw_id ?_); kernel_rfl
    | (with_reducible refine And.intro ?_ ?_; · omega)
  have h0 : PT L a b (swp L a p) (a + 1) (b - 1) := ⟨(Same.refl a b L).swp (by omega) (by omega) (by omega) (by omega), fun k k1 k2 => by omega, fun k k1 k2 => by omega, by omega, by omega, by omega⟩
  refine' (fun (keyJ : KeyJ X L a b _ _) => ?main) ?keyJ
  case main =>
    obtain ⟨K, hK⟩ : ∃ K, swp L a p = K := ⟨_, rfl⟩
    rw [hK] at h0
    obtain ⟨i, hi⟩ : ∃ i, a + 1 = i := ⟨_, rfl⟩
    obtain ⟨j, hj⟩ : ∃ j, b - 1 = j := ⟨_, rfl⟩
    rw [hi, hj] at h0
    have hPT := h0
    obtain ⟨i0, hi0⟩ : ∃ i0, i = i0 := ⟨_, rfl⟩
    obtain ⟨j0, hj0⟩ : ∃ j0, j = j0 := ⟨_, rfl⟩
    refine' (fun (key : KeyI X L a b K j i0 _ _) => ?mainI) ?keyI
    case mainI =>
      refine loopK_wk (by kernel_rfl) (IPi L a b K j i0) (b + 1 - i) ⟨_, _, Wk.gc [0] rfl (by decide), i, rfl, by omega, hPT, ?_, ?_⟩ ?_
      · exact ⟨by simp [Function.comp_def, get_gcT, get, put, gcI, pullI, pullS, gcH, patL, canL, canH, canTL, canT, rows_pull, ix], by simp [Function.comp_def, get_gcT, get, put, gcI, pullI, pullS, gcH, patL, canL, canH, canTL, canT, rows_pull, ix], by simp [Function.comp_def, get_gcT, get, put, gcI, pullI, pullS, gcH, patL, canL, canH, canTL, canT, rows_pull, ix], by simp [Function.comp_def, get_gcT, get, put, gcI, pullI, pullS, gcH, patL, canL, canH, canTL, canT, rows_pull, ix, hi], by simp [Function.comp_def, get_gcT, get, put, gcI, pullI, pullS, gcH, patL, canL, canH, canTL, canT, rows_pull, ix, hj]⟩
      · (simp [Function.comp_def, get_gcT, get, put, gcI, pullI, pullS, gcH, patL, canL, canH, canTL, canT, rows_pull, ix, w16_pull, hK]; done)
      rintro mm tm H ⟨i, rfl, hii, hPT, ⟨g0, g1, g2, g10, g11⟩, rfl⟩
      obtain ⟨p1, p2, p3⟩ : a + 1 ≤ i ∧ i ≤ j + 1 ∧ j < b := ⟨hPT.i1, hPT.i2, hPT.j1⟩
      have hKl := hPT.same.len
      by_cases hij : i ≤ j
      · have q3 : decide ((i : Int) ≤ (j : Int)) = true := decide_eq_true (by omega)
        have hi1 : IntKind.i64.wrap ((i : Int) + 1) = ((i + 1 : Nat) : Int) := by rw [wr_i64 (by omega) (by omega)]; rfl
        have z0 : (0 : Int) ≤ (i : Int) := by omega
        have z1 : (i : Int) < (L.length : Int) := by omega
        have e0 := gI_at (L := K) (i := i) (by omega)
        have e1 := gI_at (L := K) (i := a) (by omega)
        cases q4 : decide (gI K i < gI K a) with
        | true =>
          repeat' first
            | with_reducible rfl
            | simp only [q3, q4, hi1, z0, z1, za, za1, e0, e1, w16, g0, g1, g2, g10, g11, Int.toNat_natCast, List.length_map, RS_, argsTM, stepE, stBuiltin, stBox, stAlloc, stLoad, stStore, stField, stExtract, stBin, stUn, stConv, stNilCheck, stFieldV, stIndex, stIndexAddr, stLen, stMin, stMax, stBuild, fillI, stBuildSlice, setRows, stMakeSlice, stAppend, srcR, segR, rdCells, stSlice, bnd, stArr, stCopy, stConv2, isIntV, cutR, byteRows, rowByte, binStr, Option.map_some, Option.map_none, eq_self, canTL, canT, canH, canL, patL, gcH, gcT, gcI, get_gcT, mapC, pullS, pullI, pushS, push1, pushI, pushC, pullHW, roC, ix, List.map_map, Function.comp_def, List.zip_cons_cons, List.zip_nil_left, List.zip_nil_right, List.range'_zero, List.range'_succ, rd, get, put, IV.cells, ofValue, seg, spl, ldIV, binInt, eqI, cellsEq, leafEq, resI, flat, isT, upd, up1, nextM, cR, ptrC, nAl, isAl, ST_, Nat.reduceAdd, Nat.reduceMul, Nat.reduceEqDiff, Nat.reduceLeDiff, ne_eq, reduceCtorEq, reduceIte, forall_const, implies_true, Int.reduceToNat, Int.reduceLE, Int.reduceLT, bne, Int.reduceEq, Int.reduceNe, Int.reduceNeg, Int.reduceAdd, Int.reduceSub, Int.reduceMul, Int.reduceBEq, Int.reduceBNe, Nat.reduceLT, Nat.reduceSub, WLS, ty_ag_27, ty_sl_120, ty_sz_27]
            | (with_reducible refine drawK_id ?_); refine drawK_auto hmix (by kernel_rfl) ?_
            | (with_reducible refine draw_fin ?_ ?_); · kernel_rfl
            | (with_reducible refine draw_id ?_); kernel_rfl
            | (with_reducible refine callD_id (f := 122) ?_); refine callD_of (lessW _ _) rfl rfl ?_
            | (with_reducible refine And.intro ?_ ?_; · omega)
          refine ⟨b + 1 - (i + 1), _, _, by omega, Wk.gc [0] rfl (by decide), i + 1, rfl, by omega, hPT.incI hij (of_decide_eq_true q4), ⟨?_, ?_, ?_, ?_, ?_⟩, ?_⟩ <;> (simp [Function.comp_def, get_gcT, get, put, gcI, pullI, pullS, gcH, patL, canL, canH, canTL, canT, rows_pull, ix, w16_pull, g0, g1, g2, g10, g11]; done)
        | false =>
          have hst := of_decide_eq_false q4
          repeat' first
            | with_reducible rfl
            | simp only [q3, q4, hi1, z0, z1, za, za1, e0, e1, w16, g0, g1, g2, g10, g11, Int.toNat_natCast, List.length_map, RS_, argsTM, stepE, stBuiltin, stBox, stAlloc, stLoad, stStore, stField, stExtract, stBin, stUn, stConv, stNilCheck, stFieldV, stIndex, stIndexAddr, stLen, stMin, stMax, stBuild, fillI, stBuildSlice, setRows, stMakeSlice, stAppend, srcR, segR, rdCells, stSlice, bnd, stArr, stCopy, stConv2, isIntV, cutR, byteRows, rowByte, binStr, Option.map_some, Option.map_none, eq_self, canTL, canT, canH, canL, patL, gcH, gcT, gcI, get_gcT, mapC, pullS, pullI, pushS, push1, pushI, pushC, pullHW, roC, ix, List.map_map, Function.comp_def, List.zip_cons_cons, List.zip_nil_left, List.zip_nil_right, List.range'_zero, List.range'_succ, rd, get, put, IV.cells, ofValue, seg, spl, ldIV, binInt, eqI, cellsEq, leafEq, resI, flat, isT, upd, up1, nextM, cR, ptrC, nAl, isAl, ST_, Nat.reduceAdd, Nat.reduceMul, Nat.reduceEqDiff, Nat.reduceLeDiff, ne_eq, reduceCtorEq, reduceIte, forall_const, implies_true, Int.reduceToNat, Int.reduceLE, Int.reduceLT, bne, Int.reduceEq, Int.reduceNe, Int.reduceNeg, Int.reduceAdd, Int.reduceSub, Int.reduceMul, Int.reduceBEq, Int.reduceBNe, Nat.reduceLT, Nat.reduceSub, WLS, ty_ag_27, ty_sl_120, ty_sz_27]
            | (with_reducible refine drawK_id ?_); refine drawK_auto hmix (by kernel_rfl) ?_
            | (with_reducible refine draw_fin ?_ ?_); · kernel_rfl
            | (with_reducible refine draw_id ?_); kernel_rfl
            | (with_reducible refine callD_id (f := 122) ?_); refine callD_of (lessW _ _) rfl rfl ?_
            | (with_reducible refine And.intro ?_ ?_; · omega)
          refine key i _ hii hPT (fun _ => by omega) ⟨?_, ?_, ?_, ?_, ?_⟩ <;> (simp [get, g0, g1, g2, g10, g11]; done)
      · have q3 : decide ((i : Int) ≤ (j : Int)) = false := decide_eq_false (by omega)
        repeat' first
          | with_reducible rfl
          | simp only [q3, g0, g1, g2, g10, g11, Int.toNat_natCast, List.length_map, RS_, argsTM, stepE, stBuiltin, stBox, stAlloc, stLoad, stStore, stField, stExtract, stBin, stUn, stConv, stNilCheck, stFieldV, stIndex, stIndexAddr, stLen, stMin, stMax, stBuild, fillI, stBuildSlice, setRows, stMakeSlice, stAppend, srcR, segR, rdCells, stSlice, bnd, stArr, stCopy, stConv2, isIntV, cutR, byteRows, rowByte, binStr, Option.map_some, Option.map_none, eq_self, canTL, canT, canH, canL, patL, gcH, gcT, gcI, get_gcT, mapC, pullS, pullI, pushS, push1, pushI, pushC, pullHW, roC, ix, List.map_map, Function.comp_def, List.zip_cons_cons, List.zip_nil_left, List.zip_nil_right, List.range'_zero, List.range'_succ, rd, get, put, IV.cells, ofValue, seg, spl, ldIV, binInt, eqI, cellsEq, leafEq, resI, flat, isT, upd, up1, nextM, cR, ptrC, nAl, isAl, ST_, Nat.reduceAdd, Nat.reduceMul, Nat.reduceEqDiff, Nat.reduceLeDiff, ne_eq, reduceCtorEq, reduceIte, forall_const, implies_true, Int.reduceToNat, Int.reduceLE, Int.reduceLT, bne, Int.reduceEq, Int.reduceNe, Int.reduceNeg, Int.reduceAdd, Int.reduceSub, Int.reduceMul, Int.reduceBEq, Int.reduceBNe, Nat.reduceLT, Nat.reduceSub, WLS, ty_ag_27, ty_sl_120, ty_sz_27]
          | (with_reducible refine drawK_id ?_); refine drawK_auto hmix (by kernel_rfl) ?_
          | (with_reducible refine draw_fin ?_ ?_); · kernel_rfl
          | (with_reducible refine draw_id ?_); kernel_rfl
          | (with_reducible refine callD_id (f := 122) ?_); refine callD_of (lessW _ _) rfl rfl ?_
          | (with_reducible refine And.intro ?_ ?_; · omega)
        refine key i _ hii hPT (fun _ => by omega) ⟨?_, ?_, ?_, ?_, ?_⟩ <;> (simp [get, g0, g1, g2, g10, g11]; done)
    case keyI =>
      intro i tm hii hPT hsi hT
      refine loopK_wk (by kernel_rfl) (IPj L a b K i j0) j ⟨_, _, Wk.refl, j, rfl, by omega, hPT, hsi, hT, rfl⟩ ?_
      rintro mm tm H ⟨j, rfl, hjj, hPT, hsi, ⟨g0, g1, g2, g10, g11⟩, rfl⟩
      obtain ⟨p1, p2, p3⟩ : a + 1 ≤ i ∧ i ≤ j + 1 ∧ j < b := ⟨hPT.i1, hPT.i2, hPT.j1⟩
      have hKl := hPT.same.len
      have e1 := gI_at (L := K) (i := a) (by omega)
      have z0 : (0 : Int) ≤ (j : Int) := by omega
      have z1 : (j : Int) < (L.length : Int) := by omega
      have e0 := gI_at (L := K) (i := j) (by omega)
      by_cases hij : i ≤ j
      · have q3 : decide ((i : Int) ≤ (j : Int)) = true := decide_eq_true (by omega)
        have hj1 : IntKind.i64.wrap ((j : Int) - 1) = ((j - 1 : Nat) : Int) := by rw [wr_i64 (by omega) (by omega)]; omega
        cases q4 : decide (gI K j < gI K a) with
        | false =>
          repeat' first
            | with_reducible rfl
            | simp only [q3, q4, hj1, z0, z1, za, za1, e0, e1, w16, g0, g1, g2, g10, g11, Int.toNat_natCast, List.length_map, RS_, argsTM, stepE, stBuiltin, stBox, stAlloc, stLoad, stStore, stField, stExtract, stBin, stUn, stConv, stNilCheck, stFieldV, stIndex, stIndexAddr, stLen, stMin, stMax, stBuild, fillI, stBuildSlice, setRows, stMakeSlice, stAppend, srcR, segR, rdCells, stSlice, bnd, stArr, stCopy, stConv2, isIntV, cutR, byteRows, rowByte, binStr, Option.map_some, Option.map_none, eq_self, canTL, canT, canH, canL, patL, gcH, gcT, gcI, get_gcT, mapC, pullS, pullI, pushS, push1, pushI, pushC, pullHW, roC, ix, List.map_map, Function.comp_def, List.zip_cons_cons, List.zip_nil_left, List.zip_nil_right, List.range'_zero, List.range'_succ, rd, get, put, IV.cells, ofValue, seg, spl, ldIV, binInt, eqI, cellsEq, leafEq, resI, flat, isT, upd, up1, nextM, cR, ptrC, nAl, isAl, ST_, Nat.reduceAdd, Nat.reduceMul, Nat.reduceEqDiff, Nat.reduceLeDiff, ne_eq, reduceCtorEq, reduceIte, forall_const, implies_true, Int.reduceToNat, Int.reduceLE, Int.reduceLT, bne, Int.reduceEq, Int.reduceNe, Int.reduceNeg, Int.reduceAdd, Int.reduceSub, Int.reduceMul, Int.reduceBEq, Int.reduceBNe, Nat.reduceLT, Nat.reduceSub, WLS, ty_ag_27, ty_sl_120, ty_sz_27]
            | (with_reducible refine drawK_id ?_); refine drawK_auto hmix (by kernel_rfl) ?_
            | (with_reducible refine draw_fin ?_ ?_); · kernel_rfl
            | (with_reducible refine draw_id ?_); kernel_rfl
            | (with_reducible refine callD_id (f := 122) ?_); refine callD_of (lessW _ _) rfl rfl ?_
            | (with_reducible refine And.intro ?_ ?_; · omega)
          refine ⟨j - 1, _, _, by omega, Wk.gc [0] rfl (by decide), j - 1, rfl, by omega, hPT.decJ hij (of_decide_eq_false q4), fun hh => hsi hij, ⟨?_, ?_, ?_, ?_, ?_⟩, ?_⟩ <;> (simp [Function.comp_def, get_gcT, get, put, gcI, pullI, pullS, gcH, patL, canL, canH, canTL, canT, rows_pull, ix, w16_pull, g0, g1, g2, g10, g11]; done)
        | true =>
          obtain ⟨hN, hlt⟩ := hPT.next (by omega) hij (hsi hij) (of_decide_eq_true q4)
          have q5 : decide ((j : Int) < (i : Int)) = false := decide_eq_false (by omega)
          have hi1 : IntKind.i64.wrap ((i : Int) + 1) = ((i + 1 : Nat) : Int) := by rw [wr_i64 (by omega) (by omega)]; rfl
          have zi : (0 : Int) ≤ (i : Int) := by omega
          have zi1 : (i : Int) < (L.length : Int) := by omega
          have e2 := gI_at (L := K) (i := i) (by omega)
          have e3 := st_at (K := K) (i := i) (j := j) (gI K j) (by omega)
          repeat' first
            | with_reducible rfl
            | simp only [swp_rows, q3, q4, q5, hi1, hj1, z0, z1, za, za1, zi, zi1, e0, e1, e2, e3, w16, g0, g1, g2, g10, g11, Int.toNat_natCast, List.length_map, RS_, argsTM, stepE, stBuiltin, stBox, stAlloc, stLoad, stStore, stField, stExtract, stBin, stUn, stConv, stNilCheck, stFieldV, stIndex, stIndexAddr, stLen, stMin, stMax, stBuild, fillI, stBuildSlice, setRows, stMakeSlice, stAppend, srcR, segR, rdCells, stSlice, bnd, stArr, stCopy, stConv2, isIntV, cutR, byteRows, rowByte, binStr, Option.map_some, Option.map_none, eq_self, canTL, canT, canH, canL, patL, gcH, gcT, gcI, get_gcT, mapC, pullS, pullI, pushS, push1, pushI, pushC, pullHW, roC, ix, List.map_map, Function.comp_def, List.zip_cons_cons, List.zip_nil_left, List.zip_nil_right, List.range'_zero, List.range'_succ, rd, get, put, IV.cells, ofValue, seg, spl, ldIV, binInt, eqI, cellsEq, leafEq, resI, flat, isT, upd, up1, nextM, cR, ptrC, nAl, isAl, ST_, Nat.reduceAdd, Nat.reduceMul, Nat.reduceEqDiff, Nat.reduceLeDiff, ne_eq, reduceCtorEq, reduceIte, forall_const, implies_true, Int.reduceToNat, Int.reduceLE, Int.reduceLT, bne, Int.reduceEq, Int.reduceNe, Int.reduceNeg, Int.reduceAdd, Int.reduceSub, Int.reduceMul, Int.reduceBEq, Int.reduceBNe, Nat.reduceLT, Nat.reduceSub, WLS, ty_ag_27, ty_sl_120, ty_sz_27]
            | (with_reducible refine drawK_id ?_); refine drawK_auto hmix (by kernel_rfl) ?_
            | (with_reducible refine draw_fin ?_ ?_); · kernel_rfl
            | (with_reducible refine draw_id ?_); kernel_rfl
            | (with_reducible refine callD_id (f := 122) ?_); refine callD_of (lessW _ _) rfl rfl ?_
            | (with_reducible refine And.intro ?_ ?_; · omega)
          refine keyJ _ (i + 1) (j - 1) _ hN ⟨?_, ?_, ?_, ?_, ?_⟩ <;> (simp [get, g0, g1, g2, g10, g11]; done)
      · have q3 : decide ((i : Int) ≤ (j : Int)) = false := decide_eq_false (by omega)
        obtain ⟨hS, hPd⟩ := hPT.fin (by omega) (by omega)
        have q5 : decide ((j : Int) < (i : Int)) = true := decide_eq_true (by omega)
        have e3 := st_at (K := K) (i := j) (j := a) (gI K a) (by omega)
        repeat' first
          | with_reducible rfl
          | simp only [swp_rows, q3, q5, z0, z1, za, za1, e0, e1, e3, w16, g0, g1, g2, g10, g11, Int.toNat_natCast, List.length_map, RS_, argsTM, stepE, stBuiltin, stBox, stAlloc, stLoad, stStore, stField, stExtract, stBin, stUn, stConv, stNilCheck, stFieldV, stIndex, stIndexAddr, stLen, stMin, stMax, stBuild, fillI, stBuildSlice, setRows, stMakeSlice, stAppend, srcR, segR, rdCells, stSlice, bnd, stArr, stCopy, stConv2, isIntV, cutR, byteRows, rowByte, binStr, Option.map_some, Option.map_none, eq_self, canTL, canT, canH, canL, patL, gcH, gcT, gcI, get_gcT, mapC, pullS, pullI, pushS, push1, pushI, pushC, pullHW, roC, ix, List.map_map, Function.comp_def, List.zip_cons_cons, List.zip_nil_left, List.zip_nil_right, List.range'_zero, List.range'_succ, rd, get, put, IV.cells, ofValue, seg, spl, ldIV, binInt, eqI, cellsEq, leafEq, resI, flat, isT, upd, up1, nextM, cR, ptrC, nAl, isAl, ST_, Nat.reduceAdd, Nat.reduceMul, Nat.reduceEqDiff, Nat.reduceLeDiff, ne_eq, reduceCtorEq, reduceIte, forall_const, implies_true, Int.reduceToNat, Int.reduceLE, Int.reduceLT, bne, Int.reduceEq, Int.reduceNe, Int.reduceNeg, Int.reduceAdd, Int.reduceSub, Int.reduceMul, Int.reduceBEq, Int.reduceBNe, Nat.reduceLT, Nat.reduceSub, WLS, ty_ag_27, ty_sl_120, ty_sz_27]
          | (with_reducible refine drawK_id ?_); refine drawK_auto hmix (by kernel_rfl) ?_
          | (with_reducible refine draw_fin ?_ ?_); · kernel_rfl
          | (with_reducible refine draw_id ?_); kernel_rfl
          | (with_reducible refine callD_id (f := 122) ?_); refine callD_of (lessW _ _) rfl rfl ?_
          | (refine ⟨_, _, (WkR.gc [0] rfl (by decide)).to ?_ ?_, by simp, swp K j a, j, true, rfl, hS, hPd, rfl⟩ <;> (first | (simp [gcI, pullI, pullS]; done) | (simp [Function.comp_def, get_gcT, get, put, gcI, pullI, pullS, gcH, patL, canL, canH, canTL, canT, rows_pull, ix, w16_pull]; done)))
          | (with_reducible refine And.intro ?_ ?_; · omega)
  case keyJ =>
    clear h0
    intro K i j tm hPT hT
    refine loopK_wk (by kernel_rfl) (IPo L a b) (j + 1 - i) ⟨_, _, Wk.refl, K, i, j, rfl, hPT, hT, rfl⟩ ?_
    clear hPT hT
    rintro mm tm H ⟨K, i, j, rfl, hPT, hT, rfl⟩
    obtain ⟨p1_, p2_, p3_⟩ : a + 1 ≤ i ∧ i ≤ j + 1 ∧ j < b := ⟨hPT.i1, hPT.i2, hPT.j1⟩
    obtain ⟨i0, hi0⟩ : ∃ i0, i = i0 := ⟨_, rfl⟩
    obtain ⟨j0, hj0⟩ : ∃ j0, j = j0 := ⟨_, rfl⟩
    obtain ⟨g0, g1, g2, g10, g11⟩ := id hT
    repeat' first
      | with_reducible rfl
      | simp only [g0, g1, g2, g10, g11, Int.toNat_natCast, List.length_map, RS_, argsTM, stepE, stBuiltin, stBox, stAlloc, stLoad, stStore, stField, stExtract, stBin, stUn, stConv, stNilCheck, stFieldV, stIndex, stIndexAddr, stLen, stMin, stMax, stBuild, fillI, stBuildSlice, setRows, stMakeSlice, stAppend, srcR, segR, rdCells, stSlice, bnd, stArr, stCopy, stConv2, isIntV, cutR, byteRows, rowByte, binStr, Option.map_some, Option.map_none, eq_self, canTL, canT, canH, canL, patL, gcH, gcT, gcI, get_gcT, mapC, pullS, pullI, pushS, push1, pushI, pushC, pullHW, roC, ix, List.map_map, Function.comp_def, List.zip_cons_cons, List.zip_nil_left, List.zip_nil_right, List.range'_zero, List.range'_succ, rd, get, put, IV.cells, ofValue, seg, spl, ldIV, binInt, eqI, cellsEq, leafEq, resI, flat, isT, upd, up1, nextM, cR, ptrC, nAl, isAl, ST_, Nat.reduceAdd, Nat.reduceMul, Nat.reduceEqDiff, Nat.reduceLeDiff, ne_eq, reduceCtorEq, reduceIte, forall_const, implies_true, Int.reduceToNat, Int.reduceLE, Int.reduceLT, bne, Int.reduceEq, Int.reduceNe, Int.reduceNeg, Int.reduceAdd, Int.reduceSub, Int.reduceMul, Int.reduceBEq, Int.reduceBNe, Nat.reduceLT, Nat.reduceSub, WLS, ty_ag_27, ty_sl_120, ty_sz_27]
      | (with_reducible refine drawK_id ?_); refine drawK_auto hmix (by kernel_rfl) ?_
      | (with_reducible refine draw_fin ?_ ?_); · kernel_rfl
      | (with_reducible refine draw_id ?_); kernel_rfl
      | (with_reducible refine And.intro ?_ ?_; · omega)
    refine' (fun (key : KeyI X L a b K j i0 _ _) => ?mainI) ?keyI
    case mainI =>
      refine loopK_wk (by kernel_rfl) (IPi L a b K j i0) (b + 1 - i) ⟨_, _, Wk.refl, i, rfl, by omega, hPT, ?_, ?_⟩ ?_
      · exact ⟨by simp [get, g0], by simp [get, g1], by simp [get, g2], by simp [get, g10], by simp [get, g11]⟩
      · rfl
      rintro mm tm H ⟨i, rfl, hii, hPT, ⟨g0, g1, g2, g10, g11⟩, rfl⟩
      obtain ⟨p1, p2, p3⟩ : a + 1 ≤ i ∧ i ≤ j + 1 ∧ j < b := ⟨hPT.i1, hPT.i2, hPT.j1⟩
      have hKl := hPT.same.len
      by_cases hij : i ≤ j
      · have q3 : decide ((i : Int) ≤ (j : Int)) = true := decide_eq_true (by omega)
        have hi1 : IntKind.i64.wrap ((i : Int) + 1) = ((i + 1 : Nat) : Int) := by rw [wr_i64 (by omega) (by omega)]; rfl
        have z0 : (0 : Int) ≤ (i : Int) := by omega
        have z1 : (i : Int) < (L.length : Int) := by omega
        have e0 := gI_at (L := K) (i := i) (by omega)
        have e1 := gI_at (L := K) (i := a) (by omega)
        cases q4 : decide (gI K i < gI K a) with
        | true =>
          repeat' first
            | with_reducible rfl
            | simp only [q3, q4, hi1, z0, z1, za, za1, e0, e1, w16, g0, g1, g2, g10, g11, Int.toNat_natCast, List.length_map, RS_, argsTM, stepE, stBuiltin, stBox, stAlloc, stLoad, stStore, stField, stExtract, stBin, stUn, stConv, stNilCheck, stFieldV, stIndex, stIndexAddr, stLen, stMin, stMax, stBuild, fillI, stBuildSlice, setRows, stMakeSlice, stAppend, srcR, segR, rdCells, stSlice, bnd, stArr, stCopy, stConv2, isIntV, cutR, byteRows, rowByte, binStr, Option.map_some, Option.map_none, eq_self, canTL, canT, canH, canL, patL, gcH, gcT, gcI, get_gcT, mapC, pullS, pullI, pushS, push1, pushI, pushC, pullHW, roC, ix, List.map_map, Function.comp_def, List.zip_cons_cons, List.zip_nil_left, List.zip_nil_right, List.range'_zero, List.range'_succ, rd, get, put, IV.cells, ofValue, seg, spl, ldIV, binInt, eqI, cellsEq, leafEq, resI, flat, isT, upd, up1, nextM, cR, ptrC, nAl, isAl, ST_, Nat.reduceAdd, Nat.reduceMul, Nat.reduceEqDiff, Nat.reduceLeDiff, ne_eq, reduceCtorEq, reduceIte, forall_const, implies_true, Int.reduceToNat, Int.reduceLE, Int.reduceLT, bne, Int.reduceEq, Int.reduceNe, Int.reduceNeg, Int.reduceAdd, Int.reduceSub, Int.reduceMul, Int.reduceBEq, Int.reduceBNe, Nat.reduceLT, Nat.reduceSub, WLS, ty_ag_27, ty_sl_120, ty_sz_27]
            | (with_reducible refine drawK_id ?_); refine drawK_auto hmix (by kernel_rfl) ?_
            | (with_reducible refine draw_fin ?_ ?_); · kernel_rfl
            | (with_reducible refine draw_id ?_); kernel_rfl
            | (with_reducible refine callD_id (f := 122) ?_); refine callD_of (lessW _ _) rfl rfl ?_
            | (with_reducible refine And.intro ?_ ?_; · omega)
          refine ⟨b + 1 - (i + 1), _, _, by omega, Wk.gc [0] rfl (by decide), i + 1, rfl, by omega, hPT.incI hij (of_decide_eq_true q4), ⟨?_, ?_, ?_, ?_, ?_⟩, ?_⟩ <;> (simp [Function.comp_def, get_gcT, get, put, gcI, pullI, pullS, gcH, patL, canL, canH, canTL, canT, rows_pull, ix, w16_pull, g0, g1, g2, g10, g11]; done)
        | false =>
          have hst := of_decide_eq_false q4
          repeat' first
            | with_reducible rfl
            | simp only [q3, q4, hi1, z0, z1, za, za1, e0, e1, w16, g0, g1, g2, g10, g11, Int.toNat_natCast, List.length_map, RS_, argsTM, stepE, stBuiltin, stBox, stAlloc, stLoad, stStore, stField, stExtract, stBin, stUn, stConv, stNilCheck, stFieldV, stIndex, stIndexAddr, stLen, stMin, stMax, stBuild, fillI, stBuildSlice, setRows, stMakeSlice, stAppend, srcR, segR, rdCells, stSlice, bnd, stArr, stCopy, stConv2, isIntV, cutR, byteRows, rowByte, binStr, Option.map_some, Option.map_none, eq_self, canTL, canT, canH, canL, patL, gcH, gcT, gcI, get_gcT, mapC, pullS, pullI, pushS, push1, pushI, pushC, pullHW, roC, ix, List.map_map, Function.comp_def, List.zip_cons_cons, List.zip_nil_left, List.zip_nil_right, List.range'_zero, List.range'_succ, rd, get, put, IV.cells, ofValue, seg, spl, ldIV, binInt, eqI, cellsEq, leafEq, resI, flat, isT, upd, up1, nextM, cR, ptrC, nAl, isAl, ST_, Nat.reduceAdd, Nat.reduceMul, Nat.reduceEqDiff, Nat.reduceLeDiff, ne_eq, reduceCtorEq, reduceIte, forall_const, implies_true, Int.reduceToNat, Int.reduceLE, Int.reduceLT, bne, Int.reduceEq, Int.reduceNe, Int.reduceNeg, Int.reduceAdd, Int.reduceSub, Int.reduceMul, Int.reduceBEq, Int.reduceBNe, Nat.reduceLT, Nat.reduceSub, WLS, ty_ag_27, ty_sl_120, ty_sz_27]
            | (with_reducible refine drawK_id ?_); refine drawK_auto hmix (by kernel_rfl) ?_
            | (with_reducible refine draw_fin ?_ ?_); · kernel_rfl
            | (with_reducible refine draw_id ?_); kernel_rfl
            | (with_reducible refine callD_id (f := 122) ?_); refine callD_of (lessW _ _) rfl rfl ?_
            | (with_reducible refine And.intro ?_ ?_; · omega)
          refine key i _ hii hPT (fun _ => by omega) ⟨?_, ?_, ?_, ?_, ?_⟩ <;> (simp [get, g0, g1, g2, g10, g11]; done)
      · have q3 : decide ((i : Int) ≤ (j : Int)) = false := decide_eq_false (by omega)
        repeat' first
          | with_reducible rfl
          | simp only [q3, g0, g1, g2, g10, g11, Int.toNat_natCast, List.length_map, RS_, argsTM, stepE, stBuiltin, stBox, stAlloc, stLoad, stStore, stField, stExtract, stBin, stUn, stConv, stNilCheck, stFieldV, stIndex, stIndexAddr, stLen, stMin, stMax, stBuild, fillI, stBuildSlice, setRows, stMakeSlice, stAppend, srcR, segR, rdCells, stSlice, bnd, stArr, stCopy, stConv2, isIntV, cutR, byteRows, rowByte, binStr, Option.map_some, Option.map_none, eq_self, canTL, canT, canH, canL, patL, gcH, gcT, gcI, get_gcT, mapC, pullS, pullI, pushS, push1, pushI, pushC, pullHW, roC, ix, List.map_map, Function.comp_def, List.zip_cons_cons, List.zip_nil_left, List.zip_nil_right, List.range'_zero, List.range'_succ, rd, get, put, IV.cells, ofValue, seg, spl, ldIV, binInt, eqI, cellsEq, leafEq, resI, flat, isT, upd, up1, nextM, cR, ptrC, nAl, isAl, ST_, Nat.reduceAdd, Nat.reduceMul, Nat.reduceEqDiff, Nat.reduceLeDiff, ne_eq, reduceCtorEq, reduceIte, forall_const, implies_true, Int.reduceToNat, Int.reduceLE, Int.reduceLT, bne, Int.reduceEq, Int.reduceNe, Int.reduceNeg, Int.reduceAdd, Int.reduceSub, Int.reduceMul, Int.reduceBEq, Int.reduceBNe, Nat.reduceLT, Nat.reduceSub, WLS, ty_ag_27, ty_sl_120, ty_sz_27]
          | (with_reducible refine drawK_id ?_); refine drawK_auto hmix (by kernel_rfl) ?_
          | (with_reducible refine draw_fin ?_ ?_); · kernel_rfl
          | (with_reducible refine draw_id ?_); kernel_rfl
          | (with_reducible refine callD_id (f := 122) ?_); refine callD_of (lessW _ _) rfl rfl ?_
          | (with_reducible refine And.intro ?_ ?_; · omega)
        refine key i _ hii hPT (fun _ => by omega) ⟨?_, ?_, ?_, ?_, ?_⟩ <;> (simp [get, g0, g1, g2, g10, g11]; done)
    case keyI =>
      intro i tm hii hPT hsi hT
      refine loopK_wk (by kernel_rfl) (IPj L a b K i j0) j ⟨_, _, Wk.refl, j, rfl, by omega, hPT, hsi, hT, rfl⟩ ?_
      rintro mm tm H ⟨j, rfl, hjj, hPT, hsi, ⟨g0, g1, g2, g10, g11⟩, rfl⟩
      obtain ⟨p1, p2, p3⟩ : a + 1 ≤ i ∧ i ≤ j + 1 ∧ j < b := ⟨hPT.i1, hPT.i2, hPT.j1⟩
      have hKl := hPT.same.len
      have e1 := gI_at (L := K) (i := a) (by omega)
      have z0 : (0 : Int) ≤ (j : Int) := by omega
      have z1 : (j : Int) < (L.length : Int) := by omega
      have e0 := gI_at (L := K) (i := j) (by omega)
      by_cases hij : i ≤ j
      · have q3 : decide ((i : Int) ≤ (j : Int)) = true := decide_eq_true (by omega)
        have hj1 : IntKind.i64.wrap ((j : Int) - 1) = ((j - 1 : Nat) : Int) := by rw [wr_i64 (by omega) (by omega)]; omega
        cases q4 : decide (gI K j < gI K a) with
        | false =>
          repeat' first
            | with_reducible rfl
            | simp only [q3, q4, hj1, z0, z1, za, za1, e0, e1, w16, g0, g1, g2, g10, g11, Int.toNat_natCast, List.length_map, RS_, argsTM, stepE, stBuiltin, stBox, stAlloc, stLoad, stStore, stField, stExtract, stBin, stUn, stConv, stNilCheck, stFieldV, stIndex, stIndexAddr, stLen, stMin, stMax, stBuild, fillI, stBuildSlice, setRows, stMakeSlice, stAppend, srcR, segR, rdCells, stSlice, bnd, stArr, stCopy, stConv2, isIntV, cutR, byteRows, rowByte, binStr, Option.map_some, Option.map_none, eq_self, canTL, canT, canH, canL, patL, gcH, gcT, gcI, get_gcT, mapC, pullS, pullI, pushS, push1, pushI, pushC, pullHW, roC, ix, List.map_map, Function.comp_def, List.zip_cons_cons, List.zip_nil_left, List.zip_nil_right, List.range'_zero, List.range'_succ, rd, get, put, IV.cells, ofValue, seg, spl, ldIV, binInt, eqI, cellsEq, leafEq, resI, flat, isT, upd, up1, nextM, cR, ptrC, nAl, isAl, ST_, Nat.reduceAdd, Nat.reduceMul, Nat.reduceEqDiff, Nat.reduceLeDiff, ne_eq, reduceCtorEq, reduceIte, forall_const, implies_true, Int.reduceToNat, Int.reduceLE, Int.reduceLT, bne, Int.reduceEq, Int.reduceNe, Int.reduceNeg, Int.reduceAdd, Int.reduceSub, Int.reduceMul, Int.reduceBEq, Int.reduceBNe, Nat.reduceLT, Nat.reduceSub, WLS, ty_ag_27, ty_sl_120, ty_sz_27]
            | (with_reducible refine drawK_id ?_); refine drawK_auto hmix (by kernel_rfl) ?_
            | (with_reducible refine draw_fin ?_ ?_); · kernel_rfl
            | (with_reducible refine draw_id ?_); kernel_rfl
            | (with_reducible refine callD_id (f := 122) ?_); refine callD_of (lessW _ _) rfl rfl ?_
            | (with_reducible refine And.intro ?_ ?_; · omega)
          refine ⟨j - 1, _, _, by omega, Wk.gc [0] rfl (by decide), j - 1, rfl, by omega, hPT.decJ hij (of_decide_eq_false q4), fun hh => hsi hij, ⟨?_, ?_, ?_, ?_, ?_⟩, ?_⟩ <;> (simp [Function.comp_def, get_gcT, get, put, gcI, pullI, pullS, gcH, patL, canL, canH, canTL, canT, rows_pull, ix, w16_pull, g0, g1, g2, g10, g11]; done)
        | true =>
          obtain ⟨hN, hlt⟩ := hPT.next (by omega) hij (hsi hij) (of_decide_eq_true q4)
          have q5 : decide ((j : Int) < (i : Int)) = false := decide_eq_false (by omega)
          have hi1 : IntKind.i64.wrap ((i : Int) + 1) = ((i + 1 : Nat) : Int) := by rw [wr_i64 (by omega) (by omega)]; rfl
          have zi : (0 : Int) ≤ (i : Int) := by omega
          have zi1 : (i : Int) < (L.length : Int) := by omega
          have e2 := gI_at (L := K) (i := i) (by omega)
          have e3 := st_at (K := K) (i := i) (j := j) (gI K j) (by omega)
          repeat' first
            | with_reducible rfl
            | simp only [swp_rows, q3, q4, q5, hi1, hj1, z0, z1, za, za1, zi, zi1, e0, e1, e2, e3, w16, g0, g1, g2, g10, g11, Int.toNat_natCast, List.length_map, RS_, argsTM, stepE, stBuiltin, stBox, stAlloc, stLoad, stStore, stField, stExtract, stBin, stUn, stConv, stNilCheck, stFieldV, stIndex, stIndexAddr, stLen, stMin, stMax, stBuild, fillI, stBuildSlice, setRows, stMakeSlice, stAppend, srcR, segR, rdCells, stSlice, bnd, stArr, stCopy, stConv2, isIntV, cutR, byteRows, rowByte, binStr, Option.map_some, Option.map_none, eq_self, canTL, canT, canH, canL, patL, gcH, gcT, gcI, get_gcT, mapC, pullS, pullI, pushS, push1, pushI, pushC, pullHW, roC, ix, List.map_map, Function.comp_def, List.zip_cons_cons, List.zip_nil_left, List.zip_nil_right, List.range'_zero, List.range'_succ, rd, get, put, IV.cells, ofValue, seg, spl, ldIV, binInt, eqI, cellsEq, leafEq, resI, flat, isT, upd, up1, nextM, cR, ptrC, nAl, isAl, ST_, Nat.reduceAdd, Nat.reduceMul, Nat.reduceEqDiff, Nat.reduceLeDiff, ne_eq, reduceCtorEq, reduceIte, forall_const, implies_true, Int.reduceToNat, Int.reduceLE, Int.reduceLT, bne, Int.reduceEq, Int.reduceNe, Int.reduceNeg, Int.reduceAdd, Int.reduceSub, Int.reduceMul, Int.reduceBEq, Int.reduceBNe, Nat.reduceLT, Nat.reduceSub, WLS, ty_ag_27, ty_sl_120, ty_sz_27]
            | (with_reducible refine drawK_id ?_); refine drawK_auto hmix (by kernel_rfl) ?_
            | (with_reducible refine draw_fin ?_ ?_); · kernel_rfl
            | (with_reducible refine draw_id ?_); kernel_rfl
            | (with_reducible refine callD_id (f := 122) ?_); refine callD_of (lessW _ _) rfl rfl ?_
            | (with_reducible refine And.intro ?_ ?_; · omega)
          refine ⟨j - 1 + 1 - (i + 1), _, _, by omega, Wk.gc [0] rfl (by decide), swp K i j, i + 1, j - 1, rfl, hN, ⟨?_, ?_, ?_, ?_, ?_⟩, ?_⟩ <;> (simp [Function.comp_def, get_gcT, get, put, gcI, pullI, pullS, gcH, patL, canL, canH, canTL, canT, rows_pull, ix, w16_pull, g0, g1, g2, g10, g11]; done)
      · have q3 : decide ((i : Int) ≤ (j : Int)) = false := decide_eq_false (by omega)
        obtain ⟨hS, hPd⟩ := hPT.fin (by omega) (by omega)
        have q5 : decide ((j : Int) < (i : Int)) = true := decide_eq_true (by omega)
        have e3 := st_at (K := K) (i := j) (j := a) (gI K a) (by omega)
        repeat' first
          | with_reducible rfl
          | simp only [swp_rows, q3, q5, z0, z1, za, za1, e0, e1, e3, w16, g0, g1, g2, g10, g11, Int.toNat_natCast, List.length_map, RS_, argsTM, stepE, stBuiltin, stBox, stAlloc, stLoad, stStore, stField, stExtract, stBin, stUn, stConv, stNilCheck, stFieldV, stIndex, stIndexAddr, stLen, stMin, stMax, stBuild, fillI, stBuildSlice, setRows, stMakeSlice, stAppend, srcR, segR, rdCells, stSlice, bnd, stArr, stCopy, stConv2, isIntV, cutR, byteRows, rowByte, binStr, Option.map_some, Option.map_none, eq_self, canTL, canT, canH, canL, patL, gcH, gcT, gcI, get_gcT, mapC, pullS, pullI, pushS, push1, pushI, pushC, pullHW, roC, ix, List.map_map, Function.comp_def, List.zip_cons_cons, List.zip_nil_left, List.zip_nil_right, List.range'_zero, List.range'_succ, rd, get, put, IV.cells, ofValue, seg, spl, ldIV, binInt, eqI, cellsEq, leafEq, resI, flat, isT, upd, up1, nextM, cR, ptrC, nAl, isAl, ST_, Nat.reduceAdd, Nat.reduceMul, Nat.reduceEqDiff, Nat.reduceLeDiff, ne_eq, reduceCtorEq, reduceIte, forall_const, implies_true, Int.reduceToNat, Int.reduceLE, Int.reduceLT, bne, Int.reduceEq, Int.reduceNe, Int.reduceNeg, Int.reduceAdd, Int.reduceSub, Int.reduceMul, Int.reduceBEq, Int.reduceBNe, Nat.reduceLT, Nat.reduceSub, WLS, ty_ag_27, ty_sl_120, ty_sz_27]
          | (with_reducible refine drawK_id ?_); refine drawK_auto hmix (by kernel_rfl) ?_
          | (with_reducible refine draw_fin ?_ ?_); · kernel_rfl
          | (with_reducible refine draw_id ?_); kernel_rfl
          | (with_reducible refine callD_id (f := 122) ?_); refine callD_of (lessW _ _) rfl rfl ?_
          | (refine ⟨_, _, (WkR.gc [0] rfl (by decide)).to ?_ ?_, by simp, swp K j a, j, false, rfl, hS, hPd, rfl⟩ <;> (first | (simp [gcI, pullI, pullS]; done) | (simp [Function.comp_def, get_gcT, get, put, gcI, pullI, pullS, gcH, patL, canL, canH, canTL, canT, rows_pull, ix, w16_pull]; done)))
          | (with_reducible refine And.intro ?_ ?_; · omega)
end Go.Ev
