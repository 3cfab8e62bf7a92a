/- A part of the proof: contracts of the functions that the statement reaches. -/
import Derived.Test.YtnmobamjinponaaEvC
import Derived.Test.YtnmobamjinponaaN1
namespace Go.Ev
open Go.Proofs
set_option maxRecDepth 100000
set_option linter.unusedSimpArgs false
set_option linter.unusedVariables false
set_option maxHeartbeats 4000000
open Srt
def ltV (a b : Int) : Bool := decide (a < b)
theorem koV : KO ltV (fun _ => True) := ⟨fun a => by simp [ltV], fun a b c h1 h2 => by simp [ltV] at *; omega, fun a b _ _ h1 h2 => by simp [ltV] at *; omega⟩
def rV (R : List VEN) : Chunk := .rows false 3 (R.map eV)
theorem eV_def (e : VEN) : eV e = [.raw (.int .u16 e.v), .raw (.int .u32 e.m), .raw (.int .u32 e.u)] := rfl
theorem atI_at {E : Type} {key : E → Int} {R : List E} {k : Int} {i : Nat} {e : E} (h : R[i]? = some e) (hk : key e = k) (h0 : ∀ (j : Nat) (e : E), j < i → R[j]? = some e → key e ≠ k) : atI key R k = (i : Int) := by
  unfold atI
  have : R.findIdx? (fun e => decide (key e = k)) = some i := by
    rw [List.findIdx?_eq_some_iff_getElem]
    obtain ⟨hl, he⟩ := List.getElem?_eq_some_iff.1 h
    refine ⟨hl, by rw [he]; simpa using hk, fun j hj => ?_⟩
    have := h0 j (R[j]'(by omega)) hj (List.getElem?_eq_getElem (by omega))
    simpa using this
  rw [this]
def I15 (R : List VEN) (k : Int) (mm : Nat) (tm : TM) (H : Heap) : Prop := ∃ i : Nat, mm = R.length - i ∧ i ≤ R.length ∧ (∀ (j : Nat) (e : VEN), j < i → R[j]? = some e → e.v ≠ k) ∧ get tm 0 = .s (.slice 0 0 R.length) ∧ get tm 1 = .s (.raw (.int .u16 k)) ∧ get tm 5 = .s (.raw (.int .i64 (i : Int))) ∧
  H = [rV R]
theorem f15 (R : List VEN) (hb : R.length ≤ 100000) (k : Int) : FunR Try.prog 15 [rV R] [.s (.slice 0 0 R.length), kV k] (.s (.raw (.int .i64 (atI VEN.v R k)))) := by
  refine funR_of rfl fun X => ?_
  unfold rV kV
  refine callK_inline (rs := [.tmp 4]) (n := 20) Try.func15 rfl rfl rfl (by kernel_rfl) (by kernel_rfl) (by simp only [List.length_cons, List.length_nil]; decide) ?_
  repeat' first
    | with_reducible rfl
    | simp only [*, RS_, argsTM, stepE, stBuiltin, stBox, stAlloc, stLoad, stStore, stField, stExtract, stBin, stUn, stConv, stNilCheck, stFieldV, stIndex, stIndexAddr, stLen, stMin, stMax, stBuild, fillI, stBuildSlice, setRows, stMakeSlice, stAppend, srcR, segR, rdCells, stSlice, bnd, stArr, stCopy, stConv2, isIntV, cutR, byteRows, rowByte, binStr, Option.map_some, Option.map_none, eq_self, canTL, canT, canH, canL, patL, gcH, gcT, gcI, get_gcT, mapC, pullS, pullI, pushS, push1, pushI, pushC, pullHW, roC, ix, List.map_map, Function.comp_def, List.zip_cons_cons, List.zip_nil_left, List.zip_nil_right, List.range'_zero, List.range'_succ, rd, get, put, IV.cells, ofValue, seg, spl, ldIV, binInt, eqI, cellsEq, leafEq, resI, flat, isT, upd, up1, nextM, cR, ptrC, nAl, isAl, ST_, Nat.reduceAdd, Nat.reduceMul, Nat.reduceEqDiff, Nat.reduceLeDiff, ne_eq, reduceCtorEq, reduceIte, forall_const, implies_true, Int.reduceToNat, Int.reduceLE, Int.reduceLT, bne, Int.reduceEq, Int.reduceNe, Int.reduceNeg, Int.reduceAdd, Int.reduceSub, Int.reduceMul, Int.reduceBEq, Int.reduceBNe, Nat.reduceLT, Nat.reduceSub, WLS, ty_ag_27, ty_of_42_0, ty_sl_26, ty_sz_27]
    | with_reducible refine gdb_split (fun h => ?_) (fun h => ?_)
    | (with_reducible refine drawK_id ?_); refine drawK_auto hmix (by kernel_rfl) ?_
    | (with_reducible refine draw_fin ?_ ?_); · kernel_rfl
    | (with_reducible refine draw_id ?_); kernel_rfl
    | (with_reducible refine And.intro ?_ ?_; · omega)
  refine loopK_wk (by kernel_rfl) (I15 R k) R.length ⟨_, _, Wk.refl, 0, by omega, by omega, fun j e hj => by omega, ?_, ?_, ?_, ?_⟩ ?_ <;> first | with_reducible rfl | rfl | skip
  rintro mm tm H ⟨i, rfl, hi, h0, g0, g1, g5, rfl⟩
  unfold rV
  have hw : IntKind.i64.wrap ((i : Int) + 1) = ((i + 1 : Nat) : Int) := by rw [wr_i64 (by omega) (by omega)]; rfl
  by_cases hq : i < R.length
  · have q1 : decide ((i : Int) < (R.length : Int)) = true := decide_eq_true (by omega)
    have b0 : (0 : Int) ≤ (i : Int) := by omega
    have b2 : (i : Int) < (R.length : Int) := by omega
    obtain ⟨x, hx⟩ : ∃ x, R[i]? = some x := ⟨_, List.getElem?_eq_getElem hq⟩
    have hxl : (R.map eV)[i]? = some (eV x) := by rw [List.getElem?_map, hx]; rfl
    by_cases hv : x.v = k
    · have hv1 : (x.v == k) = true := by simpa using hv
      have hat : atI VEN.v R k = (i : Int) := atI_at hx hv h0
      rw [hat]
      repeat' first
        | with_reducible rfl
        | simp only [q1, b0, b2, hxl, hw, hv1, g0, g1, g5, List.length_map, Int.toNat_natCast, eV_def, RS_, argsTM, stepE, stBuiltin, stBox, stAlloc, stLoad, stStore, stField, stExtract, stBin, stUn, stConv, stNilCheck, stFieldV, stIndex, stIndexAddr, stLen, stMin, stMax, stBuild, fillI, stBuildSlice, setRows, stMakeSlice, stAppend, srcR, segR, rdCells, stSlice, bnd, stArr, stCopy, stConv2, isIntV, cutR, byteRows, rowByte, binStr, Option.map_some, Option.map_none, eq_self, canTL, canT, canH, canL, patL, gcH, gcT, gcI, get_gcT, mapC, pullS, pullI, pushS, push1, pushI, pushC, pullHW, roC, ix, List.map_map, Function.comp_def, List.zip_cons_cons, List.zip_nil_left, List.zip_nil_right, List.range'_zero, List.range'_succ, rd, get, put, IV.cells, ofValue, seg, spl, ldIV, binInt, eqI, cellsEq, leafEq, resI, flat, isT, upd, up1, nextM, cR, ptrC, nAl, isAl, ST_, Nat.reduceAdd, Nat.reduceMul, Nat.reduceEqDiff, Nat.reduceLeDiff, ne_eq, reduceCtorEq, reduceIte, forall_const, implies_true, Int.reduceToNat, Int.reduceLE, Int.reduceLT, bne, Int.reduceEq, Int.reduceNe, Int.reduceNeg, Int.reduceAdd, Int.reduceSub, Int.reduceMul, Int.reduceBEq, Int.reduceBNe, Nat.reduceLT, Nat.reduceSub, WLS, ty_ag_27, ty_of_42_0, ty_sl_26, ty_sz_27]
        | (with_reducible refine drawK_id ?_); refine drawK_auto hmix (by kernel_rfl) ?_
        | (with_reducible refine draw_fin ?_ ?_); · kernel_rfl
        | (with_reducible refine draw_id ?_); kernel_rfl
        | (with_reducible refine And.intro ?_ ?_; · omega)
    · have hv1 : (x.v == k) = false := by simpa using hv
      have nx : ∀ (j : Nat) (e : VEN), j < i + 1 → R[j]? = some e → e.v ≠ k := fun j e hj he => by
        rcases Nat.lt_or_eq_of_le (Nat.le_of_lt_succ hj) with h | h
        · exact h0 j e h he
        · subst h; rw [hx] at he; cases he; exact hv
      repeat' first
        | with_reducible rfl
        | simp only [q1, b0, b2, hxl, hw, hv1, g0, g1, g5, List.length_map, Int.toNat_natCast, eV_def, RS_, argsTM, stepE, stBuiltin, stBox, stAlloc, stLoad, stStore, stField, stExtract, stBin, stUn, stConv, stNilCheck, stFieldV, stIndex, stIndexAddr, stLen, stMin, stMax, stBuild, fillI, stBuildSlice, setRows, stMakeSlice, stAppend, srcR, segR, rdCells, stSlice, bnd, stArr, stCopy, stConv2, isIntV, cutR, byteRows, rowByte, binStr, Option.map_some, Option.map_none, eq_self, canTL, canT, canH, canL, patL, gcH, gcT, gcI, get_gcT, mapC, pullS, pullI, pushS, push1, pushI, pushC, pullHW, roC, ix, List.map_map, Function.comp_def, List.zip_cons_cons, List.zip_nil_left, List.zip_nil_right, List.range'_zero, List.range'_succ, rd, get, put, IV.cells, ofValue, seg, spl, ldIV, binInt, eqI, cellsEq, leafEq, resI, flat, isT, upd, up1, nextM, cR, ptrC, nAl, isAl, ST_, Nat.reduceAdd, Nat.reduceMul, Nat.reduceEqDiff, Nat.reduceLeDiff, ne_eq, reduceCtorEq, reduceIte, forall_const, implies_true, Int.reduceToNat, Int.reduceLE, Int.reduceLT, bne, Int.reduceEq, Int.reduceNe, Int.reduceNeg, Int.reduceAdd, Int.reduceSub, Int.reduceMul, Int.reduceBEq, Int.reduceBNe, Nat.reduceLT, Nat.reduceSub, WLS, ty_ag_27, ty_of_42_0, ty_sl_26, ty_sz_27]
        | (with_reducible refine drawK_id ?_); refine drawK_auto hmix (by kernel_rfl) ?_
        | (with_reducible refine draw_fin ?_ ?_); · kernel_rfl
        | (with_reducible refine draw_id ?_); kernel_rfl
        | (with_reducible refine And.intro ?_ ?_; · omega)
      refine ⟨R.length - (i + 1), _, _, by omega, Wk.gc [0] rfl (by decide), i + 1, rfl, by omega, nx, ?_, ?_, ?_, ?_⟩ <;> first | with_reducible rfl | (simp [Function.comp_def, get_gcT, get, put, gcI, pullI, pullS, gcH, patL, canL, canH, canTL, canT, rows_pull, ix, g0, g1, g5]; done) | (simp [Function.comp_def, get_gcT, get, put, gcI, pullI, pullS, gcH, patL, canL, canH, canTL, canT, rows_pull, ix, rV, eV_pull]; done)
  · have q1 : decide ((i : Int) < (R.length : Int)) = false := decide_eq_false (by omega)
    have hat : atI VEN.v R k = -1 := atI_none fun e he => by
      obtain ⟨j, hj⟩ := List.getElem?_of_mem he
      exact h0 j e (by have := (List.getElem?_eq_some_iff.1 hj).1; omega) hj
    rw [hat]
    repeat' first
      | with_reducible rfl
      | simp only [q1, g0, g1, g5, List.length_map, RS_, argsTM, stepE, stBuiltin, stBox, stAlloc, stLoad, stStore, stField, stExtract, stBin, stUn, stConv, stNilCheck, stFieldV, stIndex, stIndexAddr, stLen, stMin, stMax, stBuild, fillI, stBuildSlice, setRows, stMakeSlice, stAppend, srcR, segR, rdCells, stSlice, bnd, stArr, stCopy, stConv2, isIntV, cutR, byteRows, rowByte, binStr, Option.map_some, Option.map_none, eq_self, canTL, canT, canH, canL, patL, gcH, gcT, gcI, get_gcT, mapC, pullS, pullI, pushS, push1, pushI, pushC, pullHW, roC, ix, List.map_map, Function.comp_def, List.zip_cons_cons, List.zip_nil_left, List.zip_nil_right, List.range'_zero, List.range'_succ, rd, get, put, IV.cells, ofValue, seg, spl, ldIV, binInt, eqI, cellsEq, leafEq, resI, flat, isT, upd, up1, nextM, cR, ptrC, nAl, isAl, ST_, Nat.reduceAdd, Nat.reduceMul, Nat.reduceEqDiff, Nat.reduceLeDiff, ne_eq, reduceCtorEq, reduceIte, forall_const, implies_true, Int.reduceToNat, Int.reduceLE, Int.reduceLT, bne, Int.reduceEq, Int.reduceNe, Int.reduceNeg, Int.reduceAdd, Int.reduceSub, Int.reduceMul, Int.reduceBEq, Int.reduceBNe, Nat.reduceLT, Nat.reduceSub, WLS, ty_ag_27, ty_of_42_0, ty_sl_26, ty_sz_27]
      | (with_reducible refine drawK_id ?_); refine drawK_auto hmix (by kernel_rfl) ?_
      | (with_reducible refine draw_fin ?_ ?_); · kernel_rfl
      | (with_reducible refine draw_id ?_); kernel_rfl
      | (with_reducible refine And.intro ?_ ?_; · omega)
theorem seg_take {R : List VEN} {k : Nat} (h : k ≤ R.length) : segR (R.map eV) 0 k = some ((R.take k).map eV) := by
  unfold segR
  split
  · rename_i h1; rw [h1.2, List.length_map, List.take_length]
  · rw [if_pos (by rw [List.length_map]; omega), List.drop_zero, List.map_take]
theorem seg_drop {R : List VEN} {k : Nat} (h : k ≤ R.length) : segR (R.map eV) k (R.length - k) = some ((R.drop k).map eV) := by
  unfold segR
  split
  · rename_i h1; rw [h1.1, List.drop_zero]
  · rw [if_pos (by rw [List.length_map]; omega), List.map_drop, List.take_of_length_le (by simp)]
theorem seg_all {R : List (List SV)} {n : Nat} (h : n = R.length) : segR R 0 n = some R := by subst h; unfold segR; rw [if_pos ⟨rfl, rfl⟩]
theorem seg_nil : segR [] 0 0 = some [] := rfl
theorem seg_one (x : List SV) : segR [x] 0 1 = some [x] := rfl
def cutE (R : List VEN) (a : Nat) : List VEN := R.take a ++ R.drop (a + 1)
theorem cut_len {R : List VEN} {a : Nat} (h : a < R.length) : (cutE R a).length = R.length - 1 := by simp [cutE]; omega
theorem f13_no (R : List VEN) (hb : R.length ≤ 100000) (k : Int) (h : atI VEN.v R k = -1) : FunW Try.prog 13 [rV R] [] [.s (.slice 0 0 R.length), kV k] fun r Hn => r = .t [.s (.slice 0 0 R.length), .s (.raw (.int .i64 11))] ∧ Hn = [] := by
  refine funW_of fun X => ?_
  have c15 := f15 R hb k
  rw [h] at c15
  unfold rV at c15 ⊢
  unfold kV at c15 ⊢
  refine callK_inline (rs := [.tmp 4, .tmp 5]) (n := 23) Try.func13 rfl rfl rfl (by kernel_rfl) (by kernel_rfl) (by simp only [List.length_cons, List.length_nil]; decide) ?_
  repeat' first
    | with_reducible rfl
    | simp only [List.length_map, RS_, argsTM, stepE, stBuiltin, stBox, stAlloc, stLoad, stStore, stField, stExtract, stBin, stUn, stConv, stNilCheck, stFieldV, stIndex, stIndexAddr, stLen, stMin, stMax, stBuild, fillI, stBuildSlice, setRows, stMakeSlice, stAppend, srcR, segR, rdCells, stSlice, bnd, stArr, stCopy, stConv2, isIntV, cutR, byteRows, rowByte, binStr, Option.map_some, Option.map_none, eq_self, canTL, canT, canH, canL, patL, gcH, gcT, gcI, get_gcT, mapC, pullS, pullI, pushS, push1, pushI, pushC, pullHW, roC, ix, List.map_map, Function.comp_def, List.zip_cons_cons, List.zip_nil_left, List.zip_nil_right, List.range'_zero, List.range'_succ, rd, get, put, IV.cells, ofValue, seg, spl, ldIV, binInt, eqI, cellsEq, leafEq, resI, flat, isT, upd, up1, nextM, cR, ptrC, nAl, isAl, ST_, Nat.reduceAdd, Nat.reduceMul, Nat.reduceEqDiff, Nat.reduceLeDiff, ne_eq, reduceCtorEq, reduceIte, forall_const, implies_true, Int.reduceToNat, Int.reduceLE, Int.reduceLT, bne, Int.reduceEq, Int.reduceNe, Int.reduceNeg, Int.reduceAdd, Int.reduceSub, Int.reduceMul, Int.reduceBEq, Int.reduceBNe, Nat.reduceLT, Nat.reduceSub, WLS, ty_by_26, ty_sl_26, ty_sr_26, ty_zs_26]
    | (with_reducible refine drawK_id ?_); refine drawK_auto hmix (by kernel_rfl) ?_
    | (with_reducible refine draw_fin ?_ ?_); · kernel_rfl
    | (with_reducible refine draw_id ?_); kernel_rfl
    | ((with_reducible refine callK_id (f := 15) ?_); refine callK_funR [0] (r := .s (.raw (.int .i64 (-1)))) (by simp [pullH, roC, pullI, pullS, ix, eV_pull, Function.comp_def]; exact c15) rfl ?_)
    | exact ⟨.t [.s (.slice 0 0 (R.length)), .s (.raw (.int .i64 (11)))], [], WkR.to (WkR.gc [0] rfl (by decide)) (by simp [gcI, pullI, pullS, ix]; try rfl) (by simp [gcH, rows_pull, pullS, ix, mapC, eV_pull, cutE, Function.comp_def]; try (intros; rfl)), by simp, rfl, rfl⟩
    | (with_reducible refine And.intro ?_ ?_; · omega)
theorem f13_yes (R : List VEN) (hb : R.length ≤ 100000) (k : Int) (a : Nat) (ha : a < R.length) (h : atI VEN.v R k = (a : Int)) : FunW Try.prog 13 [rV R] [] [.s (.slice 0 0 R.length), kV k] fun r Hn => r = .t [.s (.slice 1 0 (cutE R a).length), .s (.raw (.int .i64 0))] ∧ Hn = [.rows true 3 ((cutE R a).map eV)] := by
  refine funW_of fun X => ?_
  have c15 := f15 R hb k
  rw [h] at c15
  unfold rV at c15 ⊢
  have s1 := seg_take (show a ≤ R.length by omega)
  have s2 := seg_drop (show a + 1 ≤ R.length by omega)
  have s3 : segR ((R.take a).map eV) 0 a = some ((R.take a).map eV) := seg_all (by simp; omega)
  have hw : IntKind.i64.wrap ((a : Int) + 1) = ((a + 1 : Nat) : Int) := by rw [wr_i64 (by omega) (by omega)]; rfl
  have z0 : decide ((a : Int) < 0) = false := decide_eq_false (by omega)
  have b1 : (0 : Int) ≤ (a : Int) := by omega
  have b2 : (a : Int) ≤ (R.length : Int) := by omega
  have b3 : (0 : Int) ≤ ((a + 1 : Nat) : Int) := by omega
  have b4 : ((a + 1 : Nat) : Int) ≤ (R.length : Int) := by omega
  have l1 : ((R.take a).map eV).length = a := by simp; omega
  have l2 : ((R.drop (a + 1)).map eV).length = R.length - (a + 1) := by simp
  have hz : a + (R.length - (a + 1)) = R.length - 1 := by omega
  rw [cut_len ha]
  unfold kV at c15 ⊢
  refine callK_inline (rs := [.tmp 4, .tmp 5]) (n := 23) Try.func13 rfl rfl rfl (by kernel_rfl) (by kernel_rfl) (by simp only [List.length_cons, List.length_nil]; decide) ?_
  repeat' first
    | with_reducible rfl
    | simp only [s1, s2, s3, hw, z0, b1, b2, b3, b4, l1, l2, seg_nil, Int.toNat_natCast, Nat.sub_zero, hz, List.length_map, RS_, argsTM, stepE, stBuiltin, stBox, stAlloc, stLoad, stStore, stField, stExtract, stBin, stUn, stConv, stNilCheck, stFieldV, stIndex, stIndexAddr, stLen, stMin, stMax, stBuild, fillI, stBuildSlice, setRows, stMakeSlice, stAppend, srcR, rdCells, stSlice, bnd, stArr, stCopy, stConv2, isIntV, cutR, byteRows, rowByte, binStr, Option.map_some, Option.map_none, eq_self, canTL, canT, canH, canL, patL, gcH, gcT, gcI, get_gcT, mapC, pullS, pullI, pushS, push1, pushI, pushC, pullHW, roC, ix, List.map_map, Function.comp_def, List.zip_cons_cons, List.zip_nil_left, List.zip_nil_right, List.range'_zero, List.range'_succ, rd, get, put, IV.cells, ofValue, seg, spl, ldIV, binInt, eqI, cellsEq, leafEq, resI, flat, isT, upd, up1, nextM, cR, ptrC, nAl, isAl, ST_, Nat.reduceAdd, Nat.reduceMul, Nat.reduceEqDiff, Nat.reduceLeDiff, ne_eq, reduceCtorEq, reduceIte, forall_const, implies_true, Int.reduceToNat, Int.reduceLE, Int.reduceLT, bne, Int.reduceEq, Int.reduceNe, Int.reduceNeg, Int.reduceAdd, Int.reduceSub, Int.reduceMul, Int.reduceBEq, Int.reduceBNe, Nat.reduceLT, Nat.reduceSub, WLS, ty_by_26, ty_sl_26, ty_sr_26, ty_zs_26]
    | (with_reducible refine drawK_id ?_); refine drawK_auto hmix (by kernel_rfl) ?_
    | (with_reducible refine draw_fin ?_ ?_); · kernel_rfl
    | (with_reducible refine draw_id ?_); kernel_rfl
    | ((with_reducible refine callK_id (f := 15) ?_); refine callK_funR [0] (r := .s (.raw (.int .i64 (a : Int)))) (by simp [pullH, roC, pullI, pullS, ix, eV_pull, Function.comp_def]; exact c15) rfl ?_)
    | exact ⟨.t [.s (.slice 1 0 (R.length - 1)), .s (.raw (.int .i64 (0)))], [.rows true 3 ((cutE R a).map eV)], WkR.to (WkR.gc [0, 3] rfl (by decide)) (by simp [gcI, pullI, pullS, ix]; try rfl) (by simp [gcH, rows_pull, pullS, ix, mapC, eV_pull, cutE, Function.comp_def]; try (intros; rfl)), by simp, rfl, rfl⟩
    | exact ⟨.t [.s (.slice 1 0 (R.length - 1)), .s (.raw (.int .i64 (0)))], [.rows true 3 ((cutE R a).map eV)], WkR.to (WkR.gc [0, 4] rfl (by decide)) (by simp [gcI, pullI, pullS, ix]; try rfl) (by simp [gcH, rows_pull, pullS, ix, mapC, eV_pull, cutE, Function.comp_def]; try (intros; rfl)), by simp, rfl, rfl⟩
    | exact ⟨.t [.s (.slice 1 0 (R.length - 1)), .s (.raw (.int .i64 (0)))], [.rows true 3 ((cutE R a).map eV)], WkR.to (WkR.gc [0, 2] rfl (by decide)) (by simp [gcI, pullI, pullS, ix]; try rfl) (by simp [gcH, rows_pull, pullS, ix, mapC, eV_pull, cutE, Function.comp_def]; try (intros; rfl)), by simp, rfl, rfl⟩
    | (with_reducible refine And.intro ?_ ?_; · omega)
def insV (R : List VEN) (e : VEN) : List VEN := ins VEN.v ltV R e
theorem f17_bad (R : List VEN) (e : VEN) (m0 : 0 ≤ e.m) (u0 : 0 ≤ e.u) (c : Int) (hc : goodV e.v e.m e.u = c) (h0 : (c == 0) = false) : FunW Try.prog 17 [rV R] [] [.s (.slice 0 0 R.length), .a (eV e)] fun r Hn => r = .t [.s (.slice 0 0 R.length), .s (.raw (.int .i64 c))] ∧ Hn = [] := by
  refine funW_of fun X => ?_
  have c49 := f49 e m0 u0
  rw [hc] at c49
  unfold rV
  refine callK_inline (rs := [.tmp 4, .tmp 5]) (n := 62) Try.func17 rfl rfl rfl (by kernel_rfl) (by kernel_rfl) (by simp only [List.length_cons, List.length_nil]; decide) ?_
  repeat' first
    | with_reducible rfl
    | simp only [h0, eV_def, List.length_map, RS_, argsTM, stepE, stBuiltin, stBox, stAlloc, stLoad, stStore, stField, stExtract, stBin, stUn, stConv, stNilCheck, stFieldV, stIndex, stIndexAddr, stLen, stMin, stMax, stBuild, fillI, stBuildSlice, setRows, stMakeSlice, stAppend, srcR, segR, rdCells, stSlice, bnd, stArr, stCopy, stConv2, isIntV, cutR, byteRows, rowByte, binStr, Option.map_some, Option.map_none, eq_self, canTL, canT, canH, canL, patL, gcH, gcT, gcI, get_gcT, mapC, pullS, pullI, pushS, push1, pushI, pushC, pullHW, roC, ix, List.map_map, Function.comp_def, List.zip_cons_cons, List.zip_nil_left, List.zip_nil_right, List.range'_zero, List.range'_succ, rd, get, put, IV.cells, ofValue, seg, spl, ldIV, binInt, eqI, cellsEq, leafEq, resI, flat, isT, upd, up1, nextM, cR, ptrC, nAl, isAl, ST_, Nat.reduceAdd, Nat.reduceMul, Nat.reduceEqDiff, Nat.reduceLeDiff, ne_eq, reduceCtorEq, reduceIte, forall_const, implies_true, Int.reduceToNat, Int.reduceLE, Int.reduceLT, bne, Int.reduceEq, Int.reduceNe, Int.reduceNeg, Int.reduceAdd, Int.reduceSub, Int.reduceMul, Int.reduceBEq, Int.reduceBNe, Nat.reduceLT, Nat.reduceSub, WLS, ty_ag_27, ty_ag_42, ty_by_26, ty_of_42_0, ty_sl_26, ty_sr_26, ty_sz_27, ty_sz_42, ty_zs_26]
    | (with_reducible refine drawK_id ?_); refine drawK_auto hmix (by kernel_rfl) ?_
    | (with_reducible refine draw_fin ?_ ?_); · kernel_rfl
    | (with_reducible refine draw_id ?_); kernel_rfl
    | ((with_reducible refine callK_id (f := 49) ?_); refine callK_fun c49 rfl rfl ?_)
    | exact ⟨.t [.s (.slice 0 0 (R.length)), .s (.raw (.int .i64 (c)))], [], WkR.to (WkR.gc [0] rfl (by decide)) (by simp [gcI, pullI, pullS, ix]; try rfl) (by simp [gcH, rows_pull, pullS, ix, mapC, eV_pull, cutE, Function.comp_def]; try (intros; rfl)), by simp, rfl, rfl⟩
    | (with_reducible refine And.intro ?_ ?_; · omega)
theorem f17_old (R : List VEN) (hb : R.length ≤ 100000) (e : VEN) (m0 : 0 ≤ e.m) (u0 : 0 ≤ e.u) (hg : goodV e.v e.m e.u = 0) (a : Nat) (ha : a < R.length) (h : atI VEN.v R e.v = (a : Int)) : FunW Try.prog 17 [rV R] [] [.s (.slice 0 0 R.length), .a (eV e)] fun r Hn => r = .t [.s (.slice 1 0 R.length), .s (.raw (.int .i64 0))] ∧ Hn = [.rows true 3 ((R.set a e).map eV)] := by
  refine funW_of fun X => ?_
  have c49 := f49 e m0 u0
  have c15 := f15 R hb e.v
  rw [hg] at c49
  rw [h] at c15
  unfold rV kV at c15
  unfold rV
  have s1 : segR (R.map eV) 0 R.length = some (R.map eV) := seg_all (by simp)
  have z0 : decide ((0 : Int) ≤ (a : Int)) = true := decide_eq_true (by omega)
  have b1 : (0 : Int) ≤ (a : Int) := by omega
  have b2 : (a : Int) < (R.length : Int) := by omega
  obtain ⟨x, hx⟩ : ∃ x, R[a]? = some x := ⟨_, List.getElem?_eq_getElem ha⟩
  have hxl : (R.map eV)[a]? = some (eV x) := by rw [List.getElem?_map, hx]; rfl
  have hset : (R.map eV).set a (eV e) = (R.set a e).map eV := List.map_set.symm
  refine callK_inline (rs := [.tmp 4, .tmp 5]) (n := 62) Try.func17 rfl rfl rfl (by kernel_rfl) (by kernel_rfl) (by simp only [List.length_cons, List.length_nil]; decide) ?_
  repeat' first
    | with_reducible rfl
    | simp only [s1, z0, b1, b2, hxl, hset, eV_len, seg_nil, Int.toNat_natCast, List.length_map, eV_def, RS_, argsTM, stepE, stBuiltin, stBox, stAlloc, stLoad, stStore, stField, stExtract, stBin, stUn, stConv, stNilCheck, stFieldV, stIndex, stIndexAddr, stLen, stMin, stMax, stBuild, fillI, stBuildSlice, setRows, stMakeSlice, stAppend, srcR, rdCells, stSlice, bnd, stArr, stCopy, stConv2, isIntV, cutR, byteRows, rowByte, binStr, Option.map_some, Option.map_none, eq_self, canTL, canT, canH, canL, patL, gcH, gcT, gcI, get_gcT, mapC, pullS, pullI, pushS, push1, pushI, pushC, pullHW, roC, ix, List.map_map, Function.comp_def, List.zip_cons_cons, List.zip_nil_left, List.zip_nil_right, List.range'_zero, List.range'_succ, rd, get, put, IV.cells, ofValue, seg, spl, ldIV, binInt, eqI, cellsEq, leafEq, resI, flat, isT, upd, up1, nextM, cR, ptrC, nAl, isAl, ST_, Nat.reduceAdd, Nat.reduceMul, Nat.reduceEqDiff, Nat.reduceLeDiff, ne_eq, reduceCtorEq, reduceIte, forall_const, implies_true, Int.reduceToNat, Int.reduceLE, Int.reduceLT, bne, Int.reduceEq, Int.reduceNe, Int.reduceNeg, Int.reduceAdd, Int.reduceSub, Int.reduceMul, Int.reduceBEq, Int.reduceBNe, Nat.reduceLT, Nat.reduceSub, WLS, ty_ag_27, ty_ag_42, ty_by_26, ty_of_42_0, ty_sl_26, ty_sr_26, ty_sz_27, ty_sz_42, ty_zs_26]
    | (with_reducible refine drawK_id ?_); refine drawK_auto hmix (by kernel_rfl) ?_
    | (with_reducible refine draw_fin ?_ ?_); · kernel_rfl
    | (with_reducible refine draw_id ?_); kernel_rfl
    | ((with_reducible refine callK_id (f := 49) ?_); refine callK_fun c49 rfl rfl ?_)
    | ((with_reducible refine callK_id (f := 15) ?_); refine callK_funR [0] (r := .s (.raw (.int .i64 (a : Int)))) (by simp [pullH, roC, pullI, pullS, ix, eV_pull, Function.comp_def]; exact c15) rfl ?_)
    | exact ⟨.t [.s (.slice 1 0 (R.length)), .s (.raw (.int .i64 (0)))], [.rows true 3 ((R.set a e).map eV)], WkR.to (WkR.gc [0, 3] rfl (by decide)) (by simp [gcI, pullI, pullS, ix]; try rfl) (by simp [gcH, rows_pull, pullS, ix, mapC, eV_pull, cutE, Function.comp_def]; try (intros; rfl)), by simp, rfl, rfl⟩
    | exact ⟨.t [.s (.slice 1 0 (R.length)), .s (.raw (.int .i64 (0)))], [.rows true 3 ((R.set a e).map eV)], WkR.to (WkR.gc [0, 4] rfl (by decide)) (by simp [gcI, pullI, pullS, ix]; try rfl) (by simp [gcH, rows_pull, pullS, ix, mapC, eV_pull, cutE, Function.comp_def]; try (intros; rfl)), by simp, rfl, rfl⟩
    | exact ⟨.t [.s (.slice 1 0 (R.length)), .s (.raw (.int .i64 (0)))], [.rows true 3 ((R.set a e).map eV)], WkR.to (WkR.gc [0, 2] rfl (by decide)) (by simp [gcI, pullI, pullS, ix]; try rfl) (by simp [gcH, rows_pull, pullS, ix, mapC, eV_pull, cutE, Function.comp_def]; try (intros; rfl)), by simp, rfl, rfl⟩
    | (with_reducible refine And.intro ?_ ?_; · omega)
theorem f17_full (R : List VEN) (hb : R.length ≤ 100000) (e : VEN) (m0 : 0 ≤ e.m) (u0 : 0 ≤ e.u) (hg : goodV e.v e.m e.u = 0) (h : atI VEN.v R e.v = -1) (hf : 16 ≤ R.length) : FunW Try.prog 17 [rV R] [] [.s (.slice 0 0 R.length), .a (eV e)] fun r Hn => r = .t [.s (.slice 0 0 R.length), .s (.raw (.int .i64 13))] ∧ Hn = [] := by
  refine funW_of fun X => ?_
  have c49 := f49 e m0 u0
  have c15 := f15 R hb e.v
  rw [hg] at c49
  rw [h] at c15
  unfold rV kV at c15
  unfold rV
  have z1 : decide ((16 : Int) ≤ (R.length : Int)) = true := decide_eq_true (by omega)
  refine callK_inline (rs := [.tmp 4, .tmp 5]) (n := 62) Try.func17 rfl rfl rfl (by kernel_rfl) (by kernel_rfl) (by simp only [List.length_cons, List.length_nil]; decide) ?_
  repeat' first
    | with_reducible rfl
    | simp only [z1, eV_def, List.length_map, RS_, argsTM, stepE, stBuiltin, stBox, stAlloc, stLoad, stStore, stField, stExtract, stBin, stUn, stConv, stNilCheck, stFieldV, stIndex, stIndexAddr, stLen, stMin, stMax, stBuild, fillI, stBuildSlice, setRows, stMakeSlice, stAppend, srcR, segR, rdCells, stSlice, bnd, stArr, stCopy, stConv2, isIntV, cutR, byteRows, rowByte, binStr, Option.map_some, Option.map_none, eq_self, canTL, canT, canH, canL, patL, gcH, gcT, gcI, get_gcT, mapC, pullS, pullI, pushS, push1, pushI, pushC, pullHW, roC, ix, List.map_map, Function.comp_def, List.zip_cons_cons, List.zip_nil_left, List.zip_nil_right, List.range'_zero, List.range'_succ, rd, get, put, IV.cells, ofValue, seg, spl, ldIV, binInt, eqI, cellsEq, leafEq, resI, flat, isT, upd, up1, nextM, cR, ptrC, nAl, isAl, ST_, Nat.reduceAdd, Nat.reduceMul, Nat.reduceEqDiff, Nat.reduceLeDiff, ne_eq, reduceCtorEq, reduceIte, forall_const, implies_true, Int.reduceToNat, Int.reduceLE, Int.reduceLT, bne, Int.reduceEq, Int.reduceNe, Int.reduceNeg, Int.reduceAdd, Int.reduceSub, Int.reduceMul, Int.reduceBEq, Int.reduceBNe, Nat.reduceLT, Nat.reduceSub, WLS, ty_ag_27, ty_ag_42, ty_by_26, ty_of_42_0, ty_sl_26, ty_sr_26, ty_sz_27, ty_sz_42, ty_zs_26]
    | (with_reducible refine drawK_id ?_); refine drawK_auto hmix (by kernel_rfl) ?_
    | (with_reducible refine draw_fin ?_ ?_); · kernel_rfl
    | (with_reducible refine draw_id ?_); kernel_rfl
    | ((with_reducible refine callK_id (f := 49) ?_); refine callK_fun c49 rfl rfl ?_)
    | ((with_reducible refine callK_id (f := 15) ?_); refine callK_funR [0] (r := .s (.raw (.int .i64 (-1)))) (by simp [pullH, roC, pullI, pullS, ix, eV_pull, Function.comp_def]; exact c15) rfl ?_)
    | exact ⟨.t [.s (.slice 0 0 (R.length)), .s (.raw (.int .i64 (13)))], [], WkR.to (WkR.gc [0] rfl (by decide)) (by simp [gcI, pullI, pullS, ix]; try rfl) (by simp [gcH, rows_pull, pullS, ix, mapC, eV_pull, cutE, Function.comp_def]; try (intros; rfl)), by simp, rfl, rfl⟩
    | (with_reducible refine And.intro ?_ ?_; · omega)
def I17 (R : List VEN) (e : VEN) (mm : Nat) (tm : TM) (H : Heap) : Prop := ∃ i : Nat, mm = R.length - i ∧ i ≤ R.length ∧ i ≤ upTo VEN.v ltV R e.v ∧ get tm 0 = .s (.slice 0 0 R.length) ∧ get tm 3 = .s (.ptr 1 0 0) ∧ get tm 9 = .s (.raw (.int .i64 (i : Int))) ∧
  H = [rV R, .rows true 3 [eV e]]
theorem f17_new (R : List VEN) (hb : R.length ≤ 100000) (e : VEN) (m0 : 0 ≤ e.m) (u0 : 0 ≤ e.u) (hg : goodV e.v e.m e.u = 0) (h : atI VEN.v R e.v = -1) (hf : R.length < 16) : FunW Try.prog 17 [rV R] [] [.s (.slice 0 0 R.length), .a (eV e)] fun r Hn => r = .t [.s (.slice 1 0 (insV R e).length), .s (.raw (.int .i64 0))] ∧ Hn = [.rows true 3 ((insV R e).map eV)] := by
  refine funW_of fun X => ?_
  have c49 := f49 e m0 u0
  have c15 := f15 R hb e.v
  rw [hg] at c49
  rw [h] at c15
  unfold rV kV at c15
  unfold rV
  have z1 : decide ((16 : Int) ≤ (R.length : Int)) = false := decide_eq_false (by omega)
  refine callK_inline (rs := [.tmp 4, .tmp 5]) (n := 62) Try.func17 rfl rfl rfl (by kernel_rfl) (by kernel_rfl) (by simp only [List.length_cons, List.length_nil]; decide) ?_
  repeat' first
    | with_reducible rfl
    | simp only [z1, eV_def, List.length_map, RS_, argsTM, stepE, stBuiltin, stBox, stAlloc, stLoad, stStore, stField, stExtract, stBin, stUn, stConv, stNilCheck, stFieldV, stIndex, stIndexAddr, stLen, stMin, stMax, stBuild, fillI, stBuildSlice, setRows, stMakeSlice, stAppend, srcR, segR, rdCells, stSlice, bnd, stArr, stCopy, stConv2, isIntV, cutR, byteRows, rowByte, binStr, Option.map_some, Option.map_none, eq_self, canTL, canT, canH, canL, patL, gcH, gcT, gcI, get_gcT, mapC, pullS, pullI, pushS, push1, pushI, pushC, pullHW, roC, ix, List.map_map, Function.comp_def, List.zip_cons_cons, List.zip_nil_left, List.zip_nil_right, List.range'_zero, List.range'_succ, rd, get, put, IV.cells, ofValue, seg, spl, ldIV, binInt, eqI, cellsEq, leafEq, resI, flat, isT, upd, up1, nextM, cR, ptrC, nAl, isAl, ST_, Nat.reduceAdd, Nat.reduceMul, Nat.reduceEqDiff, Nat.reduceLeDiff, ne_eq, reduceCtorEq, reduceIte, forall_const, implies_true, Int.reduceToNat, Int.reduceLE, Int.reduceLT, bne, Int.reduceEq, Int.reduceNe, Int.reduceNeg, Int.reduceAdd, Int.reduceSub, Int.reduceMul, Int.reduceBEq, Int.reduceBNe, Nat.reduceLT, Nat.reduceSub, WLS, ty_ag_27, ty_ag_42, ty_by_26, ty_of_42_0, ty_sl_26, ty_sr_26, ty_sz_27, ty_sz_42, ty_zs_26]
    | (with_reducible refine drawK_id ?_); refine drawK_auto hmix (by kernel_rfl) ?_
    | (with_reducible refine draw_fin ?_ ?_); · kernel_rfl
    | (with_reducible refine draw_id ?_); kernel_rfl
    | ((with_reducible refine callK_id (f := 49) ?_); refine callK_fun c49 rfl rfl ?_)
    | ((with_reducible refine callK_id (f := 15) ?_); refine callK_funR [0] (r := .s (.raw (.int .i64 (-1)))) (by simp [pullH, roC, pullI, pullS, ix, eV_pull, Function.comp_def]; exact c15) rfl ?_)
    | (with_reducible refine And.intro ?_ ?_; · omega)
  refine loopK_wk (by kernel_rfl) (I17 R e) R.length ⟨_, _, Wk.refl, 0, by omega, by omega, by omega, ?_, ?_, ?_, ?_⟩ ?_ <;> first | with_reducible rfl | (simp [get]; done) | (simp [rV, eV_def]; done) | skip
  rintro mm tm H ⟨i, rfl, hi, hu, g0, g3, g9, rfl⟩
  unfold rV
  have hw : IntKind.i64.wrap ((i : Int) + 1) = ((i + 1 : Nat) : Int) := by rw [wr_i64 (by omega) (by omega)]; rfl
  by_cases hq : i < R.length
  · have q1 : decide ((i : Int) < (R.length : Int)) = true := decide_eq_true (by omega)
    have b0 : (0 : Int) ≤ (i : Int) := by omega
    have b2 : (i : Int) < (R.length : Int) := by omega
    obtain ⟨y, hy⟩ : ∃ y, R[i]? = some y := ⟨_, List.getElem?_eq_getElem hq⟩
    have hyl : (R.map eV)[i]? = some (eV y) := by rw [List.getElem?_map, hy]; rfl
    cases hlt : decide (y.v < e.v) with
    | true =>
      have hu2 : i + 1 ≤ upTo VEN.v ltV R e.v := by
        rcases Nat.lt_or_eq_of_le hu with h | h
        · exact h
        · rw [h] at hy; have := upTo_stop hy; simp only [ltV] at this; rw [this] at hlt; cases hlt
      repeat' first
        | with_reducible rfl
        | simp only [eV_len, q1, hlt, b0, b2, hyl, hw, g0, g3, g9, List.length_map, Int.toNat_natCast, eV_def, RS_, argsTM, stepE, stBuiltin, stBox, stAlloc, stLoad, stStore, stField, stExtract, stBin, stUn, stConv, stNilCheck, stFieldV, stIndex, stIndexAddr, stLen, stMin, stMax, stBuild, fillI, stBuildSlice, setRows, stMakeSlice, stAppend, srcR, segR, rdCells, stSlice, bnd, stArr, stCopy, stConv2, isIntV, cutR, byteRows, rowByte, binStr, Option.map_some, Option.map_none, eq_self, canTL, canT, canH, canL, patL, gcH, gcT, gcI, get_gcT, mapC, pullS, pullI, pushS, push1, pushI, pushC, pullHW, roC, ix, List.map_map, Function.comp_def, List.zip_cons_cons, List.zip_nil_left, List.zip_nil_right, List.range'_zero, List.range'_succ, rd, get, put, IV.cells, ofValue, seg, spl, ldIV, binInt, eqI, cellsEq, leafEq, resI, flat, isT, upd, up1, nextM, cR, ptrC, nAl, isAl, ST_, Nat.reduceAdd, Nat.reduceMul, Nat.reduceEqDiff, Nat.reduceLeDiff, ne_eq, reduceCtorEq, reduceIte, forall_const, implies_true, Int.reduceToNat, Int.reduceLE, Int.reduceLT, bne, Int.reduceEq, Int.reduceNe, Int.reduceNeg, Int.reduceAdd, Int.reduceSub, Int.reduceMul, Int.reduceBEq, Int.reduceBNe, Nat.reduceLT, Nat.reduceSub, WLS, ty_ag_27, ty_ag_42, ty_by_26, ty_of_42_0, ty_sl_26, ty_sr_26, ty_sz_27, ty_sz_42, ty_zs_26]
        | (with_reducible refine drawK_id ?_); refine drawK_auto hmix (by kernel_rfl) ?_
        | (with_reducible refine draw_fin ?_ ?_); · kernel_rfl
        | (with_reducible refine draw_id ?_); kernel_rfl
        | (with_reducible refine And.intro ?_ ?_; · omega)
      refine ⟨R.length - (i + 1), _, _, by omega, Wk.gc [0, 1] rfl (by decide), i + 1, rfl, by omega, hu2, ?_, ?_, ?_, ?_⟩ <;> first | with_reducible rfl | (simp [Function.comp_def, get_gcT, get, put, gcI, pullI, pullS, gcH, patL, canL, canH, canTL, canT, rows_pull, ix, g0, g3, g9]; done) | (simp [Function.comp_def, get_gcT, get, put, gcI, pullI, pullS, gcH, patL, canL, canH, canTL, canT, rows_pull, ix, rV, eV_pull]; done) | (simp [Function.comp_def, get_gcT, get, put, gcI, pullI, pullS, gcH, patL, canL, canH, canTL, canT, rows_pull, ix, rV, eV_pull]; rfl)
    | false =>
      have hu2 : i = upTo VEN.v ltV R e.v := by
        rcases Nat.lt_or_eq_of_le hu with h | h
        · have := upTo_lt h hy; simp only [ltV] at this; rw [this] at hlt; cases hlt
        · exact h
      have s1 := seg_take (R := R) (k := i) (by omega)
      have s2 := seg_drop (R := R) (k := i) (by omega)
      have s3 : segR ((R.take i).map eV) 0 i = some ((R.take i).map eV) := seg_all (by simp; omega)
      have s4 : segR ((R.take i).map eV ++ [eV e]) 0 (i + 1) = some ((R.take i).map eV ++ [eV e]) := seg_all (by simp; omega)
      have s5 := s4
      simp only [eV_def] at s5
      have c1 : (0 : Int) ≤ (i : Int) := by omega
      have c2 : (i : Int) ≤ (R.length : Int) := by omega
      have l1 : ((R.take i).map eV).length = i := by simp; omega
      have l2 : ((R.drop i).map eV).length = R.length - i := by simp
      have hli : (insV R e).length = i + 1 + (R.length - i) := by simp [insV, ins, ← hu2]; omega
      have hin : (insV R e).map eV = (R.take i).map eV ++ (eV e :: (R.drop i).map eV) := by simp [insV, ins, ← hu2]
      rw [hli, hin]
      repeat' first
        | with_reducible rfl
        | simp only [eV_len, q1, hlt, b0, b2, hyl, hw, g0, g3, g9, List.length_map, Int.toNat_natCast, eV_def, seg_one, s1, s2, s3, s5, s4, c1, c2, l1, l2, seg_nil, Nat.sub_zero, List.append_assoc, RS_, argsTM, stepE, stBuiltin, stBox, stAlloc, stLoad, stStore, stField, stExtract, stBin, stUn, stConv, stNilCheck, stFieldV, stIndex, stIndexAddr, stLen, stMin, stMax, stBuild, fillI, stBuildSlice, setRows, stMakeSlice, stAppend, srcR, rdCells, stSlice, bnd, stArr, stCopy, stConv2, isIntV, cutR, byteRows, rowByte, binStr, Option.map_some, Option.map_none, eq_self, canTL, canT, canH, canL, patL, gcH, gcT, gcI, get_gcT, mapC, pullS, pullI, pushS, push1, pushI, pushC, pullHW, roC, ix, List.map_map, Function.comp_def, List.zip_cons_cons, List.zip_nil_left, List.zip_nil_right, List.range'_zero, List.range'_succ, rd, get, put, IV.cells, ofValue, seg, spl, ldIV, binInt, eqI, cellsEq, leafEq, resI, flat, isT, upd, up1, nextM, cR, ptrC, nAl, isAl, ST_, Nat.reduceAdd, Nat.reduceMul, Nat.reduceEqDiff, Nat.reduceLeDiff, ne_eq, reduceCtorEq, reduceIte, forall_const, implies_true, Int.reduceToNat, Int.reduceLE, Int.reduceLT, bne, Int.reduceEq, Int.reduceNe, Int.reduceNeg, Int.reduceAdd, Int.reduceSub, Int.reduceMul, Int.reduceBEq, Int.reduceBNe, Nat.reduceLT, Nat.reduceSub, WLS, ty_ag_27, ty_ag_42, ty_by_26, ty_of_42_0, ty_sl_26, ty_sr_26, ty_sz_27, ty_sz_42, ty_zs_26]
        | (with_reducible refine drawK_id ?_); refine drawK_auto hmix (by kernel_rfl) ?_
        | (with_reducible refine draw_fin ?_ ?_); · kernel_rfl
        | (with_reducible refine draw_id ?_); kernel_rfl
        | exact ⟨.t [.s (.slice 1 0 (i + 1 + (R.length - i))), .s (.raw (.int .i64 (0)))], [.rows true 3 ((R.take i).map eV ++ (eV e :: (R.drop i).map eV))], WkR.to (WkR.gc [0, 6] rfl (by decide)) (by simp [gcI, pullI, pullS, ix]; try rfl) (by simp [gcH, rows_pull, pullS, ix, mapC, eV_pull, cutE, Function.comp_def]; try (intros; rfl)), by simp, rfl, rfl⟩
        | exact ⟨.t [.s (.slice 1 0 (i + 1 + (R.length - i))), .s (.raw (.int .i64 (0)))], [.rows true 3 ((R.take i).map eV ++ (eV e :: (R.drop i).map eV))], WkR.to (WkR.gc [0, 5] rfl (by decide)) (by simp [gcI, pullI, pullS, ix]; try rfl) (by simp [gcH, rows_pull, pullS, ix, mapC, eV_pull, cutE, Function.comp_def]; try (intros; rfl)), by simp, rfl, rfl⟩
        | exact ⟨.t [.s (.slice 1 0 (i + 1 + (R.length - i))), .s (.raw (.int .i64 (0)))], [.rows true 3 ((R.take i).map eV ++ (eV e :: (R.drop i).map eV))], WkR.to (WkR.gc [0, 7] rfl (by decide)) (by simp [gcI, pullI, pullS, ix]; try rfl) (by simp [gcH, rows_pull, pullS, ix, mapC, eV_pull, cutE, Function.comp_def]; try (intros; rfl)), by simp, rfl, rfl⟩
        | exact ⟨.t [.s (.slice 1 0 (i + 1 + (R.length - i))), .s (.raw (.int .i64 (0)))], [.rows true 3 ((R.take i).map eV ++ (eV e :: (R.drop i).map eV))], WkR.to (WkR.gc [0, 4] rfl (by decide)) (by simp [gcI, pullI, pullS, ix]; try rfl) (by simp [gcH, rows_pull, pullS, ix, mapC, eV_pull, cutE, Function.comp_def]; try (intros; rfl)), by simp, rfl, rfl⟩
        | (with_reducible refine And.intro ?_ ?_; · omega)
  · have q1 : decide ((i : Int) < (R.length : Int)) = false := decide_eq_false (by omega)
    have hu2 : i = upTo VEN.v ltV R e.v := by have := upTo_le (key := VEN.v) (lt := ltV) R e.v; omega
    have s1 := seg_take (R := R) (k := i) (by omega)
    have s2 := seg_drop (R := R) (k := i) (by omega)
    have s3 : segR ((R.take i).map eV) 0 i = some ((R.take i).map eV) := seg_all (by simp; omega)
    have s4 : segR ((R.take i).map eV ++ [eV e]) 0 (i + 1) = some ((R.take i).map eV ++ [eV e]) := seg_all (by simp; omega)
    have s5 := s4
    simp only [eV_def] at s5
    have c1 : (0 : Int) ≤ (i : Int) := by omega
    have c2 : (i : Int) ≤ (R.length : Int) := by omega
    have l1 : ((R.take i).map eV).length = i := by simp; omega
    have l2 : ((R.drop i).map eV).length = R.length - i := by simp
    have hli : (insV R e).length = i + 1 + (R.length - i) := by simp [insV, ins, ← hu2]; omega
    have hin : (insV R e).map eV = (R.take i).map eV ++ (eV e :: (R.drop i).map eV) := by simp [insV, ins, ← hu2]
    rw [hli, hin]
    repeat' first
      | with_reducible rfl
      | simp only [eV_len, q1, hw, g0, g3, g9, List.length_map, Int.toNat_natCast, seg_one, s1, s2, s3, s5, s4, c1, c2, l1, l2, seg_nil, Nat.sub_zero, List.append_assoc, RS_, argsTM, stepE, stBuiltin, stBox, stAlloc, stLoad, stStore, stField, stExtract, stBin, stUn, stConv, stNilCheck, stFieldV, stIndex, stIndexAddr, stLen, stMin, stMax, stBuild, fillI, stBuildSlice, setRows, stMakeSlice, stAppend, srcR, rdCells, stSlice, bnd, stArr, stCopy, stConv2, isIntV, cutR, byteRows, rowByte, binStr, Option.map_some, Option.map_none, eq_self, canTL, canT, canH, canL, patL, gcH, gcT, gcI, get_gcT, mapC, pullS, pullI, pushS, push1, pushI, pushC, pullHW, roC, ix, List.map_map, Function.comp_def, List.zip_cons_cons, List.zip_nil_left, List.zip_nil_right, List.range'_zero, List.range'_succ, rd, get, put, IV.cells, ofValue, seg, spl, ldIV, binInt, eqI, cellsEq, leafEq, resI, flat, isT, upd, up1, nextM, cR, ptrC, nAl, isAl, ST_, Nat.reduceAdd, Nat.reduceMul, Nat.reduceEqDiff, Nat.reduceLeDiff, ne_eq, reduceCtorEq, reduceIte, forall_const, implies_true, Int.reduceToNat, Int.reduceLE, Int.reduceLT, bne, Int.reduceEq, Int.reduceNe, Int.reduceNeg, Int.reduceAdd, Int.reduceSub, Int.reduceMul, Int.reduceBEq, Int.reduceBNe, Nat.reduceLT, Nat.reduceSub, WLS, ty_ag_27, ty_ag_42, ty_by_26, ty_of_42_0, ty_sl_26, ty_sr_26, ty_sz_27, ty_sz_42, ty_zs_26]
      | (with_reducible refine drawK_id ?_); refine drawK_auto hmix (by kernel_rfl) ?_
      | (with_reducible refine draw_fin ?_ ?_); · kernel_rfl
      | (with_reducible refine draw_id ?_); kernel_rfl
      | exact ⟨.t [.s (.slice 1 0 (i + 1 + (R.length - i))), .s (.raw (.int .i64 (0)))], [.rows true 3 ((R.take i).map eV ++ (eV e :: (R.drop i).map eV))], WkR.to (WkR.gc [0, 6] rfl (by decide)) (by simp [gcI, pullI, pullS, ix]; try rfl) (by simp [gcH, rows_pull, pullS, ix, mapC, eV_pull, cutE, Function.comp_def]; try (intros; rfl)), by simp, rfl, rfl⟩
      | exact ⟨.t [.s (.slice 1 0 (i + 1 + (R.length - i))), .s (.raw (.int .i64 (0)))], [.rows true 3 ((R.take i).map eV ++ (eV e :: (R.drop i).map eV))], WkR.to (WkR.gc [0, 5] rfl (by decide)) (by simp [gcI, pullI, pullS, ix]; try rfl) (by simp [gcH, rows_pull, pullS, ix, mapC, eV_pull, cutE, Function.comp_def]; try (intros; rfl)), by simp, rfl, rfl⟩
      | exact ⟨.t [.s (.slice 1 0 (i + 1 + (R.length - i))), .s (.raw (.int .i64 (0)))], [.rows true 3 ((R.take i).map eV ++ (eV e :: (R.drop i).map eV))], WkR.to (WkR.gc [0, 7] rfl (by decide)) (by simp [gcI, pullI, pullS, ix]; try rfl) (by simp [gcH, rows_pull, pullS, ix, mapC, eV_pull, cutE, Function.comp_def]; try (intros; rfl)), by simp, rfl, rfl⟩
      | exact ⟨.t [.s (.slice 1 0 (i + 1 + (R.length - i))), .s (.raw (.int .i64 (0)))], [.rows true 3 ((R.take i).map eV ++ (eV e :: (R.drop i).map eV))], WkR.to (WkR.gc [0, 4] rfl (by decide)) (by simp [gcI, pullI, pullS, ix]; try rfl) (by simp [gcH, rows_pull, pullS, ix, mapC, eV_pull, cutE, Function.comp_def]; try (intros; rfl)), by simp, rfl, rfl⟩
      | (with_reducible refine And.intro ?_ ?_; · omega)
end Go.Ev
