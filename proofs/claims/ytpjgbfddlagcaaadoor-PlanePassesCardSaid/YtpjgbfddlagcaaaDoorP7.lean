/- A part of the proof: contracts of the functions that the statement reaches. -/
import Derived.Test.YtpjgbfddlagcaaaDoorEvC
import Derived.Test.YtpjgbfddlagcaaaDoorP6
namespace Go.Ev
open Go.Proofs
set_option maxRecDepth 100000
set_option linter.unusedSimpArgs false
set_option linter.unusedVariables false
set_option maxHeartbeats 4000000
open Srt Go.RowKit
theorem eS_bld (k : KEY) (x y : SV) : List.take 7 (kC k ++ [x]) ++ y :: List.drop 8 (kC k ++ [x]) = kC k ++ [y] := rfl
structure POQ where
  of : Bool
  st : Int
  ac : Int
  fi : Bool
  pv : Int
structure STQ where
  a : Int
  b : Int
structure VLQ where
  a0 : Int
  b0 : Int
  a1 : Int
  b1 : Int
  a2 : Int
  b2 : Int
def poC (q : POQ) : List SV := [.raw (.bool q.of), .raw (.int .u8 q.st), .raw (.int .u8 q.ac), .raw (.bool q.fi), .raw (.int .u8 q.pv)]
def stQ (q : STQ) : List SV := [.raw (.int .u16 q.a), .raw (.int .u16 q.b)]
theorem poC_pull (σ : List Nat) (q : POQ) : (poC q).map (pullS σ) = poC q := rfl
theorem stQ_pull (σ : List Nat) (q : STQ) : (stQ q).map (pullS σ) = stQ q := rfl
def portC (q : POQ) : PRT := ⟨IntKind.u16.wrap (1 + IntKind.u16.wrap (Int.tmod q.pv 4)), IntKind.i64.wrap (Int.tmod q.ac 3), q.fi, 0, 0, false, true, !q.of, false, false, 0, IntKind.i64.wrap (Int.tmod q.st 3), 0, 0, 0, 0, 0, 0, 0, 0, 0⟩
def prQ (q : POQ) : List SV := prC (portC q)
theorem prQ_pull (σ : List Nat) (q : POQ) : (prQ q).map (pullS σ) = prQ q := rfl
theorem madeP_map (l : List POQ) : ((l.take 8).map portC).map prC = (l.take 8).map prQ := by simp [prQ]; rfl
def madeP (l : List POQ) : List PRT := (l.take 8).map portC
def setV3 (v : VLQ) : Nat × List VEN :=
  let A := setV 0 [] 1 (IntKind.u32.wrap v.a0) (IntKind.u32.wrap (bAnd .u16 v.a0 v.b0))
  let B := setV A.2.1 A.2.2 2 (IntKind.u32.wrap v.a1) (IntKind.u32.wrap (bAnd .u16 v.a1 v.b1))
  (setV B.2.1 B.2.2 3 (IntKind.u32.wrap v.a2) (IntKind.u32.wrap (bAnd .u16 v.a2 v.b2))).2
def setSs : Nat × List SEN → List STQ → Nat × List SEN
  | P, [] => P
  | P, x :: l => setSs (setS P.1 P.2 ⟨1, fromC (IntKind.u64.wrap (Int.tmod x.a 8))⟩ (IntKind.u32.wrap x.b)).2 l
def madeS (l : List STQ) : Nat × List SEN := setSs (0, []) (l.take 6)
def roomC (r : Int) : Int := IntKind.i64.wrap (1 + IntKind.i64.wrap (Int.tmod r 6))
def KeyT (P : Program) (n : Nat) (X : Ctx) (p : TM → Prop) (H : Heap) (c : Code) (Q : Exit → TM → Heap → Prop) : Prop := ∀ tm, p tm → loopK P n X c Q tm H
def playC (s0 : SV) (v : VLQ) (s1 : SV) (room : Int) (s2 : SV) : List SV := [s0, .raw (.int .u16 v.a0), .raw (.int .u16 v.b0), .raw (.int .u16 v.a1), .raw (.int .u16 v.b1), .raw (.int .u16 v.a2), .raw (.int .u16 v.b2), s1, .raw (.int .u8 room), s2]
def HM (ps : List POQ) (ss : List STQ) (v : VLQ) (room : Int) (cv : Nat) (Lv : List VEN) (cs : Nat) (Ls : List SEN) : Heap := [.rows false 5 (ps.map poC), .rows false 2 (ss.map stQ), .rows true 10 [playC (.slice 0 0 ps.length) v (.slice 1 0 ss.length) room .junk], .rows true 3 [[.raw (.pointer none), .raw (.pointer none), .raw (.pointer none)]],
  .rows true 1 [[.ref 5]], mpV cv Lv, .rows true 1 [[.ref 7]], mpS cs Ls, .rows true 3 [[.raw (.int .i64 (roomC room)), .raw (.int .i64 20), .ref 9]], mpC 0 [], .rows true 3 [[.ptr 4 0 0, .ptr 6 0 0, .ptr 8 0 0]]]
def IM2 (ps : List POQ) (ss : List STQ) (v : VLQ) (room : Int) (cv : Nat) (Lv : List VEN) (mm : Nat) (tm : TM) (H : Heap) : Prop := ∃ (i cs : Nat) (Ls : List SEN), mm = ss.length - i ∧ i ≤ ss.length ∧ i ≤ 6 ∧ setSs (cs, Ls) ((ss.take 6).drop i) = madeS ss ∧ EGT cv Lv cs Ls 0 [] ∧ get tm 1 = .s (.ptr 2 0 0) ∧ get tm 2 = .s (.ptr 3 0 0) ∧ get tm 4 = .s (.ptr 10 0 0) ∧ get tm 6 = .s (.raw (.int .i64 (i : Int))) ∧ H = HM ps ss v room cv Lv cs Ls
def IM3 (ps : List POQ) (ss : List STQ) (v : VLQ) (room : Int) (cv : Nat) (Lv : List VEN) (cs : Nat) (Ls : List SEN) (mm : Nat) (tm : TM) (H : Heap) : Prop := ∃ i : Nat, mm = ps.length - i ∧ i ≤ ps.length ∧ i ≤ 8 ∧ get tm 1 = .s (.ptr 2 0 0) ∧ get tm 2 = .s (.ptr 3 0 0) ∧ get tm 4 = .s (.ptr 10 0 0) ∧ get tm 7 = .s (.slice 11 0 i) ∧ get tm 8 = .s (.raw (.int .i64 (i : Int))) ∧ H = HM ps ss v room cv Lv cs Ls ++ [.rows true 21 ((ps.take i).map prQ)]
theorem setV3_eq (v : VLQ) (A B C : Int × Nat × List VEN) (hA : setV 0 [] 1 (IntKind.u32.wrap v.a0) (IntKind.u32.wrap (bAnd .u16 v.a0 v.b0)) = A) (hB : setV A.2.1 A.2.2 2 (IntKind.u32.wrap v.a1) (IntKind.u32.wrap (bAnd .u16 v.a1 v.b1)) = B) (hC : setV B.2.1 B.2.2 3 (IntKind.u32.wrap v.a2) (IntKind.u32.wrap (bAnd .u16 v.a2 v.b2)) = C) : setV3 v = C.2 := by
  unfold setV3
  rw [hA]
  simp only
  rw [hB, hC]
theorem wrap32_pos (x : Int) : 0 ≤ IntKind.u32.wrap x := by simp [IntKind.wrap, IntKind.signed, IntKind.bits]; omega
theorem take_at {α : Type} (l : List α) (n i : Nat) (y : α) (hy : l[i]? = some y) (hi : i < n) : (l.take n).drop i = y :: (l.take n).drop (i + 1) := by
  obtain ⟨h, rfl⟩ := List.getElem?_eq_some_iff.1 hy
  rw [List.drop_eq_getElem_cons (by simp; omega)]
  simp
theorem take_succ_at {α : Type} (l : List α) (i : Nat) (y : α) (hy : l[i]? = some y) : l.take (i + 1) = l.take i ++ [y] := by
  rw [List.take_add_one, hy]; rfl
theorem madeW (ps : List POQ) (ss : List STQ) (v : VLQ) (room : Int) (r0 : 0 ≤ room) (r1 : room ≤ 255) : FunW Tryd.prog 6 [.rows false 5 (ps.map poC), .rows false 2 (ss.map stQ)] [] [.a (playC (.slice 0 0 ps.length) v (.slice 1 0 ss.length) room .junk)]
    fun r Hn => r = .t [.a [.ptr 2 0 0, .ptr 4 0 0, .ptr 6 0 0], .s (.slice 8 0 (madeP ps).length)] ∧ Hn = [.rows true 1 [[.ref 3]], mpV (setV3 v).1 (setV3 v).2, .rows true 1 [[.ref 5]], mpS (madeS ss).1 (madeS ss).2, .rows true 3 [[.raw (.int .i64 (roomC room)), .raw (.int .i64 20), .ref 7]], mpC 0 [], .rows true 21 ((madeP ps).map prC)] := by
  refine funW_of fun X => ?_
  have hrm : 1 ≤ roomC room ∧ roomC room ≤ 6 := by
    unfold roomC
    rw [Int.tmod_eq_emod_of_nonneg r0, wr_i64 (n := room % 6) (by omega) (by omega), wr_i64 (by omega) (by omega)]; omega
  have c33 := f33 (roomC room) 20
  rw [show mostI (roomC room) = roomC room by unfold mostI; rw [if_neg (by omega), if_neg (by omega)], show liveI 20 = 20 by decide] at c33
  have c11 := f11
  have c21 := f21
  have hrc : IntKind.i64.wrap (1 + IntKind.i64.wrap (Int.tmod room 6)) = roomC room := rfl
  have e0 := EGT.init
  obtain ⟨A1, hA1⟩ : ∃ A, setV 0 [] 1 (IntKind.u32.wrap v.a0) (IntKind.u32.wrap (bAnd .u16 v.a0 v.b0)) = A := ⟨_, rfl⟩
  obtain ⟨A2, hA2⟩ : ∃ A, setV A1.2.1 A1.2.2 2 (IntKind.u32.wrap v.a1) (IntKind.u32.wrap (bAnd .u16 v.a1 v.b1)) = A := ⟨_, rfl⟩
  obtain ⟨A3, hA3⟩ : ∃ A, setV A2.2.1 A2.2.2 3 (IntKind.u32.wrap v.a2) (IntKind.u32.wrap (bAnd .u16 v.a2 v.b2)) = A := ⟨_, rfl⟩
  rw [setV3_eq v A1 A2 A3 hA1 hA2 hA3]
  have e1 := e0.setV 1 (IntKind.u32.wrap v.a0) (IntKind.u32.wrap (bAnd .u16 v.a0 v.b0)) (wrap32_pos _)
  rw [hA1] at e1
  have e2 := e1.setV 2 (IntKind.u32.wrap v.a1) (IntKind.u32.wrap (bAnd .u16 v.a1 v.b1)) (wrap32_pos _)
  rw [hA2] at e2
  have e3 := e2.setV 3 (IntKind.u32.wrap v.a2) (IntKind.u32.wrap (bAnd .u16 v.a2 v.b2)) (wrap32_pos _)
  rw [hA3] at e3
  have c1 := f16 0 [] List.nodup_nil ⟨1, IntKind.u32.wrap v.a0, IntKind.u32.wrap (bAnd .u16 v.a0 v.b0), 0⟩
  have c2 := f16 A1.2.1 A1.2.2 e1.v ⟨2, IntKind.u32.wrap v.a1, IntKind.u32.wrap (bAnd .u16 v.a1 v.b1), 0⟩
  have c3 := f16 A2.2.1 A2.2.2 e2.v ⟨3, IntKind.u32.wrap v.a2, IntKind.u32.wrap (bAnd .u16 v.a2 v.b2), 0⟩
  simp only [hA1] at c1
  simp only [hA2] at c2
  simp only [hA3] at c3
  clear hA1 hA2 hA3 e0
  obtain ⟨x1, k1, L1⟩ := A1
  obtain ⟨x2, k2, L2⟩ := A2
  obtain ⟨x3, k3, L3⟩ := A3
  simp only at c1 c2 c3 e1 e2 e3
  clear e1 e2
  unfold tabV at c1 c2 c3 c11
  unfold tabC at c21
  unfold fdbC at c33
  simp only [eV] at c1 c2 c3
  simp only
  unfold playC
  refine callK_inline (rs := [.cell 2 35, .tmp 3]) (n := 121) Tryd.func6 rfl rfl rfl (by kernel_rfl) (by kernel_rfl) (by simp only [List.length_cons, List.length_nil]; decide) ?_
  repeat' first
    | with_reducible rfl
    | simp only [kV, encM, hrc, push_mV, push_mS, push_mE, rows_push1, push_one, pull_one, kC_push, kC_pull, kC_len, eR_len, eV_len, eV_pull, eV_push, RS_, argsTM, stepE, stBuiltin, stBox, stAlloc, stLoad, stStore, stField, stExtract, stBin, stUn, stConv, stNilCheck, stFieldV, stIndex, stIndexAddr, stLen, stMin, stMax, stBuild, fillI, stBuildSlice, setRows, stMakeSlice, stAppend, srcR, segR, rdCells, stSlice, bnd, stArr, stCopy, stConv2, isIntV, cutR, byteRows, rowByte, binStr, Option.map_some, Option.map_none, eq_self, canTL, canT, canH, canL, patL, gcH, gcT, gcI, get_gcT, pullS, pullI, pushS, push1, pushI, pullHW, roC, ix, List.map_map, Function.comp_def, List.zip_cons_cons, List.zip_nil_left, List.zip_nil_right, List.range'_zero, List.range'_succ, rd, get, put, IV.cells, ofValue, seg, spl, ldIV, binInt, eqI, cellsEq, leafEq, resI, flat, isT, upd, up1, nextM, cR, ptrC, nAl, isAl, ST_, Nat.reduceAdd, Nat.reduceMul, Nat.reduceEqDiff, Nat.reduceLeDiff, ne_eq, reduceCtorEq, reduceIte, forall_const, implies_true, Int.reduceToNat, Int.reduceLE, Int.reduceLT, bne, Int.reduceEq, Int.reduceNe, Int.reduceNeg, Int.reduceAdd, Int.reduceSub, Int.reduceMul, Int.reduceBEq, Int.reduceBNe, Nat.reduceLT, Nat.reduceSub, WLS, Tryd.underlying23, Tryd.underlying3, Tryd.underlying5, Tryd.underlying53, Tryd.underlying70, ty_ag_22, ty_ag_23, ty_ag_26, ty_ag_31, ty_ag_32, ty_ag_35, ty_ag_4, ty_ag_5, ty_ag_86, ty_ar_24, ty_ar_25, ty_by_36, ty_of_29_0, ty_of_29_1, ty_of_29_2, ty_of_29_3, ty_of_35_0, ty_of_35_1, ty_of_86_0, ty_of_86_1, ty_of_86_2, ty_of_86_3, ty_of_86_4, ty_ok_35, ty_ok_51, ty_ok_58, ty_ok_63, ty_ok_73, ty_ok_95, ty_pl_35_0, ty_pl_35_1, ty_pl_35_2, ty_pl_51_0, ty_pl_51_1, ty_pl_51_2, ty_pl_58_0, ty_pl_58_4, ty_pl_58_5, ty_pl_58_9, ty_pl_63_0, ty_pl_63_1, ty_pl_73_0, ty_pl_73_1, ty_pl_73_2, ty_pl_95_0, ty_pl_95_1, ty_sl_22, ty_sl_26, ty_sr_36, ty_sz_22, ty_sz_23, ty_sz_26, ty_sz_31, ty_sz_32, ty_sz_35, ty_sz_4, ty_sz_5, ty_sz_86, ty_ze_35, ty_ze_51, ty_ze_58, ty_ze_63, ty_ze_73, ty_ze_86, ty_ze_95, ty_zs_36]
    | (with_reducible refine drawK_id (id := 1) ?_); refine drawK_of 7 hmix (by kernel_rfl) ?_
    | (with_reducible refine drawK_id ?_); refine drawK_auto hmix (by kernel_rfl) ?_
    | (with_reducible refine draw_fin ?_ ?_); · kernel_rfl
    | (with_reducible refine draw_id ?_); kernel_rfl
    | ((with_reducible refine callD_id (f := 22) ?_); refine callD_new (Hw' := []) (Nw := [.rows true 1 [[.ref 1]], mpV 0 []]) [] [] (FunW_eq c11) (by simp [pullHW, roC, Function.comp_def, rows_pull, pullS, ix, pull_mV, pull_mS, pull_mE]) rfl rfl (by decide) (by simp [ne_mV, ne_mS, ne_mE]) (by simp [pullI, pullS, ix, kC_pull, kV, kC, encM]) (by simp) ?_)
    | ((with_reducible refine callD_id (f := 23) ?_); refine callD_new (Hw' := []) (Nw := [.rows true 1 [[.ref 1]], mpS 0 []]) [] [] (FunW_eq c21) (by simp [pullHW, roC, Function.comp_def, rows_pull, pullS, ix, pull_mV, pull_mS, pull_mE]) rfl rfl (by decide) (by simp [ne_mV, ne_mS, ne_mE]) (by simp [pullI, pullS, ix, kC_pull, kV, kC, encM]) (by simp) ?_)
    | ((with_reducible refine callD_id (f := 24) ?_); refine callD_new (Hw' := []) (Nw := [.rows true 3 [[.raw (.int .i64 (roomC room)), .raw (.int .i64 20), .ref 1]], mpC 0 []]) [] [] (FunW_eq c33) (by simp [pullHW, roC, Function.comp_def, rows_pull, pullS, ix, pull_mV, pull_mS, pull_mE]) rfl rfl (by decide) (by simp [ne_mV, ne_mS, ne_mE]) (by simp [pullI, pullS, ix, kC_pull, kV, kC, encM]) (by simp) ?_)
    | (with_reducible refine And.intro ?_ ?_; · omega)
  refine loopK_n 4 (by kernel_rfl) ?_
  repeat' first
    | with_reducible rfl
    | simp only [e_loopN, kV, encM, hrc, push_mV, push_mS, push_mE, rows_push1, push_one, pull_one, kC_push, kC_pull, kC_len, eR_len, eV_len, eV_pull, eV_push, RS_, argsTM, stepE, stBuiltin, stBox, stAlloc, stLoad, stStore, stField, stExtract, stBin, stUn, stConv, stNilCheck, stFieldV, stIndex, stIndexAddr, stLen, stMin, stMax, stBuild, fillI, stBuildSlice, setRows, stMakeSlice, stAppend, srcR, segR, rdCells, stSlice, bnd, stArr, stCopy, stConv2, isIntV, cutR, byteRows, rowByte, binStr, Option.map_some, Option.map_none, eq_self, canTL, canT, canH, canL, patL, gcH, gcT, gcI, get_gcT, pullS, pullI, pushS, push1, pushI, pullHW, roC, ix, List.map_map, Function.comp_def, List.zip_cons_cons, List.zip_nil_left, List.zip_nil_right, List.range'_zero, List.range'_succ, rd, get, put, IV.cells, ofValue, seg, spl, ldIV, binInt, eqI, cellsEq, leafEq, resI, flat, isT, upd, up1, nextM, cR, ptrC, nAl, isAl, ST_, Nat.reduceAdd, Nat.reduceMul, Nat.reduceEqDiff, Nat.reduceLeDiff, ne_eq, reduceCtorEq, reduceIte, forall_const, implies_true, Int.reduceToNat, Int.reduceLE, Int.reduceLT, bne, Int.reduceEq, Int.reduceNe, Int.reduceNeg, Int.reduceAdd, Int.reduceSub, Int.reduceMul, Int.reduceBEq, Int.reduceBNe, Nat.reduceLT, Nat.reduceSub, WLS, Tryd.underlying23, Tryd.underlying3, Tryd.underlying5, Tryd.underlying53, Tryd.underlying70, ty_ag_22, ty_ag_23, ty_ag_26, ty_ag_31, ty_ag_32, ty_ag_35, ty_ag_4, ty_ag_5, ty_ag_86, ty_ar_24, ty_ar_25, ty_by_36, ty_of_29_0, ty_of_29_1, ty_of_29_2, ty_of_29_3, ty_of_35_0, ty_of_35_1, ty_of_86_0, ty_of_86_1, ty_of_86_2, ty_of_86_3, ty_of_86_4, ty_ok_35, ty_ok_51, ty_ok_58, ty_ok_63, ty_ok_73, ty_ok_95, ty_pl_35_0, ty_pl_35_1, ty_pl_35_2, ty_pl_51_0, ty_pl_51_1, ty_pl_51_2, ty_pl_58_0, ty_pl_58_4, ty_pl_58_5, ty_pl_58_9, ty_pl_63_0, ty_pl_63_1, ty_pl_73_0, ty_pl_73_1, ty_pl_73_2, ty_pl_95_0, ty_pl_95_1, ty_sl_22, ty_sl_26, ty_sr_36, ty_sz_22, ty_sz_23, ty_sz_26, ty_sz_31, ty_sz_32, ty_sz_35, ty_sz_4, ty_sz_5, ty_sz_86, ty_ze_35, ty_ze_51, ty_ze_58, ty_ze_63, ty_ze_73, ty_ze_86, ty_ze_95, ty_zs_36]
    | (with_reducible refine drawK_id ?_); refine drawK_auto hmix (by kernel_rfl) ?_
    | (with_reducible refine draw_fin ?_ ?_); · kernel_rfl
    | (with_reducible refine draw_id ?_); kernel_rfl
    | ((refine callD_idM (f := 25) (c := 5) (ch := mpV 0 []) rfl ?_); refine callD_new (Hw' := [.rows true 1 [[.ref 1]], mpV k1 L1]) (Nw := []) [] [4, 5] (FunW_eq c1) (by simp [pullHW, roC, Function.comp_def, rows_pull, pullS, ix, pull_mV, pull_mS, pull_mE]) rfl rfl (by decide) (by simp [ne_mV, ne_mS, ne_mE]) (by simp [pullI, pullS, ix, kC_pull, kV, kC, encM]) (by simp) ?_)
    | ((refine callD_idM (f := 25) (c := 5) (ch := mpV k1 L1) rfl ?_); refine callD_new (Hw' := [.rows true 1 [[.ref 1]], mpV k2 L2]) (Nw := []) [] [4, 5] (FunW_eq c2) (by simp [pullHW, roC, Function.comp_def, rows_pull, pullS, ix, pull_mV, pull_mS, pull_mE]) rfl rfl (by decide) (by simp [ne_mV, ne_mS, ne_mE]) (by simp [pullI, pullS, ix, kC_pull, kV, kC, encM]) (by simp) ?_)
    | ((refine callD_idM (f := 25) (c := 5) (ch := mpV k2 L2) rfl ?_); refine callD_new (Hw' := [.rows true 1 [[.ref 1]], mpV k3 L3]) (Nw := []) [] [4, 5] (FunW_eq c3) (by simp [pullHW, roC, Function.comp_def, rows_pull, pullS, ix, pull_mV, pull_mS, pull_mE]) rfl rfl (by decide) (by simp [ne_mV, ne_mS, ne_mE]) (by simp [pullI, pullS, ix, kC_pull, kV, kC, encM]) (by simp) ?_)
    | (with_reducible refine And.intro ?_ ?_; · omega)
  refine loopK_wk (by kernel_rfl) (IM2 ps ss v room k3 L3) ss.length ⟨_, _, Wk.gc [0, 1, 2, 3, 4, 5, 6, 7, 8, 9, 10] rfl (by decide), 0, 0, [], by omega, by omega, by omega, rfl, e3, ?_, ?_, ?_, ?_, ?_⟩ ?_
  · simp [Function.comp_def, get_gcT, get, put, gcI, pullI, pullS, gcH, patL, canL, canH, canTL, canT, rows_pull, ix]
  · simp [Function.comp_def, get_gcT, get, put, gcI, pullI, pullS, gcH, patL, canL, canH, canTL, canT, rows_pull, ix]
  · simp [Function.comp_def, get_gcT, get, put, gcI, pullI, pullS, gcH, patL, canL, canH, canTL, canT, rows_pull, ix]
  · simp [Function.comp_def, get_gcT, get, put, gcI, pullI, pullS, gcH, patL, canL, canH, canTL, canT, rows_pull, ix]
  · simp [Function.comp_def, get_gcT, get, put, gcI, pullI, pullS, gcH, patL, canL, canH, canTL, canT, rows_pull, ix, HM, playC, poC_pull, stQ_pull, pull_mV, pull_mS, pull_mE]
  rintro mm tm H ⟨i, cs, Ls, rfl, hi, hi6, hs, he, g1, g2, g4, g6, rfl⟩
  unfold HM playC
  by_cases hq : i < ss.length ∧ i < 6
  · have q1 : decide ((i : Int) < (ss.length : Int)) = true := decide_eq_true (by omega)
    have q2 : decide ((i : Int) < 6) = true := decide_eq_true (by omega)
    have z0 : (0 : Int) ≤ (i : Int) := by omega
    have z1 : (i : Int) < (ss.length : Int) := by omega
    have hi1 : IntKind.i64.wrap ((i : Int) + 1) = ((i + 1 : Nat) : Int) := by rw [wr_i64 (by omega) (by omega)]; rfl
    obtain ⟨y, hy⟩ : ∃ y, ss[i]? = some y := ⟨_, List.getElem?_eq_getElem hq.1⟩
    have hel : (ss.map stQ)[i]? = some (stQ y) := by rw [List.getElem?_map, hy]; rfl
    rw [take_at ss 6 i y hy hq.2] at hs
    simp only [setSs] at hs
    obtain ⟨mc, hmc⟩ : ∃ mc, IntKind.u64.wrap (Int.tmod y.a 8) = mc := ⟨_, rfl⟩
    obtain ⟨b, hb⟩ : ∃ b, IntKind.u32.wrap y.b = b := ⟨_, rfl⟩
    rw [hmc, hb] at hs
    have c26 := f26 cs Ls he.s ⟨⟨1, fromC mc⟩, b, 0⟩
    have he2 := he.setS ⟨1, fromC mc⟩ b
    simp only at c26
    generalize setS cs Ls ⟨1, fromC mc⟩ b = P at *
    obtain ⟨er, c2, L2⟩ := P
    simp only at c26 he2 hs
    unfold tabC at c26
    repeat' first
      | with_reducible rfl
      | simp only [q1, q2, z0, z1, hi1, hel, stQ, hmc, hb, kC_fold, encM_len, kC_len, eS_bld, g1, g2, g4, g6, List.length_map, Int.toNat_natCast, push_mV, push_mS, push_mE, rows_push1, RS_, argsTM, stepE, stBuiltin, stBox, stAlloc, stLoad, stStore, stField, stExtract, stBin, stUn, stConv, stNilCheck, stFieldV, stIndex, stIndexAddr, stLen, stMin, stMax, stBuild, fillI, stBuildSlice, setRows, stMakeSlice, stAppend, srcR, segR, rdCells, stSlice, bnd, stArr, stCopy, stConv2, isIntV, cutR, byteRows, rowByte, binStr, Option.map_some, Option.map_none, eq_self, canTL, canT, canH, canL, patL, gcH, gcT, gcI, get_gcT, pullS, pullI, pushS, push1, pushI, pullHW, roC, ix, List.map_map, Function.comp_def, List.zip_cons_cons, List.zip_nil_left, List.zip_nil_right, List.range'_zero, List.range'_succ, rd, get, put, IV.cells, ofValue, seg, spl, ldIV, binInt, eqI, cellsEq, leafEq, resI, flat, isT, upd, up1, nextM, cR, ptrC, nAl, isAl, ST_, Nat.reduceAdd, Nat.reduceMul, Nat.reduceEqDiff, Nat.reduceLeDiff, ne_eq, reduceCtorEq, reduceIte, forall_const, implies_true, Int.reduceToNat, Int.reduceLE, Int.reduceLT, bne, Int.reduceEq, Int.reduceNe, Int.reduceNeg, Int.reduceAdd, Int.reduceSub, Int.reduceMul, Int.reduceBEq, Int.reduceBNe, Nat.reduceLT, Nat.reduceSub, WLS, Tryd.underlying23, Tryd.underlying3, Tryd.underlying5, Tryd.underlying53, Tryd.underlying70, ty_ag_22, ty_ag_23, ty_ag_26, ty_ag_31, ty_ag_32, ty_ag_35, ty_ag_4, ty_ag_5, ty_ag_86, ty_ar_24, ty_ar_25, ty_by_36, ty_of_29_0, ty_of_29_1, ty_of_29_2, ty_of_29_3, ty_of_35_0, ty_of_35_1, ty_of_86_0, ty_of_86_1, ty_of_86_2, ty_of_86_3, ty_of_86_4, ty_ok_35, ty_ok_51, ty_ok_58, ty_ok_63, ty_ok_73, ty_ok_95, ty_pl_35_0, ty_pl_35_1, ty_pl_35_2, ty_pl_51_0, ty_pl_51_1, ty_pl_51_2, ty_pl_58_0, ty_pl_58_4, ty_pl_58_5, ty_pl_58_9, ty_pl_63_0, ty_pl_63_1, ty_pl_73_0, ty_pl_73_1, ty_pl_73_2, ty_pl_95_0, ty_pl_95_1, ty_sl_22, ty_sl_26, ty_sr_36, ty_sz_22, ty_sz_23, ty_sz_26, ty_sz_31, ty_sz_32, ty_sz_35, ty_sz_4, ty_sz_5, ty_sz_86, ty_ze_35, ty_ze_51, ty_ze_58, ty_ze_63, ty_ze_73, ty_ze_86, ty_ze_95, ty_zs_36]
      | (with_reducible refine drawK_id ?_); refine drawK_auto hmix (by kernel_rfl) ?_
      | (with_reducible refine draw_fin ?_ ?_); · kernel_rfl
      | (with_reducible refine draw_id ?_); kernel_rfl
      | (with_reducible refine callD_id (f := 21) ?_); refine callD_of (f32 mc) rfl rfl ?_
      | ((with_reducible refine callD_id (f := 26) ?_); refine callD_new (Hw' := [.rows true 1 [[.ref 1]], mpS c2 L2]) (Nw := []) [] [6, 7] (FunW_eq c26) (by simp [pullHW, roC, Function.comp_def, rows_pull, pullS, ix, pull_mV, pull_mS, pull_mE]) rfl rfl (by decide) (by simp [ne_mV, ne_mS, ne_mE]) (by simp [pullI, pullS, ix, kC_pull, kV, kC, encM, eS, eS_bld]) (by simp) ?_)
      | (with_reducible refine And.intro ?_ ?_; · omega)
    refine ⟨ss.length - (i + 1), _, _, by omega, Wk.gc [0, 1, 2, 3, 4, 5, 6, 7, 8, 9, 10] rfl (by decide), i + 1, c2, L2, rfl, by omega, by omega, hs, he2, ?_, ?_, ?_, ?_, ?_⟩ <;> first | with_reducible rfl | (simp [Function.comp_def, get_gcT, get, put, gcI, pullI, pullS, gcH, patL, canL, canH, canTL, canT, rows_pull, ix, g1, g2, g4, g6]; done) | (simp [Function.comp_def, get_gcT, get, put, gcI, pullI, pullS, gcH, patL, canL, canH, canTL, canT, rows_pull, ix, HM, playC, poC_pull, stQ_pull, pull_mV, pull_mS, pull_mE]; done) | (simp [Function.comp_def, get_gcT, get, put, gcI, pullI, pullS, gcH, patL, canL, canH, canTL, canT, rows_pull, ix, HM, playC, poC_pull, stQ_pull, pull_mV, pull_mS, pull_mE]; (try intros); rfl)
  · have hsx : (cs, Ls) = madeS ss := by
      rw [← hs, List.drop_eq_nil_of_le (by simp; omega)]; rfl
    have hs1 : (madeS ss).1 = cs := by rw [← hsx]
    have hs2 : (madeS ss).2 = Ls := by rw [← hsx]
    rw [hs1, hs2]
    refine' (fun (key : KeyT Tryd.prog 121 (X.at 2) (fun tm => get tm 1 = .s (.ptr 2 0 0) ∧ get tm 2 = .s (.ptr 3 0 0) ∧ get tm 4 = .s (.ptr 10 0 0) ∧ get tm 7 = .s (.raw (.slice none 0 0)) ∧ get tm 8 = .s (.raw (.int .i64 0))) (HM ps ss v room k3 L3 cs Ls) _ _) => ?main) ?key
    case main =>
      cases q1 : decide ((i : Int) < (ss.length : Int)) with
      | true =>
        have q2 : decide ((i : Int) < 6) = false := decide_eq_false (by have := of_decide_eq_true q1; omega)
        repeat' first
          | with_reducible rfl
          | simp only [q1, q2, g1, g2, g4, g6, List.length_map, push_mV, push_mS, push_mE, rows_push1, RS_, argsTM, stepE, stBuiltin, stBox, stAlloc, stLoad, stStore, stField, stExtract, stBin, stUn, stConv, stNilCheck, stFieldV, stIndex, stIndexAddr, stLen, stMin, stMax, stBuild, fillI, stBuildSlice, setRows, stMakeSlice, stAppend, srcR, segR, rdCells, stSlice, bnd, stArr, stCopy, stConv2, isIntV, cutR, byteRows, rowByte, binStr, Option.map_some, Option.map_none, eq_self, canTL, canT, canH, canL, patL, gcH, gcT, gcI, get_gcT, pullS, pullI, pushS, push1, pushI, pullHW, roC, ix, List.map_map, Function.comp_def, List.zip_cons_cons, List.zip_nil_left, List.zip_nil_right, List.range'_zero, List.range'_succ, rd, get, put, IV.cells, ofValue, seg, spl, ldIV, binInt, eqI, cellsEq, leafEq, resI, flat, isT, upd, up1, nextM, cR, ptrC, nAl, isAl, ST_, Nat.reduceAdd, Nat.reduceMul, Nat.reduceEqDiff, Nat.reduceLeDiff, ne_eq, reduceCtorEq, reduceIte, forall_const, implies_true, Int.reduceToNat, Int.reduceLE, Int.reduceLT, bne, Int.reduceEq, Int.reduceNe, Int.reduceNeg, Int.reduceAdd, Int.reduceSub, Int.reduceMul, Int.reduceBEq, Int.reduceBNe, Nat.reduceLT, Nat.reduceSub, WLS, Tryd.underlying23, Tryd.underlying3, Tryd.underlying5, Tryd.underlying53, Tryd.underlying70, ty_ag_22, ty_ag_23, ty_ag_26, ty_ag_31, ty_ag_32, ty_ag_35, ty_ag_4, ty_ag_5, ty_ag_86, ty_ar_24, ty_ar_25, ty_by_36, ty_of_29_0, ty_of_29_1, ty_of_29_2, ty_of_29_3, ty_of_35_0, ty_of_35_1, ty_of_86_0, ty_of_86_1, ty_of_86_2, ty_of_86_3, ty_of_86_4, ty_ok_35, ty_ok_51, ty_ok_58, ty_ok_63, ty_ok_73, ty_ok_95, ty_pl_35_0, ty_pl_35_1, ty_pl_35_2, ty_pl_51_0, ty_pl_51_1, ty_pl_51_2, ty_pl_58_0, ty_pl_58_4, ty_pl_58_5, ty_pl_58_9, ty_pl_63_0, ty_pl_63_1, ty_pl_73_0, ty_pl_73_1, ty_pl_73_2, ty_pl_95_0, ty_pl_95_1, ty_sl_22, ty_sl_26, ty_sr_36, ty_sz_22, ty_sz_23, ty_sz_26, ty_sz_31, ty_sz_32, ty_sz_35, ty_sz_4, ty_sz_5, ty_sz_86, ty_ze_35, ty_ze_51, ty_ze_58, ty_ze_63, ty_ze_73, ty_ze_86, ty_ze_95, ty_zs_36]
          | (with_reducible refine drawK_id ?_); refine drawK_auto hmix (by kernel_rfl) ?_
          | (with_reducible refine draw_fin ?_ ?_); · kernel_rfl
          | (with_reducible refine draw_id ?_); kernel_rfl
          | (with_reducible refine And.intro ?_ ?_; · omega)
        refine key _ ⟨?_, ?_, ?_, ?_, ?_⟩ <;> (simp [get, g1, g2, g4, g6]; done)
      | false =>
        repeat' first
          | with_reducible rfl
          | simp only [q1, g1, g2, g4, g6, List.length_map, push_mV, push_mS, push_mE, rows_push1, RS_, argsTM, stepE, stBuiltin, stBox, stAlloc, stLoad, stStore, stField, stExtract, stBin, stUn, stConv, stNilCheck, stFieldV, stIndex, stIndexAddr, stLen, stMin, stMax, stBuild, fillI, stBuildSlice, setRows, stMakeSlice, stAppend, srcR, segR, rdCells, stSlice, bnd, stArr, stCopy, stConv2, isIntV, cutR, byteRows, rowByte, binStr, Option.map_some, Option.map_none, eq_self, canTL, canT, canH, canL, patL, gcH, gcT, gcI, get_gcT, pullS, pullI, pushS, push1, pushI, pullHW, roC, ix, List.map_map, Function.comp_def, List.zip_cons_cons, List.zip_nil_left, List.zip_nil_right, List.range'_zero, List.range'_succ, rd, get, put, IV.cells, ofValue, seg, spl, ldIV, binInt, eqI, cellsEq, leafEq, resI, flat, isT, upd, up1, nextM, cR, ptrC, nAl, isAl, ST_, Nat.reduceAdd, Nat.reduceMul, Nat.reduceEqDiff, Nat.reduceLeDiff, ne_eq, reduceCtorEq, reduceIte, forall_const, implies_true, Int.reduceToNat, Int.reduceLE, Int.reduceLT, bne, Int.reduceEq, Int.reduceNe, Int.reduceNeg, Int.reduceAdd, Int.reduceSub, Int.reduceMul, Int.reduceBEq, Int.reduceBNe, Nat.reduceLT, Nat.reduceSub, WLS, Tryd.underlying23, Tryd.underlying3, Tryd.underlying5, Tryd.underlying53, Tryd.underlying70, ty_ag_22, ty_ag_23, ty_ag_26, ty_ag_31, ty_ag_32, ty_ag_35, ty_ag_4, ty_ag_5, ty_ag_86, ty_ar_24, ty_ar_25, ty_by_36, ty_of_29_0, ty_of_29_1, ty_of_29_2, ty_of_29_3, ty_of_35_0, ty_of_35_1, ty_of_86_0, ty_of_86_1, ty_of_86_2, ty_of_86_3, ty_of_86_4, ty_ok_35, ty_ok_51, ty_ok_58, ty_ok_63, ty_ok_73, ty_ok_95, ty_pl_35_0, ty_pl_35_1, ty_pl_35_2, ty_pl_51_0, ty_pl_51_1, ty_pl_51_2, ty_pl_58_0, ty_pl_58_4, ty_pl_58_5, ty_pl_58_9, ty_pl_63_0, ty_pl_63_1, ty_pl_73_0, ty_pl_73_1, ty_pl_73_2, ty_pl_95_0, ty_pl_95_1, ty_sl_22, ty_sl_26, ty_sr_36, ty_sz_22, ty_sz_23, ty_sz_26, ty_sz_31, ty_sz_32, ty_sz_35, ty_sz_4, ty_sz_5, ty_sz_86, ty_ze_35, ty_ze_51, ty_ze_58, ty_ze_63, ty_ze_73, ty_ze_86, ty_ze_95, ty_zs_36]
          | (with_reducible refine drawK_id ?_); refine drawK_auto hmix (by kernel_rfl) ?_
          | (with_reducible refine draw_fin ?_ ?_); · kernel_rfl
          | (with_reducible refine draw_id ?_); kernel_rfl
          | (with_reducible refine And.intro ?_ ?_; · omega)
        refine key _ ⟨?_, ?_, ?_, ?_, ?_⟩ <;> (simp [get, g1, g2, g4, g6]; done)
    case key =>
      intro tm hk
      obtain ⟨g1, g2, g4, g7, g8⟩ := hk
      refine loopK_wk (by kernel_rfl) (IM3 ps ss v room k3 L3 cs Ls) ps.length ⟨_, _, Wk.can2 [(21, 7)] [] [.inl 0, .inl 1, .inl 2, .inl 3, .inl 4, .inl 5, .inl 6, .inl 7, .inl 8, .inl 9, .inl 10, .inr 0] rfl (by simp [patL, HM]), 0, by omega, by omega, by omega, ?_, ?_, ?_, ?_, ?_, ?_⟩ ?_
      · simp [Function.comp_def, get_gcT, get, put, gcI, pullI, pullS, gcH, patL, canL, canH, canTL, canT, rows_pull, ix, g1, g7]
      · simp [Function.comp_def, get_gcT, get, put, gcI, pullI, pullS, gcH, patL, canL, canH, canTL, canT, rows_pull, ix, g2, g7]
      · simp [Function.comp_def, get_gcT, get, put, gcI, pullI, pullS, gcH, patL, canL, canH, canTL, canT, rows_pull, ix, g4, g7]
      · simp [Function.comp_def, get_gcT, get, put, gcI, pullI, pullS, gcH, patL, canL, canH, canTL, canT, rows_pull, ix, g7, HM]
      · simp [Function.comp_def, get_gcT, get, put, gcI, pullI, pullS, gcH, patL, canL, canH, canTL, canT, rows_pull, ix, g8, g7]
      · simp [Function.comp_def, get_gcT, get, put, gcI, pullI, pullS, gcH, patL, canL, canH, canTL, canT, rows_pull, ix, g7, HM, playC, poC_pull, stQ_pull, pull_mV, pull_mS, pull_mE]
      clear g1 g2 g4 g7 g8 g6
      rintro mm tm H ⟨i, rfl, hi, hi8, g1, g2, g4, g7, g8, rfl⟩
      have hll : ((ps.take i).map prQ).length = i := by simp; omega
      have hl2 : (ps.take i).length = i := by simp; omega
      have sg : segR ((ps.take i).map prQ) 0 i = some ((ps.take i).map prQ) := by unfold segR; rw [if_pos ⟨rfl, hll.symm⟩]
      unfold HM playC
      simp only [List.cons_append, List.nil_append]
      by_cases hq : i < ps.length ∧ i < 8
      · have q1 : decide ((i : Int) < (ps.length : Int)) = true := decide_eq_true (by omega)
        have q2 : decide ((i : Int) < 8) = true := decide_eq_true (by omega)
        have z0 : (0 : Int) ≤ (i : Int) := by omega
        have z1 : (i : Int) < (ps.length : Int) := by omega
        have hi1 : IntKind.i64.wrap ((i : Int) + 1) = ((i + 1 : Nat) : Int) := by rw [wr_i64 (by omega) (by omega)]; rfl
        obtain ⟨y, hy⟩ : ∃ y, ps[i]? = some y := ⟨_, List.getElem?_eq_getElem hq.1⟩
        have hel : (ps.map poC)[i]? = some (poC y) := by rw [List.getElem?_map, hy]; rfl
        have htk := take_succ_at ps i y hy
        have hpy : prQ y = prC (portC y) := rfl
        have hbig : (i + 1) * 136 ≤ 140737488355328 := by omega
        repeat' first
          | with_reducible rfl
          | simp only [q1, q2, z0, z1, hi1, hel, hbig, sg, hl2, poC, g1, g2, g4, g7, g8, List.length_map, Int.toNat_natCast, push_mV, push_mS, push_mE, rows_push1, RS_, argsTM, stepE, stBuiltin, stBox, stAlloc, stLoad, stStore, stField, stExtract, stBin, stUn, stConv, stNilCheck, stFieldV, stIndex, stIndexAddr, stLen, stMin, stMax, stBuild, fillI, stBuildSlice, setRows, stMakeSlice, stAppend, srcR, segR, rdCells, stSlice, bnd, stArr, stCopy, stConv2, isIntV, cutR, byteRows, rowByte, binStr, Option.map_some, Option.map_none, eq_self, canTL, canT, canH, canL, patL, gcH, gcT, gcI, get_gcT, pullS, pullI, pushS, push1, pushI, pullHW, roC, ix, List.map_map, Function.comp_def, List.zip_cons_cons, List.zip_nil_left, List.zip_nil_right, List.range'_zero, List.range'_succ, rd, get, put, IV.cells, ofValue, seg, spl, ldIV, binInt, eqI, cellsEq, leafEq, resI, flat, isT, upd, up1, nextM, cR, ptrC, nAl, isAl, ST_, Nat.reduceAdd, Nat.reduceMul, Nat.reduceEqDiff, Nat.reduceLeDiff, ne_eq, reduceCtorEq, reduceIte, forall_const, implies_true, Int.reduceToNat, Int.reduceLE, Int.reduceLT, bne, Int.reduceEq, Int.reduceNe, Int.reduceNeg, Int.reduceAdd, Int.reduceSub, Int.reduceMul, Int.reduceBEq, Int.reduceBNe, Nat.reduceLT, Nat.reduceSub, WLS, Tryd.underlying23, Tryd.underlying3, Tryd.underlying5, Tryd.underlying53, Tryd.underlying70, ty_ag_22, ty_ag_23, ty_ag_26, ty_ag_31, ty_ag_32, ty_ag_35, ty_ag_4, ty_ag_5, ty_ag_86, ty_ar_24, ty_ar_25, ty_by_36, ty_of_29_0, ty_of_29_1, ty_of_29_2, ty_of_29_3, ty_of_35_0, ty_of_35_1, ty_of_86_0, ty_of_86_1, ty_of_86_2, ty_of_86_3, ty_of_86_4, ty_ok_35, ty_ok_51, ty_ok_58, ty_ok_63, ty_ok_73, ty_ok_95, ty_pl_35_0, ty_pl_35_1, ty_pl_35_2, ty_pl_51_0, ty_pl_51_1, ty_pl_51_2, ty_pl_58_0, ty_pl_58_4, ty_pl_58_5, ty_pl_58_9, ty_pl_63_0, ty_pl_63_1, ty_pl_73_0, ty_pl_73_1, ty_pl_73_2, ty_pl_95_0, ty_pl_95_1, ty_sl_22, ty_sl_26, ty_sr_36, ty_sz_22, ty_sz_23, ty_sz_26, ty_sz_31, ty_sz_32, ty_sz_35, ty_sz_4, ty_sz_5, ty_sz_86, ty_ze_35, ty_ze_51, ty_ze_58, ty_ze_63, ty_ze_73, ty_ze_86, ty_ze_95, ty_zs_36]
          | (with_reducible refine drawK_id ?_); refine drawK_auto hmix (by kernel_rfl) ?_
          | (with_reducible refine draw_fin ?_ ?_); · kernel_rfl
          | (with_reducible refine draw_id ?_); kernel_rfl
          | (with_reducible refine And.intro ?_ ?_; · omega)
        refine ⟨ps.length - (i + 1), _, _, by omega, Wk.gc [0, 1, 2, 3, 4, 5, 6, 7, 8, 9, 10, 14] rfl (by decide), i + 1, rfl, by omega, by omega, ?_, ?_, ?_, ?_, ?_, ?_⟩
        · simp [Function.comp_def, get_gcT, get, put, gcI, pullI, pullS, gcH, patL, canL, canH, canTL, canT, rows_pull, ix, g1, g2, g4, g7, g8]
        · simp [Function.comp_def, get_gcT, get, put, gcI, pullI, pullS, gcH, patL, canL, canH, canTL, canT, rows_pull, ix, g1, g2, g4, g7, g8]
        · simp [Function.comp_def, get_gcT, get, put, gcI, pullI, pullS, gcH, patL, canL, canH, canTL, canT, rows_pull, ix, g1, g2, g4, g7, g8]
        · simp [Function.comp_def, get_gcT, get, put, gcI, pullI, pullS, gcH, patL, canL, canH, canTL, canT, rows_pull, ix, g1, g2, g4, g7, g8]
        · simp [Function.comp_def, get_gcT, get, put, gcI, pullI, pullS, gcH, patL, canL, canH, canTL, canT, rows_pull, ix, g1, g2, g4, g7, g8]
        · simp [Function.comp_def, get_gcT, get, put, gcI, pullI, pullS, gcH, patL, canL, canH, canTL, canT, rows_pull, ix, HM, playC, poC_pull, stQ_pull, prC_pull, htk, prQ_pull, hpy, prC, portC, pull_mV, pull_mS, pull_mE]
      · have hmi : ps.take i = ps.take 8 := by
          rcases Nat.lt_or_ge i 8 with h8 | h8
          · rw [List.take_of_length_le (by omega : ps.length ≤ i), List.take_of_length_le (by omega : ps.length ≤ 8)]
          · rw [show i = 8 by omega]
        have hml : (madeP ps).length = i := by unfold madeP; rw [← hmi]; simp; omega
        rw [hml]
        have hmm : (madeP ps).map prC = (ps.take i).map prQ := by rw [hmi]; exact madeP_map ps
        rw [hmm]
        cases q1 : decide ((i : Int) < (ps.length : Int)) with
        | true =>
          have q2 : decide ((i : Int) < 8) = false := decide_eq_false (by have := of_decide_eq_true q1; omega)
          repeat' first
            | with_reducible rfl
            | simp only [q1, q2, g1, g2, g4, g7, g8, List.length_map, push_mV, push_mS, push_mE, rows_push1, RS_, argsTM, stepE, stBuiltin, stBox, stAlloc, stLoad, stStore, stField, stExtract, stBin, stUn, stConv, stNilCheck, stFieldV, stIndex, stIndexAddr, stLen, stMin, stMax, stBuild, fillI, stBuildSlice, setRows, stMakeSlice, stAppend, srcR, segR, rdCells, stSlice, bnd, stArr, stCopy, stConv2, isIntV, cutR, byteRows, rowByte, binStr, Option.map_some, Option.map_none, eq_self, canTL, canT, canH, canL, patL, gcH, gcT, gcI, get_gcT, pullS, pullI, pushS, push1, pushI, pullHW, roC, ix, List.map_map, Function.comp_def, List.zip_cons_cons, List.zip_nil_left, List.zip_nil_right, List.range'_zero, List.range'_succ, rd, get, put, IV.cells, ofValue, seg, spl, ldIV, binInt, eqI, cellsEq, leafEq, resI, flat, isT, upd, up1, nextM, cR, ptrC, nAl, isAl, ST_, Nat.reduceAdd, Nat.reduceMul, Nat.reduceEqDiff, Nat.reduceLeDiff, ne_eq, reduceCtorEq, reduceIte, forall_const, implies_true, Int.reduceToNat, Int.reduceLE, Int.reduceLT, bne, Int.reduceEq, Int.reduceNe, Int.reduceNeg, Int.reduceAdd, Int.reduceSub, Int.reduceMul, Int.reduceBEq, Int.reduceBNe, Nat.reduceLT, Nat.reduceSub, WLS, Tryd.underlying23, Tryd.underlying3, Tryd.underlying5, Tryd.underlying53, Tryd.underlying70, ty_ag_22, ty_ag_23, ty_ag_26, ty_ag_31, ty_ag_32, ty_ag_35, ty_ag_4, ty_ag_5, ty_ag_86, ty_ar_24, ty_ar_25, ty_by_36, ty_of_29_0, ty_of_29_1, ty_of_29_2, ty_of_29_3, ty_of_35_0, ty_of_35_1, ty_of_86_0, ty_of_86_1, ty_of_86_2, ty_of_86_3, ty_of_86_4, ty_ok_35, ty_ok_51, ty_ok_58, ty_ok_63, ty_ok_73, ty_ok_95, ty_pl_35_0, ty_pl_35_1, ty_pl_35_2, ty_pl_51_0, ty_pl_51_1, ty_pl_51_2, ty_pl_58_0, ty_pl_58_4, ty_pl_58_5, ty_pl_58_9, ty_pl_63_0, ty_pl_63_1, ty_pl_73_0, ty_pl_73_1, ty_pl_73_2, ty_pl_95_0, ty_pl_95_1, ty_sl_22, ty_sl_26, ty_sr_36, ty_sz_22, ty_sz_23, ty_sz_26, ty_sz_31, ty_sz_32, ty_sz_35, ty_sz_4, ty_sz_5, ty_sz_86, ty_ze_35, ty_ze_51, ty_ze_58, ty_ze_63, ty_ze_73, ty_ze_86, ty_ze_95, ty_zs_36]
            | (with_reducible refine drawK_id ?_); refine drawK_auto hmix (by kernel_rfl) ?_
            | (with_reducible refine draw_fin ?_ ?_); · kernel_rfl
            | (with_reducible refine draw_id ?_); kernel_rfl
            | (refine ⟨_, _, (WkR.gc [0, 1, 4, 5, 6, 7, 8, 9, 11] rfl (by decide)).to ?_ ?_, by simp, rfl, rfl⟩ <;> (first | (simp [gcI, pullI, pullS, ix]; done) | (simp [Function.comp_def, get_gcT, get, put, gcI, pullI, pullS, gcH, patL, canL, canH, canTL, canT, rows_pull, ix, poC_pull, stQ_pull, prC_pull, prQ_pull, madeP, hmi, pull_mV, pull_mS, pull_mE]; done)))
            | (with_reducible refine And.intro ?_ ?_; · omega)
        | false =>
          repeat' first
            | with_reducible rfl
            | simp only [q1, g1, g2, g4, g7, g8, List.length_map, push_mV, push_mS, push_mE, rows_push1, RS_, argsTM, stepE, stBuiltin, stBox, stAlloc, stLoad, stStore, stField, stExtract, stBin, stUn, stConv, stNilCheck, stFieldV, stIndex, stIndexAddr, stLen, stMin, stMax, stBuild, fillI, stBuildSlice, setRows, stMakeSlice, stAppend, srcR, segR, rdCells, stSlice, bnd, stArr, stCopy, stConv2, isIntV, cutR, byteRows, rowByte, binStr, Option.map_some, Option.map_none, eq_self, canTL, canT, canH, canL, patL, gcH, gcT, gcI, get_gcT, pullS, pullI, pushS, push1, pushI, pullHW, roC, ix, List.map_map, Function.comp_def, List.zip_cons_cons, List.zip_nil_left, List.zip_nil_right, List.range'_zero, List.range'_succ, rd, get, put, IV.cells, ofValue, seg, spl, ldIV, binInt, eqI, cellsEq, leafEq, resI, flat, isT, upd, up1, nextM, cR, ptrC, nAl, isAl, ST_, Nat.reduceAdd, Nat.reduceMul, Nat.reduceEqDiff, Nat.reduceLeDiff, ne_eq, reduceCtorEq, reduceIte, forall_const, implies_true, Int.reduceToNat, Int.reduceLE, Int.reduceLT, bne, Int.reduceEq, Int.reduceNe, Int.reduceNeg, Int.reduceAdd, Int.reduceSub, Int.reduceMul, Int.reduceBEq, Int.reduceBNe, Nat.reduceLT, Nat.reduceSub, WLS, Tryd.underlying23, Tryd.underlying3, Tryd.underlying5, Tryd.underlying53, Tryd.underlying70, ty_ag_22, ty_ag_23, ty_ag_26, ty_ag_31, ty_ag_32, ty_ag_35, ty_ag_4, ty_ag_5, ty_ag_86, ty_ar_24, ty_ar_25, ty_by_36, ty_of_29_0, ty_of_29_1, ty_of_29_2, ty_of_29_3, ty_of_35_0, ty_of_35_1, ty_of_86_0, ty_of_86_1, ty_of_86_2, ty_of_86_3, ty_of_86_4, ty_ok_35, ty_ok_51, ty_ok_58, ty_ok_63, ty_ok_73, ty_ok_95, ty_pl_35_0, ty_pl_35_1, ty_pl_35_2, ty_pl_51_0, ty_pl_51_1, ty_pl_51_2, ty_pl_58_0, ty_pl_58_4, ty_pl_58_5, ty_pl_58_9, ty_pl_63_0, ty_pl_63_1, ty_pl_73_0, ty_pl_73_1, ty_pl_73_2, ty_pl_95_0, ty_pl_95_1, ty_sl_22, ty_sl_26, ty_sr_36, ty_sz_22, ty_sz_23, ty_sz_26, ty_sz_31, ty_sz_32, ty_sz_35, ty_sz_4, ty_sz_5, ty_sz_86, ty_ze_35, ty_ze_51, ty_ze_58, ty_ze_63, ty_ze_73, ty_ze_86, ty_ze_95, ty_zs_36]
            | (with_reducible refine drawK_id ?_); refine drawK_auto hmix (by kernel_rfl) ?_
            | (with_reducible refine draw_fin ?_ ?_); · kernel_rfl
            | (with_reducible refine draw_id ?_); kernel_rfl
            | (refine ⟨_, _, (WkR.gc [0, 1, 4, 5, 6, 7, 8, 9, 11] rfl (by decide)).to ?_ ?_, by simp, rfl, rfl⟩ <;> (first | (simp [gcI, pullI, pullS, ix]; done) | (simp [Function.comp_def, get_gcT, get, put, gcI, pullI, pullS, gcH, patL, canL, canH, canTL, canT, rows_pull, ix, poC_pull, stQ_pull, prC_pull, prQ_pull, madeP, hmi, pull_mV, pull_mS, pull_mE]; done)))
            | (with_reducible refine And.intro ?_ ?_; · omega)
end Go.Ev
