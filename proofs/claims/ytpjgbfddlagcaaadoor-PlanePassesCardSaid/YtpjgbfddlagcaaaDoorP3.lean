/- A part of the proof: contracts of the functions that the statement reaches. -/
import Derived.Test.YtpjgbfddlagcaaaDoorEvC
import Derived.Test.YtpjgbfddlagcaaaDoorP2
namespace Go.Ev
open Go.Proofs
set_option maxRecDepth 100000
set_option linter.unusedSimpArgs false
set_option linter.unusedVariables false
set_option maxHeartbeats 4000000
open Srt
def newB (n : Int) (cf : Nat) (Lf : List EN) (k : KEY) (fr : Int) : Bool := (look (learnK n cf Lf k fr).1.2 k).isSome && !(look Lf k).isSome
def rC (x : SV) (w : Int) (a b : Bool) : List SV := [x, .raw (.int .i64 w), .raw (.bool a), .raw (.bool b)]
theorem learnW (n T : Int) (cf : Nat) (Lf : List EN) (h : OKF n T cf Lf) (hn : 1 ≤ n) (hn2 : n ≤ 100000) (vid : Int) (f : FRM) (hk : KOK ⟨vid, f.s⟩) (fr : Int) (hnd : NDk (learnK n cf Lf ⟨vid, f.s⟩ fr).1.2) :
    FunW Tryd.prog 27 [] [.rows true 4 [rC (.raw (.slice none 0 0)) 0 false false], .rows true 3 [[.raw (.int .i64 n), .raw (.int .i64 T), .ref 2]], mpC cf Lf] [.s (.ptr 0 0 0), .a [.junk, .junk, .ptr 1 0 0], kV vid, .s (.raw (.int .i64 fr)), .a (frC f)]
    fun r Hn => r = .t [] ∧ Hn = [.rows true 4 [rC (.raw (.slice none 0 0)) 0 (newB n cf Lf ⟨vid, f.s⟩ fr) (learnK n cf Lf ⟨vid, f.s⟩ fr).2.2], .rows true 3 [[.raw (.int .i64 n), .raw (.int .i64 T), .ref 2]], mpC (learnK n cf Lf ⟨vid, f.s⟩ fr).1.1 (learnK n cf Lf ⟨vid, f.s⟩ fr).1.2] := by
  refine funW_of fun X => ?_
  have hL1 : Lf.length ≤ 100000 := by have := h.len; omega
  have c34 := f34 n T cf Lf h.k h.s h.c hn hL1 (sort_ok Lf h.k h.v hL1) ⟨vid, f.s⟩ fr
  have c35 := f35 n T cf Lf h.k ⟨vid, f.s⟩
  have c36 := f35 n T (learnK n cf Lf ⟨vid, f.s⟩ fr).1.1 _ hnd ⟨vid, f.s⟩
  have kf : (⟨vid, ⟨f.s.m0, f.s.m1, f.s.m2, f.s.m3, f.s.m4, f.s.m5⟩⟩ : KEY) = ⟨vid, f.s⟩ := rfl
  have kd : kC ⟨vid, f.s⟩ = [.raw (.int .u16 vid), .raw (.int .u8 f.s.m0), .raw (.int .u8 f.s.m1), .raw (.int .u8 f.s.m2), .raw (.int .u8 f.s.m3), .raw (.int .u8 f.s.m4), .raw (.int .u8 f.s.m5)] := rfl
  unfold newB
  generalize learnK n cf Lf ⟨vid, f.s⟩ fr = P at *
  obtain ⟨⟨c2, L2⟩, ge, gb⟩ := P
  simp only at c34 c36
  generalize ((look Lf ⟨vid, f.s⟩).map (·.p)).getD 0 = q1 at c35
  generalize ((look L2 ⟨vid, f.s⟩).map (·.p)).getD 0 = q2 at c36
  unfold fdbC at c34 c35 c36
  unfold rC
  cases e1 : (look Lf ⟨vid, f.s⟩).isSome with
  | true =>
    rw [e1] at c35
    cases e2 : (look L2 ⟨vid, f.s⟩).isSome with
    | true =>
      rw [e2] at c36
      refine callK_inline (rs := []) (n := 52) Tryd.func27 rfl rfl rfl (by kernel_rfl) (by kernel_rfl) (by simp only [List.length_cons, List.length_nil]; decide) ?_
      repeat' first
        | with_reducible rfl
        | simp only [frC, kV, kC_fold, encM_len, kC_len, eR_len, push_one, kd, push_mV, push_mS, push_mE, rows_push1, push_one, pull_one, kC_push, kC_pull, kC_len, eR_len, eV_len, eV_pull, eV_push, RS_, argsTM, stepE, stBuiltin, stBox, stAlloc, stLoad, stStore, stField, stExtract, stBin, stUn, stConv, stNilCheck, stFieldV, stIndex, stIndexAddr, stLen, stMin, stMax, stBuild, fillI, stBuildSlice, setRows, stMakeSlice, stAppend, srcR, segR, rdCells, stSlice, bnd, stArr, stCopy, stConv2, isIntV, cutR, byteRows, rowByte, binStr, Option.map_some, Option.map_none, eq_self, canTL, canT, canH, canL, patL, gcH, gcT, gcI, get_gcT, pullS, pullI, pushS, push1, pushI, pullHW, roC, ix, List.map_map, Function.comp_def, List.zip_cons_cons, List.zip_nil_left, List.zip_nil_right, List.range'_zero, List.range'_succ, rd, get, put, IV.cells, ofValue, seg, spl, ldIV, binInt, eqI, cellsEq, leafEq, resI, flat, isT, upd, up1, nextM, cR, ptrC, nAl, isAl, ST_, Nat.reduceAdd, Nat.reduceMul, Nat.reduceEqDiff, Nat.reduceLeDiff, ne_eq, reduceCtorEq, reduceIte, forall_const, implies_true, Int.reduceToNat, Int.reduceLE, Int.reduceLT, bne, Int.reduceEq, Int.reduceNe, Int.reduceNeg, Int.reduceAdd, Int.reduceSub, Int.reduceMul, Int.reduceBEq, Int.reduceBNe, Nat.reduceLT, Nat.reduceSub, WLS, ty_ag_33, ty_ag_40, ty_ag_63, ty_of_35_2, ty_of_42_1, ty_of_48_2, ty_of_48_3, ty_ok_63, ty_pl_63_0, ty_pl_63_1, ty_sz_33, ty_sz_4, ty_sz_40, ty_sz_63, ty_ze_63]
        | (with_reducible refine drawK_id ?_); refine drawK_auto hmix (by kernel_rfl) ?_
        | (with_reducible refine draw_fin ?_ ?_); · kernel_rfl
        | (with_reducible refine draw_id ?_); kernel_rfl
        | ((with_reducible refine callK_idM (f := 12) (c := 2) (ch := mpC cf Lf) rfl ?_); refine callK_funW [] [1, 2] (c35) (by simp [pullHW, roC, Function.comp_def, rows_pull, pullS, ix, pull_mV, pull_mS, pull_mE]) rfl rfl (by decide) (by simp [ne_mV, ne_mS, ne_mE]) (by simp [pullI, pullS, ix, kC_pull, kV, kC, encM, kd]) ?_; rintro r Hn ⟨rfl, rfl⟩ -; skip)
        | ((with_reducible refine callK_idM (f := 12) (c := 2) (ch := mpC c2 L2) rfl ?_); refine callK_funW [] [1, 2] (c36) (by simp [pullHW, roC, Function.comp_def, rows_pull, pullS, ix, pull_mV, pull_mS, pull_mE]) rfl rfl (by decide) (by simp [ne_mV, ne_mS, ne_mE]) (by simp [pullI, pullS, ix, kC_pull, kV, kC, encM, kd]) ?_; rintro r Hn ⟨rfl, rfl⟩ -; skip)
        | ((with_reducible refine callK_id (f := 13) ?_); refine callK_funW [] [1, 2] (c34) (by simp [pullHW, roC, Function.comp_def, rows_pull, pullS, ix, pull_mV, pull_mS, pull_mE]) rfl rfl (by decide) (by simp [ne_mV, ne_mS, ne_mE]) (by simp [pullI, pullS, ix, kC_pull, kV, kC, encM, kd]) ?_; rintro r Hn ⟨rfl, rfl⟩ -; skip)
        | (refine ⟨_, _, WkR.gc [0, 1, 2] rfl (by decide), by simp [gcH], ?_, ?_⟩ <;> (first | (simp [gcI, pullI, pullS]; done) | (simp [gcH, rows_pull, pullS, ix, pull_mV, pull_mS, pull_mE]; done)))
        | (with_reducible refine And.intro ?_ ?_; · omega)
    | false =>
      rw [e2] at c36
      refine callK_inline (rs := []) (n := 52) Tryd.func27 rfl rfl rfl (by kernel_rfl) (by kernel_rfl) (by simp only [List.length_cons, List.length_nil]; decide) ?_
      repeat' first
        | with_reducible rfl
        | simp only [frC, kV, kC_fold, encM_len, kC_len, eR_len, push_one, kd, push_mV, push_mS, push_mE, rows_push1, push_one, pull_one, kC_push, kC_pull, kC_len, eR_len, eV_len, eV_pull, eV_push, RS_, argsTM, stepE, stBuiltin, stBox, stAlloc, stLoad, stStore, stField, stExtract, stBin, stUn, stConv, stNilCheck, stFieldV, stIndex, stIndexAddr, stLen, stMin, stMax, stBuild, fillI, stBuildSlice, setRows, stMakeSlice, stAppend, srcR, segR, rdCells, stSlice, bnd, stArr, stCopy, stConv2, isIntV, cutR, byteRows, rowByte, binStr, Option.map_some, Option.map_none, eq_self, canTL, canT, canH, canL, patL, gcH, gcT, gcI, get_gcT, pullS, pullI, pushS, push1, pushI, pullHW, roC, ix, List.map_map, Function.comp_def, List.zip_cons_cons, List.zip_nil_left, List.zip_nil_right, List.range'_zero, List.range'_succ, rd, get, put, IV.cells, ofValue, seg, spl, ldIV, binInt, eqI, cellsEq, leafEq, resI, flat, isT, upd, up1, nextM, cR, ptrC, nAl, isAl, ST_, Nat.reduceAdd, Nat.reduceMul, Nat.reduceEqDiff, Nat.reduceLeDiff, ne_eq, reduceCtorEq, reduceIte, forall_const, implies_true, Int.reduceToNat, Int.reduceLE, Int.reduceLT, bne, Int.reduceEq, Int.reduceNe, Int.reduceNeg, Int.reduceAdd, Int.reduceSub, Int.reduceMul, Int.reduceBEq, Int.reduceBNe, Nat.reduceLT, Nat.reduceSub, WLS, ty_ag_33, ty_ag_40, ty_ag_63, ty_of_35_2, ty_of_42_1, ty_of_48_2, ty_of_48_3, ty_ok_63, ty_pl_63_0, ty_pl_63_1, ty_sz_33, ty_sz_4, ty_sz_40, ty_sz_63, ty_ze_63]
        | (with_reducible refine drawK_id ?_); refine drawK_auto hmix (by kernel_rfl) ?_
        | (with_reducible refine draw_fin ?_ ?_); · kernel_rfl
        | (with_reducible refine draw_id ?_); kernel_rfl
        | ((with_reducible refine callK_idM (f := 12) (c := 2) (ch := mpC cf Lf) rfl ?_); refine callK_funW [] [1, 2] (c35) (by simp [pullHW, roC, Function.comp_def, rows_pull, pullS, ix, pull_mV, pull_mS, pull_mE]) rfl rfl (by decide) (by simp [ne_mV, ne_mS, ne_mE]) (by simp [pullI, pullS, ix, kC_pull, kV, kC, encM, kd]) ?_; rintro r Hn ⟨rfl, rfl⟩ -; skip)
        | ((with_reducible refine callK_idM (f := 12) (c := 2) (ch := mpC c2 L2) rfl ?_); refine callK_funW [] [1, 2] (c36) (by simp [pullHW, roC, Function.comp_def, rows_pull, pullS, ix, pull_mV, pull_mS, pull_mE]) rfl rfl (by decide) (by simp [ne_mV, ne_mS, ne_mE]) (by simp [pullI, pullS, ix, kC_pull, kV, kC, encM, kd]) ?_; rintro r Hn ⟨rfl, rfl⟩ -; skip)
        | ((with_reducible refine callK_id (f := 13) ?_); refine callK_funW [] [1, 2] (c34) (by simp [pullHW, roC, Function.comp_def, rows_pull, pullS, ix, pull_mV, pull_mS, pull_mE]) rfl rfl (by decide) (by simp [ne_mV, ne_mS, ne_mE]) (by simp [pullI, pullS, ix, kC_pull, kV, kC, encM, kd]) ?_; rintro r Hn ⟨rfl, rfl⟩ -; skip)
        | (refine ⟨_, _, WkR.gc [0, 1, 2] rfl (by decide), by simp [gcH], ?_, ?_⟩ <;> (first | (simp [gcI, pullI, pullS]; done) | (simp [gcH, rows_pull, pullS, ix, pull_mV, pull_mS, pull_mE]; done)))
        | (with_reducible refine And.intro ?_ ?_; · omega)
  | false =>
    rw [e1] at c35
    cases e2 : (look L2 ⟨vid, f.s⟩).isSome with
    | true =>
      rw [e2] at c36
      refine callK_inline (rs := []) (n := 52) Tryd.func27 rfl rfl rfl (by kernel_rfl) (by kernel_rfl) (by simp only [List.length_cons, List.length_nil]; decide) ?_
      repeat' first
        | with_reducible rfl
        | simp only [frC, kV, kC_fold, encM_len, kC_len, eR_len, push_one, kd, push_mV, push_mS, push_mE, rows_push1, push_one, pull_one, kC_push, kC_pull, kC_len, eR_len, eV_len, eV_pull, eV_push, RS_, argsTM, stepE, stBuiltin, stBox, stAlloc, stLoad, stStore, stField, stExtract, stBin, stUn, stConv, stNilCheck, stFieldV, stIndex, stIndexAddr, stLen, stMin, stMax, stBuild, fillI, stBuildSlice, setRows, stMakeSlice, stAppend, srcR, segR, rdCells, stSlice, bnd, stArr, stCopy, stConv2, isIntV, cutR, byteRows, rowByte, binStr, Option.map_some, Option.map_none, eq_self, canTL, canT, canH, canL, patL, gcH, gcT, gcI, get_gcT, pullS, pullI, pushS, push1, pushI, pullHW, roC, ix, List.map_map, Function.comp_def, List.zip_cons_cons, List.zip_nil_left, List.zip_nil_right, List.range'_zero, List.range'_succ, rd, get, put, IV.cells, ofValue, seg, spl, ldIV, binInt, eqI, cellsEq, leafEq, resI, flat, isT, upd, up1, nextM, cR, ptrC, nAl, isAl, ST_, Nat.reduceAdd, Nat.reduceMul, Nat.reduceEqDiff, Nat.reduceLeDiff, ne_eq, reduceCtorEq, reduceIte, forall_const, implies_true, Int.reduceToNat, Int.reduceLE, Int.reduceLT, bne, Int.reduceEq, Int.reduceNe, Int.reduceNeg, Int.reduceAdd, Int.reduceSub, Int.reduceMul, Int.reduceBEq, Int.reduceBNe, Nat.reduceLT, Nat.reduceSub, WLS, ty_ag_33, ty_ag_40, ty_ag_63, ty_of_35_2, ty_of_42_1, ty_of_48_2, ty_of_48_3, ty_ok_63, ty_pl_63_0, ty_pl_63_1, ty_sz_33, ty_sz_4, ty_sz_40, ty_sz_63, ty_ze_63]
        | (with_reducible refine drawK_id ?_); refine drawK_auto hmix (by kernel_rfl) ?_
        | (with_reducible refine draw_fin ?_ ?_); · kernel_rfl
        | (with_reducible refine draw_id ?_); kernel_rfl
        | ((with_reducible refine callK_idM (f := 12) (c := 2) (ch := mpC cf Lf) rfl ?_); refine callK_funW [] [1, 2] (c35) (by simp [pullHW, roC, Function.comp_def, rows_pull, pullS, ix, pull_mV, pull_mS, pull_mE]) rfl rfl (by decide) (by simp [ne_mV, ne_mS, ne_mE]) (by simp [pullI, pullS, ix, kC_pull, kV, kC, encM, kd]) ?_; rintro r Hn ⟨rfl, rfl⟩ -; skip)
        | ((with_reducible refine callK_idM (f := 12) (c := 2) (ch := mpC c2 L2) rfl ?_); refine callK_funW [] [1, 2] (c36) (by simp [pullHW, roC, Function.comp_def, rows_pull, pullS, ix, pull_mV, pull_mS, pull_mE]) rfl rfl (by decide) (by simp [ne_mV, ne_mS, ne_mE]) (by simp [pullI, pullS, ix, kC_pull, kV, kC, encM, kd]) ?_; rintro r Hn ⟨rfl, rfl⟩ -; skip)
        | ((with_reducible refine callK_id (f := 13) ?_); refine callK_funW [] [1, 2] (c34) (by simp [pullHW, roC, Function.comp_def, rows_pull, pullS, ix, pull_mV, pull_mS, pull_mE]) rfl rfl (by decide) (by simp [ne_mV, ne_mS, ne_mE]) (by simp [pullI, pullS, ix, kC_pull, kV, kC, encM, kd]) ?_; rintro r Hn ⟨rfl, rfl⟩ -; skip)
        | (refine ⟨_, _, WkR.gc [0, 1, 2] rfl (by decide), by simp [gcH], ?_, ?_⟩ <;> (first | (simp [gcI, pullI, pullS]; done) | (simp [gcH, rows_pull, pullS, ix, pull_mV, pull_mS, pull_mE]; done)))
        | (with_reducible refine And.intro ?_ ?_; · omega)
    | false =>
      rw [e2] at c36
      refine callK_inline (rs := []) (n := 52) Tryd.func27 rfl rfl rfl (by kernel_rfl) (by kernel_rfl) (by simp only [List.length_cons, List.length_nil]; decide) ?_
      repeat' first
        | with_reducible rfl
        | simp only [frC, kV, kC_fold, encM_len, kC_len, eR_len, push_one, kd, push_mV, push_mS, push_mE, rows_push1, push_one, pull_one, kC_push, kC_pull, kC_len, eR_len, eV_len, eV_pull, eV_push, RS_, argsTM, stepE, stBuiltin, stBox, stAlloc, stLoad, stStore, stField, stExtract, stBin, stUn, stConv, stNilCheck, stFieldV, stIndex, stIndexAddr, stLen, stMin, stMax, stBuild, fillI, stBuildSlice, setRows, stMakeSlice, stAppend, srcR, segR, rdCells, stSlice, bnd, stArr, stCopy, stConv2, isIntV, cutR, byteRows, rowByte, binStr, Option.map_some, Option.map_none, eq_self, canTL, canT, canH, canL, patL, gcH, gcT, gcI, get_gcT, pullS, pullI, pushS, push1, pushI, pullHW, roC, ix, List.map_map, Function.comp_def, List.zip_cons_cons, List.zip_nil_left, List.zip_nil_right, List.range'_zero, List.range'_succ, rd, get, put, IV.cells, ofValue, seg, spl, ldIV, binInt, eqI, cellsEq, leafEq, resI, flat, isT, upd, up1, nextM, cR, ptrC, nAl, isAl, ST_, Nat.reduceAdd, Nat.reduceMul, Nat.reduceEqDiff, Nat.reduceLeDiff, ne_eq, reduceCtorEq, reduceIte, forall_const, implies_true, Int.reduceToNat, Int.reduceLE, Int.reduceLT, bne, Int.reduceEq, Int.reduceNe, Int.reduceNeg, Int.reduceAdd, Int.reduceSub, Int.reduceMul, Int.reduceBEq, Int.reduceBNe, Nat.reduceLT, Nat.reduceSub, WLS, ty_ag_33, ty_ag_40, ty_ag_63, ty_of_35_2, ty_of_42_1, ty_of_48_2, ty_of_48_3, ty_ok_63, ty_pl_63_0, ty_pl_63_1, ty_sz_33, ty_sz_4, ty_sz_40, ty_sz_63, ty_ze_63]
        | (with_reducible refine drawK_id ?_); refine drawK_auto hmix (by kernel_rfl) ?_
        | (with_reducible refine draw_fin ?_ ?_); · kernel_rfl
        | (with_reducible refine draw_id ?_); kernel_rfl
        | ((with_reducible refine callK_idM (f := 12) (c := 2) (ch := mpC cf Lf) rfl ?_); refine callK_funW [] [1, 2] (c35) (by simp [pullHW, roC, Function.comp_def, rows_pull, pullS, ix, pull_mV, pull_mS, pull_mE]) rfl rfl (by decide) (by simp [ne_mV, ne_mS, ne_mE]) (by simp [pullI, pullS, ix, kC_pull, kV, kC, encM, kd]) ?_; rintro r Hn ⟨rfl, rfl⟩ -; skip)
        | ((with_reducible refine callK_idM (f := 12) (c := 2) (ch := mpC c2 L2) rfl ?_); refine callK_funW [] [1, 2] (c36) (by simp [pullHW, roC, Function.comp_def, rows_pull, pullS, ix, pull_mV, pull_mS, pull_mE]) rfl rfl (by decide) (by simp [ne_mV, ne_mS, ne_mE]) (by simp [pullI, pullS, ix, kC_pull, kV, kC, encM, kd]) ?_; rintro r Hn ⟨rfl, rfl⟩ -; skip)
        | ((with_reducible refine callK_id (f := 13) ?_); refine callK_funW [] [1, 2] (c34) (by simp [pullHW, roC, Function.comp_def, rows_pull, pullS, ix, pull_mV, pull_mS, pull_mE]) rfl rfl (by decide) (by simp [ne_mV, ne_mS, ne_mE]) (by simp [pullI, pullS, ix, kC_pull, kV, kC, encM, kd]) ?_; rintro r Hn ⟨rfl, rfl⟩ -; skip)
        | (refine ⟨_, _, WkR.gc [0, 1, 2] rfl (by decide), by simp [gcH], ?_, ?_⟩ <;> (first | (simp [gcI, pullI, pullS]; done) | (simp [gcH, rows_pull, pullS, ix, pull_mV, pull_mS, pull_mE]; done)))
        | (with_reducible refine And.intro ?_ ?_; · omega)
end Go.Ev
