/- A part of the proof: contracts of the functions that the statement reaches. -/
import Derived.Test.YtpjgbfddlagcaaaDoorEvC
import Derived.Test.YtpjgbfddlagcaaaDoorP1
namespace Go.Ev
open Go.Proofs
set_option maxRecDepth 100000
set_option linter.unusedSimpArgs false
set_option linter.unusedVariables false
set_option maxHeartbeats 4000000
open Srt
theorem rowV_len (o : Option VEN) : (rowV o).length = 3 := by cases o <;> rfl
theorem rowV_pull (σ : List Nat) (o : Option VEN) : (rowV o).map (pullS σ) = rowV o := by cases o <;> rfl
theorem rowV_push (σ : List Nat) (o : Option VEN) : (rowV o).map (pushS σ) = rowV o := by cases o <;> rfl
def ownF (f : FRM) : Bool := f.t && f.v != 0
def ingV (pv : Int) (f : FRM) : Int := if ownF f then f.v else pv
def ingC (Lv : List VEN) (pv ac : Int) (fi : Bool) (n : Int) (f : FRM) : Int × Int :=
  if (ownF f && ac == 2) || (!ownF f && ac == 1) then (0, 1) else match lookV Lv (ingV pv f) with
    | none => (0, 2)
    | some v => if fi && !hasP v.m n then (0, 3) else (ingV pv f, 0)
theorem ingW (cv : Nat) (Lv : List VEN) (hv : NDkV Lv) (pv ac : Int) (fi : Bool) (n : Int) (f : FRM) : FunW Tryd.prog 11 [] [tabV, mpV cv Lv] [.a [.raw (.int .u16 pv), .raw (.int .i64 ac), .raw (.bool fi)], .s (.raw (.int .i64 n)), .a (frC f), .s (.ptr 0 0 0)]
    fun r Hn => r = .t [.s (.raw (.int .u16 (ingC Lv pv ac fi n f).1)), .s (.raw (.int .i64 (ingC Lv pv ac fi n f).2))] ∧ Hn = [tabV, mpV cv Lv] := by
  refine funW_of fun X => ?_
  have c14 := f14 cv Lv hv (ingV pv f)
  unfold tabV at c14 ⊢
  cases ht : f.t with
  | true =>
    cases hz : (f.v == 0) with
    | true =>
      have ho : ownF f = false := by simp [ownF, ht, hz, bne]
      have hV : ingV pv f = pv := by simp [ingV, ho]
      rw [hV] at c14
      cases e1 : (ac == 1) with
      | true =>
        generalize lookV Lv pv = ov at c14
        have hC : ingC Lv pv ac fi n f = (0, 1) := by simp [ingC, ho, hV, e1]
        rw [hC]
        refine callK_inline (rs := [.tmp 8, .tmp 9]) (n := 62) Tryd.func11 rfl rfl rfl (by kernel_rfl) (by kernel_rfl) (by simp only [List.length_cons, List.length_nil]; decide) ?_
        repeat' first
          | with_reducible rfl
          | simp only [kV, frC, eV, bne, ht, hz, rowV_len, rowV_pull, rowV_push, e1, push_mV, push_mS, push_mE, rows_push1, push_one, pull_one, kC_push, kC_pull, kC_len, eR_len, eV_len, eV_pull, eV_push, RS_, argsTM, stepE, stBuiltin, stBox, stAlloc, stLoad, stStore, stField, stExtract, stBin, stUn, stConv, stNilCheck, stFieldV, stIndex, stIndexAddr, stLen, stMin, stMax, stBuild, fillI, stBuildSlice, setRows, stMakeSlice, stAppend, srcR, segR, rdCells, stSlice, bnd, stArr, stCopy, stConv2, isIntV, cutR, byteRows, rowByte, binStr, Option.map_some, Option.map_none, eq_self, canTL, canT, canH, canL, patL, gcH, gcT, gcI, get_gcT, pullS, pullI, pushS, push1, pushI, pullHW, roC, ix, List.map_map, Function.comp_def, List.zip_cons_cons, List.zip_nil_left, List.zip_nil_right, List.range'_zero, List.range'_succ, rd, get, put, IV.cells, ofValue, seg, spl, ldIV, binInt, eqI, cellsEq, leafEq, resI, flat, isT, upd, up1, nextM, cR, ptrC, nAl, isAl, ST_, Nat.reduceAdd, Nat.reduceMul, Nat.reduceEqDiff, Nat.reduceLeDiff, ne_eq, reduceCtorEq, reduceIte, forall_const, implies_true, Int.reduceToNat, Int.reduceLE, Int.reduceLT, bne, Int.reduceEq, Int.reduceNe, Int.reduceNeg, Int.reduceAdd, Int.reduceSub, Int.reduceMul, Int.reduceBEq, Int.reduceBNe, Nat.reduceLT, Nat.reduceSub, WLS, ty_ag_23, ty_ag_3, ty_ag_4, ty_ag_70, ty_of_42_2, ty_of_42_5, ty_of_51_0, ty_of_51_1, ty_of_51_2, ty_of_73_1, ty_sz_23, ty_sz_3, ty_sz_4, ty_sz_70, ty_sz_73, ty_ze_73]
          | (with_reducible refine drawK_id ?_); refine drawK_auto hmix (by kernel_rfl) ?_
          | (with_reducible refine draw_fin ?_ ?_); · kernel_rfl
          | (with_reducible refine draw_id ?_); kernel_rfl
          | (with_reducible refine callK_id (f := 19) ?_); refine callK_fun (has _ _) rfl rfl ?_
          | ((with_reducible refine callK_id (f := 16) ?_); refine callK_funW [] [0, 1] (c14) (by simp [pullHW, roC, Function.comp_def, rows_pull, pullS, ix, pull_mV, pull_mS, pull_mE]) rfl rfl (by decide) (by simp [ne_mV, ne_mS, ne_mE]) (by simp [pullI, pullS, ix, kC_pull, kV, kC, encM]) ?_; rintro r Hn ⟨rfl, rfl⟩ -; skip)
          | (refine ⟨_, _, WkR.gc [0, 1] rfl (by decide), by simp [gcH], ?_, ?_⟩ <;> (first | (simp [gcI, pullI, pullS]; done) | (simp [gcH, rows_pull, pullS, ix, pull_mV, pull_mS, pull_mE]; done)))
          | (with_reducible refine And.intro ?_ ?_; · omega)
      | false =>
        cases h1 : lookV Lv pv with
        | none =>
          rw [h1] at c14
          unfold rowV at c14
          simp only [Option.isSome_none] at c14
          have hC : ingC Lv pv ac fi n f = (0, 2) := by simp [ingC, ho, hV, e1, h1]
          rw [hC]
          refine callK_inline (rs := [.tmp 8, .tmp 9]) (n := 62) Tryd.func11 rfl rfl rfl (by kernel_rfl) (by kernel_rfl) (by simp only [List.length_cons, List.length_nil]; decide) ?_
          repeat' first
            | with_reducible rfl
            | simp only [kV, frC, eV, bne, ht, hz, e1, push_mV, push_mS, push_mE, rows_push1, push_one, pull_one, kC_push, kC_pull, kC_len, eR_len, eV_len, eV_pull, eV_push, RS_, argsTM, stepE, stBuiltin, stBox, stAlloc, stLoad, stStore, stField, stExtract, stBin, stUn, stConv, stNilCheck, stFieldV, stIndex, stIndexAddr, stLen, stMin, stMax, stBuild, fillI, stBuildSlice, setRows, stMakeSlice, stAppend, srcR, segR, rdCells, stSlice, bnd, stArr, stCopy, stConv2, isIntV, cutR, byteRows, rowByte, binStr, Option.map_some, Option.map_none, eq_self, canTL, canT, canH, canL, patL, gcH, gcT, gcI, get_gcT, pullS, pullI, pushS, push1, pushI, pullHW, roC, ix, List.map_map, Function.comp_def, List.zip_cons_cons, List.zip_nil_left, List.zip_nil_right, List.range'_zero, List.range'_succ, rd, get, put, IV.cells, ofValue, seg, spl, ldIV, binInt, eqI, cellsEq, leafEq, resI, flat, isT, upd, up1, nextM, cR, ptrC, nAl, isAl, ST_, Nat.reduceAdd, Nat.reduceMul, Nat.reduceEqDiff, Nat.reduceLeDiff, ne_eq, reduceCtorEq, reduceIte, forall_const, implies_true, Int.reduceToNat, Int.reduceLE, Int.reduceLT, bne, Int.reduceEq, Int.reduceNe, Int.reduceNeg, Int.reduceAdd, Int.reduceSub, Int.reduceMul, Int.reduceBEq, Int.reduceBNe, Nat.reduceLT, Nat.reduceSub, WLS, ty_ag_23, ty_ag_3, ty_ag_4, ty_ag_70, ty_of_42_2, ty_of_42_5, ty_of_51_0, ty_of_51_1, ty_of_51_2, ty_of_73_1, ty_sz_23, ty_sz_3, ty_sz_4, ty_sz_70, ty_sz_73, ty_ze_73]
            | (with_reducible refine drawK_id ?_); refine drawK_auto hmix (by kernel_rfl) ?_
            | (with_reducible refine draw_fin ?_ ?_); · kernel_rfl
            | (with_reducible refine draw_id ?_); kernel_rfl
            | (with_reducible refine callK_id (f := 19) ?_); refine callK_fun (has _ _) rfl rfl ?_
            | ((with_reducible refine callK_id (f := 16) ?_); refine callK_funW [] [0, 1] (c14) (by simp [pullHW, roC, Function.comp_def, rows_pull, pullS, ix, pull_mV, pull_mS, pull_mE]) rfl rfl (by decide) (by simp [ne_mV, ne_mS, ne_mE]) (by simp [pullI, pullS, ix, kC_pull, kV, kC, encM]) ?_; rintro r Hn ⟨rfl, rfl⟩ -; skip)
            | (refine ⟨_, _, WkR.gc [0, 1] rfl (by decide), by simp [gcH], ?_, ?_⟩ <;> (first | (simp [gcI, pullI, pullS]; done) | (simp [gcH, rows_pull, pullS, ix, pull_mV, pull_mS, pull_mE]; done)))
            | (with_reducible refine And.intro ?_ ?_; · omega)
        | some v =>
          rw [h1] at c14
          unfold rowV at c14
          simp only [Option.isSome_some] at c14
          cases e3 : fi with
          | true =>
            cases e4 : hasP v.m n with
            | true =>
              have hC : ingC Lv pv ac fi n f = (pv, 0) := by simp [ingC, ho, hV, e1, h1, e3, e4]
              rw [e3] at hC
              rw [hC]
              refine callK_inline (rs := [.tmp 8, .tmp 9]) (n := 62) Tryd.func11 rfl rfl rfl (by kernel_rfl) (by kernel_rfl) (by simp only [List.length_cons, List.length_nil]; decide) ?_
              repeat' first
                | with_reducible rfl
                | simp only [kV, frC, eV, bne, ht, hz, e1, e3, e4, push_mV, push_mS, push_mE, rows_push1, push_one, pull_one, kC_push, kC_pull, kC_len, eR_len, eV_len, eV_pull, eV_push, RS_, argsTM, stepE, stBuiltin, stBox, stAlloc, stLoad, stStore, stField, stExtract, stBin, stUn, stConv, stNilCheck, stFieldV, stIndex, stIndexAddr, stLen, stMin, stMax, stBuild, fillI, stBuildSlice, setRows, stMakeSlice, stAppend, srcR, segR, rdCells, stSlice, bnd, stArr, stCopy, stConv2, isIntV, cutR, byteRows, rowByte, binStr, Option.map_some, Option.map_none, eq_self, canTL, canT, canH, canL, patL, gcH, gcT, gcI, get_gcT, pullS, pullI, pushS, push1, pushI, pullHW, roC, ix, List.map_map, Function.comp_def, List.zip_cons_cons, List.zip_nil_left, List.zip_nil_right, List.range'_zero, List.range'_succ, rd, get, put, IV.cells, ofValue, seg, spl, ldIV, binInt, eqI, cellsEq, leafEq, resI, flat, isT, upd, up1, nextM, cR, ptrC, nAl, isAl, ST_, Nat.reduceAdd, Nat.reduceMul, Nat.reduceEqDiff, Nat.reduceLeDiff, ne_eq, reduceCtorEq, reduceIte, forall_const, implies_true, Int.reduceToNat, Int.reduceLE, Int.reduceLT, bne, Int.reduceEq, Int.reduceNe, Int.reduceNeg, Int.reduceAdd, Int.reduceSub, Int.reduceMul, Int.reduceBEq, Int.reduceBNe, Nat.reduceLT, Nat.reduceSub, WLS, ty_ag_23, ty_ag_3, ty_ag_4, ty_ag_70, ty_of_42_2, ty_of_42_5, ty_of_51_0, ty_of_51_1, ty_of_51_2, ty_of_73_1, ty_sz_23, ty_sz_3, ty_sz_4, ty_sz_70, ty_sz_73, ty_ze_73]
                | (with_reducible refine drawK_id ?_); refine drawK_auto hmix (by kernel_rfl) ?_
                | (with_reducible refine draw_fin ?_ ?_); · kernel_rfl
                | (with_reducible refine draw_id ?_); kernel_rfl
                | (with_reducible refine callK_id (f := 19) ?_); refine callK_fun (has _ _) rfl rfl ?_
                | ((with_reducible refine callK_id (f := 16) ?_); refine callK_funW [] [0, 1] (c14) (by simp [pullHW, roC, Function.comp_def, rows_pull, pullS, ix, pull_mV, pull_mS, pull_mE]) rfl rfl (by decide) (by simp [ne_mV, ne_mS, ne_mE]) (by simp [pullI, pullS, ix, kC_pull, kV, kC, encM]) ?_; rintro r Hn ⟨rfl, rfl⟩ -; skip)
                | (refine ⟨_, _, WkR.gc [0, 1] rfl (by decide), by simp [gcH], ?_, ?_⟩ <;> (first | (simp [gcI, pullI, pullS]; done) | (simp [gcH, rows_pull, pullS, ix, pull_mV, pull_mS, pull_mE]; done)))
                | (with_reducible refine And.intro ?_ ?_; · omega)
            | false =>
              have hC : ingC Lv pv ac fi n f = (0, 3) := by simp [ingC, ho, hV, e1, h1, e3, e4]
              rw [e3] at hC
              rw [hC]
              refine callK_inline (rs := [.tmp 8, .tmp 9]) (n := 62) Tryd.func11 rfl rfl rfl (by kernel_rfl) (by kernel_rfl) (by simp only [List.length_cons, List.length_nil]; decide) ?_
              repeat' first
                | with_reducible rfl
                | simp only [kV, frC, eV, bne, ht, hz, e1, e3, e4, push_mV, push_mS, push_mE, rows_push1, push_one, pull_one, kC_push, kC_pull, kC_len, eR_len, eV_len, eV_pull, eV_push, RS_, argsTM, stepE, stBuiltin, stBox, stAlloc, stLoad, stStore, stField, stExtract, stBin, stUn, stConv, stNilCheck, stFieldV, stIndex, stIndexAddr, stLen, stMin, stMax, stBuild, fillI, stBuildSlice, setRows, stMakeSlice, stAppend, srcR, segR, rdCells, stSlice, bnd, stArr, stCopy, stConv2, isIntV, cutR, byteRows, rowByte, binStr, Option.map_some, Option.map_none, eq_self, canTL, canT, canH, canL, patL, gcH, gcT, gcI, get_gcT, pullS, pullI, pushS, push1, pushI, pullHW, roC, ix, List.map_map, Function.comp_def, List.zip_cons_cons, List.zip_nil_left, List.zip_nil_right, List.range'_zero, List.range'_succ, rd, get, put, IV.cells, ofValue, seg, spl, ldIV, binInt, eqI, cellsEq, leafEq, resI, flat, isT, upd, up1, nextM, cR, ptrC, nAl, isAl, ST_, Nat.reduceAdd, Nat.reduceMul, Nat.reduceEqDiff, Nat.reduceLeDiff, ne_eq, reduceCtorEq, reduceIte, forall_const, implies_true, Int.reduceToNat, Int.reduceLE, Int.reduceLT, bne, Int.reduceEq, Int.reduceNe, Int.reduceNeg, Int.reduceAdd, Int.reduceSub, Int.reduceMul, Int.reduceBEq, Int.reduceBNe, Nat.reduceLT, Nat.reduceSub, WLS, ty_ag_23, ty_ag_3, ty_ag_4, ty_ag_70, ty_of_42_2, ty_of_42_5, ty_of_51_0, ty_of_51_1, ty_of_51_2, ty_of_73_1, ty_sz_23, ty_sz_3, ty_sz_4, ty_sz_70, ty_sz_73, ty_ze_73]
                | (with_reducible refine drawK_id ?_); refine drawK_auto hmix (by kernel_rfl) ?_
                | (with_reducible refine draw_fin ?_ ?_); · kernel_rfl
                | (with_reducible refine draw_id ?_); kernel_rfl
                | (with_reducible refine callK_id (f := 19) ?_); refine callK_fun (has _ _) rfl rfl ?_
                | ((with_reducible refine callK_id (f := 16) ?_); refine callK_funW [] [0, 1] (c14) (by simp [pullHW, roC, Function.comp_def, rows_pull, pullS, ix, pull_mV, pull_mS, pull_mE]) rfl rfl (by decide) (by simp [ne_mV, ne_mS, ne_mE]) (by simp [pullI, pullS, ix, kC_pull, kV, kC, encM]) ?_; rintro r Hn ⟨rfl, rfl⟩ -; skip)
                | (refine ⟨_, _, WkR.gc [0, 1] rfl (by decide), by simp [gcH], ?_, ?_⟩ <;> (first | (simp [gcI, pullI, pullS]; done) | (simp [gcH, rows_pull, pullS, ix, pull_mV, pull_mS, pull_mE]; done)))
                | (with_reducible refine And.intro ?_ ?_; · omega)
          | false =>
            have hC : ingC Lv pv ac fi n f = (pv, 0) := by simp [ingC, ho, hV, e1, h1, e3]
            rw [e3] at hC
            rw [hC]
            refine callK_inline (rs := [.tmp 8, .tmp 9]) (n := 62) Tryd.func11 rfl rfl rfl (by kernel_rfl) (by kernel_rfl) (by simp only [List.length_cons, List.length_nil]; decide) ?_
            repeat' first
              | with_reducible rfl
              | simp only [kV, frC, eV, bne, ht, hz, e1, e3, push_mV, push_mS, push_mE, rows_push1, push_one, pull_one, kC_push, kC_pull, kC_len, eR_len, eV_len, eV_pull, eV_push, RS_, argsTM, stepE, stBuiltin, stBox, stAlloc, stLoad, stStore, stField, stExtract, stBin, stUn, stConv, stNilCheck, stFieldV, stIndex, stIndexAddr, stLen, stMin, stMax, stBuild, fillI, stBuildSlice, setRows, stMakeSlice, stAppend, srcR, segR, rdCells, stSlice, bnd, stArr, stCopy, stConv2, isIntV, cutR, byteRows, rowByte, binStr, Option.map_some, Option.map_none, eq_self, canTL, canT, canH, canL, patL, gcH, gcT, gcI, get_gcT, pullS, pullI, pushS, push1, pushI, pullHW, roC, ix, List.map_map, Function.comp_def, List.zip_cons_cons, List.zip_nil_left, List.zip_nil_right, List.range'_zero, List.range'_succ, rd, get, put, IV.cells, ofValue, seg, spl, ldIV, binInt, eqI, cellsEq, leafEq, resI, flat, isT, upd, up1, nextM, cR, ptrC, nAl, isAl, ST_, Nat.reduceAdd, Nat.reduceMul, Nat.reduceEqDiff, Nat.reduceLeDiff, ne_eq, reduceCtorEq, reduceIte, forall_const, implies_true, Int.reduceToNat, Int.reduceLE, Int.reduceLT, bne, Int.reduceEq, Int.reduceNe, Int.reduceNeg, Int.reduceAdd, Int.reduceSub, Int.reduceMul, Int.reduceBEq, Int.reduceBNe, Nat.reduceLT, Nat.reduceSub, WLS, ty_ag_23, ty_ag_3, ty_ag_4, ty_ag_70, ty_of_42_2, ty_of_42_5, ty_of_51_0, ty_of_51_1, ty_of_51_2, ty_of_73_1, ty_sz_23, ty_sz_3, ty_sz_4, ty_sz_70, ty_sz_73, ty_ze_73]
              | (with_reducible refine drawK_id ?_); refine drawK_auto hmix (by kernel_rfl) ?_
              | (with_reducible refine draw_fin ?_ ?_); · kernel_rfl
              | (with_reducible refine draw_id ?_); kernel_rfl
              | (with_reducible refine callK_id (f := 19) ?_); refine callK_fun (has _ _) rfl rfl ?_
              | ((with_reducible refine callK_id (f := 16) ?_); refine callK_funW [] [0, 1] (c14) (by simp [pullHW, roC, Function.comp_def, rows_pull, pullS, ix, pull_mV, pull_mS, pull_mE]) rfl rfl (by decide) (by simp [ne_mV, ne_mS, ne_mE]) (by simp [pullI, pullS, ix, kC_pull, kV, kC, encM]) ?_; rintro r Hn ⟨rfl, rfl⟩ -; skip)
              | (refine ⟨_, _, WkR.gc [0, 1] rfl (by decide), by simp [gcH], ?_, ?_⟩ <;> (first | (simp [gcI, pullI, pullS]; done) | (simp [gcH, rows_pull, pullS, ix, pull_mV, pull_mS, pull_mE]; done)))
              | (with_reducible refine And.intro ?_ ?_; · omega)
    | false =>
      have ho : ownF f = true := by simp [ownF, ht, hz, bne]
      have hV : ingV pv f = f.v := by simp [ingV, ho]
      rw [hV] at c14
      cases e2 : (ac == 2) with
      | true =>
        generalize lookV Lv f.v = ov at c14
        have hC : ingC Lv pv ac fi n f = (0, 1) := by simp [ingC, ho, hV, e2]
        rw [hC]
        refine callK_inline (rs := [.tmp 8, .tmp 9]) (n := 62) Tryd.func11 rfl rfl rfl (by kernel_rfl) (by kernel_rfl) (by simp only [List.length_cons, List.length_nil]; decide) ?_
        repeat' first
          | with_reducible rfl
          | simp only [kV, frC, eV, bne, ht, hz, rowV_len, rowV_pull, rowV_push, e2, push_mV, push_mS, push_mE, rows_push1, push_one, pull_one, kC_push, kC_pull, kC_len, eR_len, eV_len, eV_pull, eV_push, RS_, argsTM, stepE, stBuiltin, stBox, stAlloc, stLoad, stStore, stField, stExtract, stBin, stUn, stConv, stNilCheck, stFieldV, stIndex, stIndexAddr, stLen, stMin, stMax, stBuild, fillI, stBuildSlice, setRows, stMakeSlice, stAppend, srcR, segR, rdCells, stSlice, bnd, stArr, stCopy, stConv2, isIntV, cutR, byteRows, rowByte, binStr, Option.map_some, Option.map_none, eq_self, canTL, canT, canH, canL, patL, gcH, gcT, gcI, get_gcT, pullS, pullI, pushS, push1, pushI, pullHW, roC, ix, List.map_map, Function.comp_def, List.zip_cons_cons, List.zip_nil_left, List.zip_nil_right, List.range'_zero, List.range'_succ, rd, get, put, IV.cells, ofValue, seg, spl, ldIV, binInt, eqI, cellsEq, leafEq, resI, flat, isT, upd, up1, nextM, cR, ptrC, nAl, isAl, ST_, Nat.reduceAdd, Nat.reduceMul, Nat.reduceEqDiff, Nat.reduceLeDiff, ne_eq, reduceCtorEq, reduceIte, forall_const, implies_true, Int.reduceToNat, Int.reduceLE, Int.reduceLT, bne, Int.reduceEq, Int.reduceNe, Int.reduceNeg, Int.reduceAdd, Int.reduceSub, Int.reduceMul, Int.reduceBEq, Int.reduceBNe, Nat.reduceLT, Nat.reduceSub, WLS, ty_ag_23, ty_ag_3, ty_ag_4, ty_ag_70, ty_of_42_2, ty_of_42_5, ty_of_51_0, ty_of_51_1, ty_of_51_2, ty_of_73_1, ty_sz_23, ty_sz_3, ty_sz_4, ty_sz_70, ty_sz_73, ty_ze_73]
          | (with_reducible refine drawK_id ?_); refine drawK_auto hmix (by kernel_rfl) ?_
          | (with_reducible refine draw_fin ?_ ?_); · kernel_rfl
          | (with_reducible refine draw_id ?_); kernel_rfl
          | (with_reducible refine callK_id (f := 19) ?_); refine callK_fun (has _ _) rfl rfl ?_
          | ((with_reducible refine callK_id (f := 16) ?_); refine callK_funW [] [0, 1] (c14) (by simp [pullHW, roC, Function.comp_def, rows_pull, pullS, ix, pull_mV, pull_mS, pull_mE]) rfl rfl (by decide) (by simp [ne_mV, ne_mS, ne_mE]) (by simp [pullI, pullS, ix, kC_pull, kV, kC, encM]) ?_; rintro r Hn ⟨rfl, rfl⟩ -; skip)
          | (refine ⟨_, _, WkR.gc [0, 1] rfl (by decide), by simp [gcH], ?_, ?_⟩ <;> (first | (simp [gcI, pullI, pullS]; done) | (simp [gcH, rows_pull, pullS, ix, pull_mV, pull_mS, pull_mE]; done)))
          | (with_reducible refine And.intro ?_ ?_; · omega)
      | false =>
        cases h1 : lookV Lv f.v with
        | none =>
          rw [h1] at c14
          unfold rowV at c14
          simp only [Option.isSome_none] at c14
          have hC : ingC Lv pv ac fi n f = (0, 2) := by simp [ingC, ho, hV, e2, h1]
          rw [hC]
          refine callK_inline (rs := [.tmp 8, .tmp 9]) (n := 62) Tryd.func11 rfl rfl rfl (by kernel_rfl) (by kernel_rfl) (by simp only [List.length_cons, List.length_nil]; decide) ?_
          repeat' first
            | with_reducible rfl
            | simp only [kV, frC, eV, bne, ht, hz, e2, push_mV, push_mS, push_mE, rows_push1, push_one, pull_one, kC_push, kC_pull, kC_len, eR_len, eV_len, eV_pull, eV_push, RS_, argsTM, stepE, stBuiltin, stBox, stAlloc, stLoad, stStore, stField, stExtract, stBin, stUn, stConv, stNilCheck, stFieldV, stIndex, stIndexAddr, stLen, stMin, stMax, stBuild, fillI, stBuildSlice, setRows, stMakeSlice, stAppend, srcR, segR, rdCells, stSlice, bnd, stArr, stCopy, stConv2, isIntV, cutR, byteRows, rowByte, binStr, Option.map_some, Option.map_none, eq_self, canTL, canT, canH, canL, patL, gcH, gcT, gcI, get_gcT, pullS, pullI, pushS, push1, pushI, pullHW, roC, ix, List.map_map, Function.comp_def, List.zip_cons_cons, List.zip_nil_left, List.zip_nil_right, List.range'_zero, List.range'_succ, rd, get, put, IV.cells, ofValue, seg, spl, ldIV, binInt, eqI, cellsEq, leafEq, resI, flat, isT, upd, up1, nextM, cR, ptrC, nAl, isAl, ST_, Nat.reduceAdd, Nat.reduceMul, Nat.reduceEqDiff, Nat.reduceLeDiff, ne_eq, reduceCtorEq, reduceIte, forall_const, implies_true, Int.reduceToNat, Int.reduceLE, Int.reduceLT, bne, Int.reduceEq, Int.reduceNe, Int.reduceNeg, Int.reduceAdd, Int.reduceSub, Int.reduceMul, Int.reduceBEq, Int.reduceBNe, Nat.reduceLT, Nat.reduceSub, WLS, ty_ag_23, ty_ag_3, ty_ag_4, ty_ag_70, ty_of_42_2, ty_of_42_5, ty_of_51_0, ty_of_51_1, ty_of_51_2, ty_of_73_1, ty_sz_23, ty_sz_3, ty_sz_4, ty_sz_70, ty_sz_73, ty_ze_73]
            | (with_reducible refine drawK_id ?_); refine drawK_auto hmix (by kernel_rfl) ?_
            | (with_reducible refine draw_fin ?_ ?_); · kernel_rfl
            | (with_reducible refine draw_id ?_); kernel_rfl
            | (with_reducible refine callK_id (f := 19) ?_); refine callK_fun (has _ _) rfl rfl ?_
            | ((with_reducible refine callK_id (f := 16) ?_); refine callK_funW [] [0, 1] (c14) (by simp [pullHW, roC, Function.comp_def, rows_pull, pullS, ix, pull_mV, pull_mS, pull_mE]) rfl rfl (by decide) (by simp [ne_mV, ne_mS, ne_mE]) (by simp [pullI, pullS, ix, kC_pull, kV, kC, encM]) ?_; rintro r Hn ⟨rfl, rfl⟩ -; skip)
            | (refine ⟨_, _, WkR.gc [0, 1] rfl (by decide), by simp [gcH], ?_, ?_⟩ <;> (first | (simp [gcI, pullI, pullS]; done) | (simp [gcH, rows_pull, pullS, ix, pull_mV, pull_mS, pull_mE]; done)))
            | (with_reducible refine And.intro ?_ ?_; · omega)
        | some v =>
          rw [h1] at c14
          unfold rowV at c14
          simp only [Option.isSome_some] at c14
          cases e3 : fi with
          | true =>
            cases e4 : hasP v.m n with
            | true =>
              have hC : ingC Lv pv ac fi n f = (f.v, 0) := by simp [ingC, ho, hV, e2, h1, e3, e4]
              rw [e3] at hC
              rw [hC]
              refine callK_inline (rs := [.tmp 8, .tmp 9]) (n := 62) Tryd.func11 rfl rfl rfl (by kernel_rfl) (by kernel_rfl) (by simp only [List.length_cons, List.length_nil]; decide) ?_
              repeat' first
                | with_reducible rfl
                | simp only [kV, frC, eV, bne, ht, hz, e2, e3, e4, push_mV, push_mS, push_mE, rows_push1, push_one, pull_one, kC_push, kC_pull, kC_len, eR_len, eV_len, eV_pull, eV_push, RS_, argsTM, stepE, stBuiltin, stBox, stAlloc, stLoad, stStore, stField, stExtract, stBin, stUn, stConv, stNilCheck, stFieldV, stIndex, stIndexAddr, stLen, stMin, stMax, stBuild, fillI, stBuildSlice, setRows, stMakeSlice, stAppend, srcR, segR, rdCells, stSlice, bnd, stArr, stCopy, stConv2, isIntV, cutR, byteRows, rowByte, binStr, Option.map_some, Option.map_none, eq_self, canTL, canT, canH, canL, patL, gcH, gcT, gcI, get_gcT, pullS, pullI, pushS, push1, pushI, pullHW, roC, ix, List.map_map, Function.comp_def, List.zip_cons_cons, List.zip_nil_left, List.zip_nil_right, List.range'_zero, List.range'_succ, rd, get, put, IV.cells, ofValue, seg, spl, ldIV, binInt, eqI, cellsEq, leafEq, resI, flat, isT, upd, up1, nextM, cR, ptrC, nAl, isAl, ST_, Nat.reduceAdd, Nat.reduceMul, Nat.reduceEqDiff, Nat.reduceLeDiff, ne_eq, reduceCtorEq, reduceIte, forall_const, implies_true, Int.reduceToNat, Int.reduceLE, Int.reduceLT, bne, Int.reduceEq, Int.reduceNe, Int.reduceNeg, Int.reduceAdd, Int.reduceSub, Int.reduceMul, Int.reduceBEq, Int.reduceBNe, Nat.reduceLT, Nat.reduceSub, WLS, ty_ag_23, ty_ag_3, ty_ag_4, ty_ag_70, ty_of_42_2, ty_of_42_5, ty_of_51_0, ty_of_51_1, ty_of_51_2, ty_of_73_1, ty_sz_23, ty_sz_3, ty_sz_4, ty_sz_70, ty_sz_73, ty_ze_73]
                | (with_reducible refine drawK_id ?_); refine drawK_auto hmix (by kernel_rfl) ?_
                | (with_reducible refine draw_fin ?_ ?_); · kernel_rfl
                | (with_reducible refine draw_id ?_); kernel_rfl
                | (with_reducible refine callK_id (f := 19) ?_); refine callK_fun (has _ _) rfl rfl ?_
                | ((with_reducible refine callK_id (f := 16) ?_); refine callK_funW [] [0, 1] (c14) (by simp [pullHW, roC, Function.comp_def, rows_pull, pullS, ix, pull_mV, pull_mS, pull_mE]) rfl rfl (by decide) (by simp [ne_mV, ne_mS, ne_mE]) (by simp [pullI, pullS, ix, kC_pull, kV, kC, encM]) ?_; rintro r Hn ⟨rfl, rfl⟩ -; skip)
                | (refine ⟨_, _, WkR.gc [0, 1] rfl (by decide), by simp [gcH], ?_, ?_⟩ <;> (first | (simp [gcI, pullI, pullS]; done) | (simp [gcH, rows_pull, pullS, ix, pull_mV, pull_mS, pull_mE]; done)))
                | (with_reducible refine And.intro ?_ ?_; · omega)
            | false =>
              have hC : ingC Lv pv ac fi n f = (0, 3) := by simp [ingC, ho, hV, e2, h1, e3, e4]
              rw [e3] at hC
              rw [hC]
              refine callK_inline (rs := [.tmp 8, .tmp 9]) (n := 62) Tryd.func11 rfl rfl rfl (by kernel_rfl) (by kernel_rfl) (by simp only [List.length_cons, List.length_nil]; decide) ?_
              repeat' first
                | with_reducible rfl
                | simp only [kV, frC, eV, bne, ht, hz, e2, e3, e4, push_mV, push_mS, push_mE, rows_push1, push_one, pull_one, kC_push, kC_pull, kC_len, eR_len, eV_len, eV_pull, eV_push, RS_, argsTM, stepE, stBuiltin, stBox, stAlloc, stLoad, stStore, stField, stExtract, stBin, stUn, stConv, stNilCheck, stFieldV, stIndex, stIndexAddr, stLen, stMin, stMax, stBuild, fillI, stBuildSlice, setRows, stMakeSlice, stAppend, srcR, segR, rdCells, stSlice, bnd, stArr, stCopy, stConv2, isIntV, cutR, byteRows, rowByte, binStr, Option.map_some, Option.map_none, eq_self, canTL, canT, canH, canL, patL, gcH, gcT, gcI, get_gcT, pullS, pullI, pushS, push1, pushI, pullHW, roC, ix, List.map_map, Function.comp_def, List.zip_cons_cons, List.zip_nil_left, List.zip_nil_right, List.range'_zero, List.range'_succ, rd, get, put, IV.cells, ofValue, seg, spl, ldIV, binInt, eqI, cellsEq, leafEq, resI, flat, isT, upd, up1, nextM, cR, ptrC, nAl, isAl, ST_, Nat.reduceAdd, Nat.reduceMul, Nat.reduceEqDiff, Nat.reduceLeDiff, ne_eq, reduceCtorEq, reduceIte, forall_const, implies_true, Int.reduceToNat, Int.reduceLE, Int.reduceLT, bne, Int.reduceEq, Int.reduceNe, Int.reduceNeg, Int.reduceAdd, Int.reduceSub, Int.reduceMul, Int.reduceBEq, Int.reduceBNe, Nat.reduceLT, Nat.reduceSub, WLS, ty_ag_23, ty_ag_3, ty_ag_4, ty_ag_70, ty_of_42_2, ty_of_42_5, ty_of_51_0, ty_of_51_1, ty_of_51_2, ty_of_73_1, ty_sz_23, ty_sz_3, ty_sz_4, ty_sz_70, ty_sz_73, ty_ze_73]
                | (with_reducible refine drawK_id ?_); refine drawK_auto hmix (by kernel_rfl) ?_
                | (with_reducible refine draw_fin ?_ ?_); · kernel_rfl
                | (with_reducible refine draw_id ?_); kernel_rfl
                | (with_reducible refine callK_id (f := 19) ?_); refine callK_fun (has _ _) rfl rfl ?_
                | ((with_reducible refine callK_id (f := 16) ?_); refine callK_funW [] [0, 1] (c14) (by simp [pullHW, roC, Function.comp_def, rows_pull, pullS, ix, pull_mV, pull_mS, pull_mE]) rfl rfl (by decide) (by simp [ne_mV, ne_mS, ne_mE]) (by simp [pullI, pullS, ix, kC_pull, kV, kC, encM]) ?_; rintro r Hn ⟨rfl, rfl⟩ -; skip)
                | (refine ⟨_, _, WkR.gc [0, 1] rfl (by decide), by simp [gcH], ?_, ?_⟩ <;> (first | (simp [gcI, pullI, pullS]; done) | (simp [gcH, rows_pull, pullS, ix, pull_mV, pull_mS, pull_mE]; done)))
                | (with_reducible refine And.intro ?_ ?_; · omega)
          | false =>
            have hC : ingC Lv pv ac fi n f = (f.v, 0) := by simp [ingC, ho, hV, e2, h1, e3]
            rw [e3] at hC
            rw [hC]
            refine callK_inline (rs := [.tmp 8, .tmp 9]) (n := 62) Tryd.func11 rfl rfl rfl (by kernel_rfl) (by kernel_rfl) (by simp only [List.length_cons, List.length_nil]; decide) ?_
            repeat' first
              | with_reducible rfl
              | simp only [kV, frC, eV, bne, ht, hz, e2, e3, push_mV, push_mS, push_mE, rows_push1, push_one, pull_one, kC_push, kC_pull, kC_len, eR_len, eV_len, eV_pull, eV_push, RS_, argsTM, stepE, stBuiltin, stBox, stAlloc, stLoad, stStore, stField, stExtract, stBin, stUn, stConv, stNilCheck, stFieldV, stIndex, stIndexAddr, stLen, stMin, stMax, stBuild, fillI, stBuildSlice, setRows, stMakeSlice, stAppend, srcR, segR, rdCells, stSlice, bnd, stArr, stCopy, stConv2, isIntV, cutR, byteRows, rowByte, binStr, Option.map_some, Option.map_none, eq_self, canTL, canT, canH, canL, patL, gcH, gcT, gcI, get_gcT, pullS, pullI, pushS, push1, pushI, pullHW, roC, ix, List.map_map, Function.comp_def, List.zip_cons_cons, List.zip_nil_left, List.zip_nil_right, List.range'_zero, List.range'_succ, rd, get, put, IV.cells, ofValue, seg, spl, ldIV, binInt, eqI, cellsEq, leafEq, resI, flat, isT, upd, up1, nextM, cR, ptrC, nAl, isAl, ST_, Nat.reduceAdd, Nat.reduceMul, Nat.reduceEqDiff, Nat.reduceLeDiff, ne_eq, reduceCtorEq, reduceIte, forall_const, implies_true, Int.reduceToNat, Int.reduceLE, Int.reduceLT, bne, Int.reduceEq, Int.reduceNe, Int.reduceNeg, Int.reduceAdd, Int.reduceSub, Int.reduceMul, Int.reduceBEq, Int.reduceBNe, Nat.reduceLT, Nat.reduceSub, WLS, ty_ag_23, ty_ag_3, ty_ag_4, ty_ag_70, ty_of_42_2, ty_of_42_5, ty_of_51_0, ty_of_51_1, ty_of_51_2, ty_of_73_1, ty_sz_23, ty_sz_3, ty_sz_4, ty_sz_70, ty_sz_73, ty_ze_73]
              | (with_reducible refine drawK_id ?_); refine drawK_auto hmix (by kernel_rfl) ?_
              | (with_reducible refine draw_fin ?_ ?_); · kernel_rfl
              | (with_reducible refine draw_id ?_); kernel_rfl
              | (with_reducible refine callK_id (f := 19) ?_); refine callK_fun (has _ _) rfl rfl ?_
              | ((with_reducible refine callK_id (f := 16) ?_); refine callK_funW [] [0, 1] (c14) (by simp [pullHW, roC, Function.comp_def, rows_pull, pullS, ix, pull_mV, pull_mS, pull_mE]) rfl rfl (by decide) (by simp [ne_mV, ne_mS, ne_mE]) (by simp [pullI, pullS, ix, kC_pull, kV, kC, encM]) ?_; rintro r Hn ⟨rfl, rfl⟩ -; skip)
              | (refine ⟨_, _, WkR.gc [0, 1] rfl (by decide), by simp [gcH], ?_, ?_⟩ <;> (first | (simp [gcI, pullI, pullS]; done) | (simp [gcH, rows_pull, pullS, ix, pull_mV, pull_mS, pull_mE]; done)))
              | (with_reducible refine And.intro ?_ ?_; · omega)
  | false =>
    have ho : ownF f = false := by simp [ownF, ht]
    have hV : ingV pv f = pv := by simp [ingV, ho]
    rw [hV] at c14
    cases e1 : (ac == 1) with
    | true =>
      generalize lookV Lv pv = ov at c14
      have hC : ingC Lv pv ac fi n f = (0, 1) := by simp [ingC, ho, hV, e1]
      rw [hC]
      refine callK_inline (rs := [.tmp 8, .tmp 9]) (n := 62) Tryd.func11 rfl rfl rfl (by kernel_rfl) (by kernel_rfl) (by simp only [List.length_cons, List.length_nil]; decide) ?_
      repeat' first
        | with_reducible rfl
        | simp only [kV, frC, eV, bne, ht, rowV_len, rowV_pull, rowV_push, e1, push_mV, push_mS, push_mE, rows_push1, push_one, pull_one, kC_push, kC_pull, kC_len, eR_len, eV_len, eV_pull, eV_push, RS_, argsTM, stepE, stBuiltin, stBox, stAlloc, stLoad, stStore, stField, stExtract, stBin, stUn, stConv, stNilCheck, stFieldV, stIndex, stIndexAddr, stLen, stMin, stMax, stBuild, fillI, stBuildSlice, setRows, stMakeSlice, stAppend, srcR, segR, rdCells, stSlice, bnd, stArr, stCopy, stConv2, isIntV, cutR, byteRows, rowByte, binStr, Option.map_some, Option.map_none, eq_self, canTL, canT, canH, canL, patL, gcH, gcT, gcI, get_gcT, pullS, pullI, pushS, push1, pushI, pullHW, roC, ix, List.map_map, Function.comp_def, List.zip_cons_cons, List.zip_nil_left, List.zip_nil_right, List.range'_zero, List.range'_succ, rd, get, put, IV.cells, ofValue, seg, spl, ldIV, binInt, eqI, cellsEq, leafEq, resI, flat, isT, upd, up1, nextM, cR, ptrC, nAl, isAl, ST_, Nat.reduceAdd, Nat.reduceMul, Nat.reduceEqDiff, Nat.reduceLeDiff, ne_eq, reduceCtorEq, reduceIte, forall_const, implies_true, Int.reduceToNat, Int.reduceLE, Int.reduceLT, bne, Int.reduceEq, Int.reduceNe, Int.reduceNeg, Int.reduceAdd, Int.reduceSub, Int.reduceMul, Int.reduceBEq, Int.reduceBNe, Nat.reduceLT, Nat.reduceSub, WLS, ty_ag_23, ty_ag_3, ty_ag_4, ty_ag_70, ty_of_42_2, ty_of_42_5, ty_of_51_0, ty_of_51_1, ty_of_51_2, ty_of_73_1, ty_sz_23, ty_sz_3, ty_sz_4, ty_sz_70, ty_sz_73, ty_ze_73]
        | (with_reducible refine drawK_id ?_); refine drawK_auto hmix (by kernel_rfl) ?_
        | (with_reducible refine draw_fin ?_ ?_); · kernel_rfl
        | (with_reducible refine draw_id ?_); kernel_rfl
        | (with_reducible refine callK_id (f := 19) ?_); refine callK_fun (has _ _) rfl rfl ?_
        | ((with_reducible refine callK_id (f := 16) ?_); refine callK_funW [] [0, 1] (c14) (by simp [pullHW, roC, Function.comp_def, rows_pull, pullS, ix, pull_mV, pull_mS, pull_mE]) rfl rfl (by decide) (by simp [ne_mV, ne_mS, ne_mE]) (by simp [pullI, pullS, ix, kC_pull, kV, kC, encM]) ?_; rintro r Hn ⟨rfl, rfl⟩ -; skip)
        | (refine ⟨_, _, WkR.gc [0, 1] rfl (by decide), by simp [gcH], ?_, ?_⟩ <;> (first | (simp [gcI, pullI, pullS]; done) | (simp [gcH, rows_pull, pullS, ix, pull_mV, pull_mS, pull_mE]; done)))
        | (with_reducible refine And.intro ?_ ?_; · omega)
    | false =>
      cases h1 : lookV Lv pv with
      | none =>
        rw [h1] at c14
        unfold rowV at c14
        simp only [Option.isSome_none] at c14
        have hC : ingC Lv pv ac fi n f = (0, 2) := by simp [ingC, ho, hV, e1, h1]
        rw [hC]
        refine callK_inline (rs := [.tmp 8, .tmp 9]) (n := 62) Tryd.func11 rfl rfl rfl (by kernel_rfl) (by kernel_rfl) (by simp only [List.length_cons, List.length_nil]; decide) ?_
        repeat' first
          | with_reducible rfl
          | simp only [kV, frC, eV, bne, ht, e1, push_mV, push_mS, push_mE, rows_push1, push_one, pull_one, kC_push, kC_pull, kC_len, eR_len, eV_len, eV_pull, eV_push, RS_, argsTM, stepE, stBuiltin, stBox, stAlloc, stLoad, stStore, stField, stExtract, stBin, stUn, stConv, stNilCheck, stFieldV, stIndex, stIndexAddr, stLen, stMin, stMax, stBuild, fillI, stBuildSlice, setRows, stMakeSlice, stAppend, srcR, segR, rdCells, stSlice, bnd, stArr, stCopy, stConv2, isIntV, cutR, byteRows, rowByte, binStr, Option.map_some, Option.map_none, eq_self, canTL, canT, canH, canL, patL, gcH, gcT, gcI, get_gcT, pullS, pullI, pushS, push1, pushI, pullHW, roC, ix, List.map_map, Function.comp_def, List.zip_cons_cons, List.zip_nil_left, List.zip_nil_right, List.range'_zero, List.range'_succ, rd, get, put, IV.cells, ofValue, seg, spl, ldIV, binInt, eqI, cellsEq, leafEq, resI, flat, isT, upd, up1, nextM, cR, ptrC, nAl, isAl, ST_, Nat.reduceAdd, Nat.reduceMul, Nat.reduceEqDiff, Nat.reduceLeDiff, ne_eq, reduceCtorEq, reduceIte, forall_const, implies_true, Int.reduceToNat, Int.reduceLE, Int.reduceLT, bne, Int.reduceEq, Int.reduceNe, Int.reduceNeg, Int.reduceAdd, Int.reduceSub, Int.reduceMul, Int.reduceBEq, Int.reduceBNe, Nat.reduceLT, Nat.reduceSub, WLS, ty_ag_23, ty_ag_3, ty_ag_4, ty_ag_70, ty_of_42_2, ty_of_42_5, ty_of_51_0, ty_of_51_1, ty_of_51_2, ty_of_73_1, ty_sz_23, ty_sz_3, ty_sz_4, ty_sz_70, ty_sz_73, ty_ze_73]
          | (with_reducible refine drawK_id ?_); refine drawK_auto hmix (by kernel_rfl) ?_
          | (with_reducible refine draw_fin ?_ ?_); · kernel_rfl
          | (with_reducible refine draw_id ?_); kernel_rfl
          | (with_reducible refine callK_id (f := 19) ?_); refine callK_fun (has _ _) rfl rfl ?_
          | ((with_reducible refine callK_id (f := 16) ?_); refine callK_funW [] [0, 1] (c14) (by simp [pullHW, roC, Function.comp_def, rows_pull, pullS, ix, pull_mV, pull_mS, pull_mE]) rfl rfl (by decide) (by simp [ne_mV, ne_mS, ne_mE]) (by simp [pullI, pullS, ix, kC_pull, kV, kC, encM]) ?_; rintro r Hn ⟨rfl, rfl⟩ -; skip)
          | (refine ⟨_, _, WkR.gc [0, 1] rfl (by decide), by simp [gcH], ?_, ?_⟩ <;> (first | (simp [gcI, pullI, pullS]; done) | (simp [gcH, rows_pull, pullS, ix, pull_mV, pull_mS, pull_mE]; done)))
          | (with_reducible refine And.intro ?_ ?_; · omega)
      | some v =>
        rw [h1] at c14
        unfold rowV at c14
        simp only [Option.isSome_some] at c14
        cases e3 : fi with
        | true =>
          cases e4 : hasP v.m n with
          | true =>
            have hC : ingC Lv pv ac fi n f = (pv, 0) := by simp [ingC, ho, hV, e1, h1, e3, e4]
            rw [e3] at hC
            rw [hC]
            refine callK_inline (rs := [.tmp 8, .tmp 9]) (n := 62) Tryd.func11 rfl rfl rfl (by kernel_rfl) (by kernel_rfl) (by simp only [List.length_cons, List.length_nil]; decide) ?_
            repeat' first
              | with_reducible rfl
              | simp only [kV, frC, eV, bne, ht, e1, e3, e4, push_mV, push_mS, push_mE, rows_push1, push_one, pull_one, kC_push, kC_pull, kC_len, eR_len, eV_len, eV_pull, eV_push, RS_, argsTM, stepE, stBuiltin, stBox, stAlloc, stLoad, stStore, stField, stExtract, stBin, stUn, stConv, stNilCheck, stFieldV, stIndex, stIndexAddr, stLen, stMin, stMax, stBuild, fillI, stBuildSlice, setRows, stMakeSlice, stAppend, srcR, segR, rdCells, stSlice, bnd, stArr, stCopy, stConv2, isIntV, cutR, byteRows, rowByte, binStr, Option.map_some, Option.map_none, eq_self, canTL, canT, canH, canL, patL, gcH, gcT, gcI, get_gcT, pullS, pullI, pushS, push1, pushI, pullHW, roC, ix, List.map_map, Function.comp_def, List.zip_cons_cons, List.zip_nil_left, List.zip_nil_right, List.range'_zero, List.range'_succ, rd, get, put, IV.cells, ofValue, seg, spl, ldIV, binInt, eqI, cellsEq, leafEq, resI, flat, isT, upd, up1, nextM, cR, ptrC, nAl, isAl, ST_, Nat.reduceAdd, Nat.reduceMul, Nat.reduceEqDiff, Nat.reduceLeDiff, ne_eq, reduceCtorEq, reduceIte, forall_const, implies_true, Int.reduceToNat, Int.reduceLE, Int.reduceLT, bne, Int.reduceEq, Int.reduceNe, Int.reduceNeg, Int.reduceAdd, Int.reduceSub, Int.reduceMul, Int.reduceBEq, Int.reduceBNe, Nat.reduceLT, Nat.reduceSub, WLS, ty_ag_23, ty_ag_3, ty_ag_4, ty_ag_70, ty_of_42_2, ty_of_42_5, ty_of_51_0, ty_of_51_1, ty_of_51_2, ty_of_73_1, ty_sz_23, ty_sz_3, ty_sz_4, ty_sz_70, ty_sz_73, ty_ze_73]
              | (with_reducible refine drawK_id ?_); refine drawK_auto hmix (by kernel_rfl) ?_
              | (with_reducible refine draw_fin ?_ ?_); · kernel_rfl
              | (with_reducible refine draw_id ?_); kernel_rfl
              | (with_reducible refine callK_id (f := 19) ?_); refine callK_fun (has _ _) rfl rfl ?_
              | ((with_reducible refine callK_id (f := 16) ?_); refine callK_funW [] [0, 1] (c14) (by simp [pullHW, roC, Function.comp_def, rows_pull, pullS, ix, pull_mV, pull_mS, pull_mE]) rfl rfl (by decide) (by simp [ne_mV, ne_mS, ne_mE]) (by simp [pullI, pullS, ix, kC_pull, kV, kC, encM]) ?_; rintro r Hn ⟨rfl, rfl⟩ -; skip)
              | (refine ⟨_, _, WkR.gc [0, 1] rfl (by decide), by simp [gcH], ?_, ?_⟩ <;> (first | (simp [gcI, pullI, pullS]; done) | (simp [gcH, rows_pull, pullS, ix, pull_mV, pull_mS, pull_mE]; done)))
              | (with_reducible refine And.intro ?_ ?_; · omega)
          | false =>
            have hC : ingC Lv pv ac fi n f = (0, 3) := by simp [ingC, ho, hV, e1, h1, e3, e4]
            rw [e3] at hC
            rw [hC]
            refine callK_inline (rs := [.tmp 8, .tmp 9]) (n := 62) Tryd.func11 rfl rfl rfl (by kernel_rfl) (by kernel_rfl) (by simp only [List.length_cons, List.length_nil]; decide) ?_
            repeat' first
              | with_reducible rfl
              | simp only [kV, frC, eV, bne, ht, e1, e3, e4, push_mV, push_mS, push_mE, rows_push1, push_one, pull_one, kC_push, kC_pull, kC_len, eR_len, eV_len, eV_pull, eV_push, RS_, argsTM, stepE, stBuiltin, stBox, stAlloc, stLoad, stStore, stField, stExtract, stBin, stUn, stConv, stNilCheck, stFieldV, stIndex, stIndexAddr, stLen, stMin, stMax, stBuild, fillI, stBuildSlice, setRows, stMakeSlice, stAppend, srcR, segR, rdCells, stSlice, bnd, stArr, stCopy, stConv2, isIntV, cutR, byteRows, rowByte, binStr, Option.map_some, Option.map_none, eq_self, canTL, canT, canH, canL, patL, gcH, gcT, gcI, get_gcT, pullS, pullI, pushS, push1, pushI, pullHW, roC, ix, List.map_map, Function.comp_def, List.zip_cons_cons, List.zip_nil_left, List.zip_nil_right, List.range'_zero, List.range'_succ, rd, get, put, IV.cells, ofValue, seg, spl, ldIV, binInt, eqI, cellsEq, leafEq, resI, flat, isT, upd, up1, nextM, cR, ptrC, nAl, isAl, ST_, Nat.reduceAdd, Nat.reduceMul, Nat.reduceEqDiff, Nat.reduceLeDiff, ne_eq, reduceCtorEq, reduceIte, forall_const, implies_true, Int.reduceToNat, Int.reduceLE, Int.reduceLT, bne, Int.reduceEq, Int.reduceNe, Int.reduceNeg, Int.reduceAdd, Int.reduceSub, Int.reduceMul, Int.reduceBEq, Int.reduceBNe, Nat.reduceLT, Nat.reduceSub, WLS, ty_ag_23, ty_ag_3, ty_ag_4, ty_ag_70, ty_of_42_2, ty_of_42_5, ty_of_51_0, ty_of_51_1, ty_of_51_2, ty_of_73_1, ty_sz_23, ty_sz_3, ty_sz_4, ty_sz_70, ty_sz_73, ty_ze_73]
              | (with_reducible refine drawK_id ?_); refine drawK_auto hmix (by kernel_rfl) ?_
              | (with_reducible refine draw_fin ?_ ?_); · kernel_rfl
              | (with_reducible refine draw_id ?_); kernel_rfl
              | (with_reducible refine callK_id (f := 19) ?_); refine callK_fun (has _ _) rfl rfl ?_
              | ((with_reducible refine callK_id (f := 16) ?_); refine callK_funW [] [0, 1] (c14) (by simp [pullHW, roC, Function.comp_def, rows_pull, pullS, ix, pull_mV, pull_mS, pull_mE]) rfl rfl (by decide) (by simp [ne_mV, ne_mS, ne_mE]) (by simp [pullI, pullS, ix, kC_pull, kV, kC, encM]) ?_; rintro r Hn ⟨rfl, rfl⟩ -; skip)
              | (refine ⟨_, _, WkR.gc [0, 1] rfl (by decide), by simp [gcH], ?_, ?_⟩ <;> (first | (simp [gcI, pullI, pullS]; done) | (simp [gcH, rows_pull, pullS, ix, pull_mV, pull_mS, pull_mE]; done)))
              | (with_reducible refine And.intro ?_ ?_; · omega)
        | false =>
          have hC : ingC Lv pv ac fi n f = (pv, 0) := by simp [ingC, ho, hV, e1, h1, e3]
          rw [e3] at hC
          rw [hC]
          refine callK_inline (rs := [.tmp 8, .tmp 9]) (n := 62) Tryd.func11 rfl rfl rfl (by kernel_rfl) (by kernel_rfl) (by simp only [List.length_cons, List.length_nil]; decide) ?_
          repeat' first
            | with_reducible rfl
            | simp only [kV, frC, eV, bne, ht, e1, e3, push_mV, push_mS, push_mE, rows_push1, push_one, pull_one, kC_push, kC_pull, kC_len, eR_len, eV_len, eV_pull, eV_push, RS_, argsTM, stepE, stBuiltin, stBox, stAlloc, stLoad, stStore, stField, stExtract, stBin, stUn, stConv, stNilCheck, stFieldV, stIndex, stIndexAddr, stLen, stMin, stMax, stBuild, fillI, stBuildSlice, setRows, stMakeSlice, stAppend, srcR, segR, rdCells, stSlice, bnd, stArr, stCopy, stConv2, isIntV, cutR, byteRows, rowByte, binStr, Option.map_some, Option.map_none, eq_self, canTL, canT, canH, canL, patL, gcH, gcT, gcI, get_gcT, pullS, pullI, pushS, push1, pushI, pullHW, roC, ix, List.map_map, Function.comp_def, List.zip_cons_cons, List.zip_nil_left, List.zip_nil_right, List.range'_zero, List.range'_succ, rd, get, put, IV.cells, ofValue, seg, spl, ldIV, binInt, eqI, cellsEq, leafEq, resI, flat, isT, upd, up1, nextM, cR, ptrC, nAl, isAl, ST_, Nat.reduceAdd, Nat.reduceMul, Nat.reduceEqDiff, Nat.reduceLeDiff, ne_eq, reduceCtorEq, reduceIte, forall_const, implies_true, Int.reduceToNat, Int.reduceLE, Int.reduceLT, bne, Int.reduceEq, Int.reduceNe, Int.reduceNeg, Int.reduceAdd, Int.reduceSub, Int.reduceMul, Int.reduceBEq, Int.reduceBNe, Nat.reduceLT, Nat.reduceSub, WLS, ty_ag_23, ty_ag_3, ty_ag_4, ty_ag_70, ty_of_42_2, ty_of_42_5, ty_of_51_0, ty_of_51_1, ty_of_51_2, ty_of_73_1, ty_sz_23, ty_sz_3, ty_sz_4, ty_sz_70, ty_sz_73, ty_ze_73]
            | (with_reducible refine drawK_id ?_); refine drawK_auto hmix (by kernel_rfl) ?_
            | (with_reducible refine draw_fin ?_ ?_); · kernel_rfl
            | (with_reducible refine draw_id ?_); kernel_rfl
            | (with_reducible refine callK_id (f := 19) ?_); refine callK_fun (has _ _) rfl rfl ?_
            | ((with_reducible refine callK_id (f := 16) ?_); refine callK_funW [] [0, 1] (c14) (by simp [pullHW, roC, Function.comp_def, rows_pull, pullS, ix, pull_mV, pull_mS, pull_mE]) rfl rfl (by decide) (by simp [ne_mV, ne_mS, ne_mE]) (by simp [pullI, pullS, ix, kC_pull, kV, kC, encM]) ?_; rintro r Hn ⟨rfl, rfl⟩ -; skip)
            | (refine ⟨_, _, WkR.gc [0, 1] rfl (by decide), by simp [gcH], ?_, ?_⟩ <;> (first | (simp [gcI, pullI, pullS]; done) | (simp [gcH, rows_pull, pullS, ix, pull_mV, pull_mS, pull_mE]; done)))
            | (with_reducible refine And.intro ?_ ?_; · omega)
end Go.Ev
