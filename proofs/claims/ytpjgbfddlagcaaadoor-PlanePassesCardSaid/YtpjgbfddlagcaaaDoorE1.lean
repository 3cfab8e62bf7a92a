/- A part of the proof: contracts of the functions that the statement reaches. -/
import Derived.Test.YtpjgbfddlagcaaaDoorEvC
import Derived.Test.YtpjgbfddlagcaaaDoorV1e
import Derived.Test.YtpjgbfddlagcaaaDoorS3
import Derived.Test.YtpjgbfddlagcaaaDoorG8
import Derived.Test.YtpjgbfddlagcaaaDoorG14
namespace Go.Ev
open Go.Proofs
set_option maxRecDepth 100000
set_option linter.unusedSimpArgs false
set_option linter.unusedVariables false
set_option maxHeartbeats 4000000
open Srt
def hasP (s p : Int) : Bool := bAnd .u32 s (bitP p) != 0
def woP (s p : Int) : Int := bAndNot .u32 s (bitP p)
theorem has (s p : Int) : Fun Tryd.prog 19 [.s (.raw (.int .u32 s)), .s (.raw (.int .i64 p))] (.s (.raw (.bool (hasP s p)))) := by
  refine fun_of rfl fun X => ?_
  refine callK_inline (rs := [.tmp 4]) (n := 10) Tryd.func19 rfl rfl rfl (by kernel_rfl) (by kernel_rfl) (by simp only [List.length_cons, List.length_nil]; decide) ?_
  repeat' first
    | with_reducible rfl
    | simp only [hasP, RS_, argsTM, stepE, stBuiltin, stBox, stAlloc, stLoad, stStore, stField, stExtract, stBin, stUn, stConv, stNilCheck, stFieldV, stIndex, stIndexAddr, stLen, stMin, stMax, stBuild, fillI, stBuildSlice, setRows, stMakeSlice, stAppend, srcR, segR, rdCells, stSlice, bnd, stArr, stCopy, stConv2, isIntV, cutR, byteRows, rowByte, binStr, Option.map_some, Option.map_none, eq_self, canTL, canT, canH, canL, patL, gcH, gcT, gcI, get_gcT, pullS, pullI, pushS, push1, pushI, pullHW, roC, ix, List.map_map, Function.comp_def, List.zip_cons_cons, List.zip_nil_left, List.zip_nil_right, List.range'_zero, List.range'_succ, rd, get, put, IV.cells, ofValue, seg, spl, ldIV, binInt, eqI, cellsEq, leafEq, resI, flat, isT, upd, up1, nextM, cR, ptrC, nAl, isAl, ST_, Nat.reduceAdd, Nat.reduceMul, Nat.reduceEqDiff, Nat.reduceLeDiff, ne_eq, reduceCtorEq, reduceIte, forall_const, implies_true, Int.reduceToNat, Int.reduceLE, Int.reduceLT, bne, Int.reduceEq, Int.reduceNe, Int.reduceNeg, Int.reduceAdd, Int.reduceSub, Int.reduceMul, Int.reduceBEq, Int.reduceBNe, Nat.reduceLT, Nat.reduceSub, WLS, ]
    | with_reducible refine gdb_split (fun h => ?_) (fun h => ?_)
    | (with_reducible refine drawK_id ?_); refine drawK_auto hmix (by kernel_rfl) ?_
    | (with_reducible refine draw_fin ?_ ?_); · kernel_rfl
    | (with_reducible refine draw_id ?_); kernel_rfl
    | (with_reducible refine callK_id (f := 33) ?_); refine callK_fun (f80 p) rfl rfl ?_
    | (with_reducible refine And.intro ?_ ?_; · omega)
theorem without (s p : Int) : Fun Tryd.prog 34 [.s (.raw (.int .u32 s)), .s (.raw (.int .i64 p))] (.s (.raw (.int .u32 (woP s p)))) := by
  refine fun_of rfl fun X => ?_
  refine callK_inline (rs := [.tmp 4]) (n := 9) Tryd.func34 rfl rfl rfl (by kernel_rfl) (by kernel_rfl) (by simp only [List.length_cons, List.length_nil]; decide) ?_
  repeat' first
    | with_reducible rfl
    | simp only [woP, RS_, argsTM, stepE, stBuiltin, stBox, stAlloc, stLoad, stStore, stField, stExtract, stBin, stUn, stConv, stNilCheck, stFieldV, stIndex, stIndexAddr, stLen, stMin, stMax, stBuild, fillI, stBuildSlice, setRows, stMakeSlice, stAppend, srcR, segR, rdCells, stSlice, bnd, stArr, stCopy, stConv2, isIntV, cutR, byteRows, rowByte, binStr, Option.map_some, Option.map_none, eq_self, canTL, canT, canH, canL, patL, gcH, gcT, gcI, get_gcT, pullS, pullI, pushS, push1, pushI, pullHW, roC, ix, List.map_map, Function.comp_def, List.zip_cons_cons, List.zip_nil_left, List.zip_nil_right, List.range'_zero, List.range'_succ, rd, get, put, IV.cells, ofValue, seg, spl, ldIV, binInt, eqI, cellsEq, leafEq, resI, flat, isT, upd, up1, nextM, cR, ptrC, nAl, isAl, ST_, Nat.reduceAdd, Nat.reduceMul, Nat.reduceEqDiff, Nat.reduceLeDiff, ne_eq, reduceCtorEq, reduceIte, forall_const, implies_true, Int.reduceToNat, Int.reduceLE, Int.reduceLT, bne, Int.reduceEq, Int.reduceNe, Int.reduceNeg, Int.reduceAdd, Int.reduceSub, Int.reduceMul, Int.reduceBEq, Int.reduceBNe, Nat.reduceLT, Nat.reduceSub, WLS, ]
    | with_reducible refine gdb_split (fun h => ?_) (fun h => ?_)
    | (with_reducible refine drawK_id ?_); refine drawK_auto hmix (by kernel_rfl) ?_
    | (with_reducible refine draw_fin ?_ ?_); · kernel_rfl
    | (with_reducible refine draw_id ?_); kernel_rfl
    | (with_reducible refine callK_id (f := 33) ?_); refine callK_fun (f80 p) rfl rfl ?_
    | (with_reducible refine And.intro ?_ ?_; · omega)
theorem pull_mV (σ : List Nat) (c : Nat) (L : List VEN) : mapC (pullS σ) (pullI σ) (mpV c L) = mpV c L := by
  simp only [mpV, mapC, List.map_map]; congr 1
theorem pull_mS (σ : List Nat) (c : Nat) (L : List SEN) : mapC (pullS σ) (pullI σ) (mpS c L) = mpS c L := by
  simp only [mpS, mapC, List.map_map]; congr 1
theorem pull_mE (σ : List Nat) (c : Nat) (L : List EN) : mapC (pullS σ) (pullI σ) (mpC c L) = mpC c L := by
  simp only [mpC, mapC, List.map_map]; congr 1
theorem push_mV (σ : List Nat) (c : Nat) (L : List VEN) : pushC σ (mpV c L) = mpV c L := by
  simp only [mpV, pushC, mapC, List.map_map]; congr 1
theorem push_mS (σ : List Nat) (c : Nat) (L : List SEN) : pushC σ (mpS c L) = mpS c L := by
  simp only [mpS, pushC, mapC, List.map_map]; congr 1
theorem push_mE (σ : List Nat) (c : Nat) (L : List EN) : pushC σ (mpC c L) = mpC c L := by
  simp only [mpC, pushC, mapC, List.map_map]; congr 1
theorem ne_mV (c : Nat) (L : List VEN) : (mpV c L = .gone) = False := by simp [mpV]
theorem ne_mS (c : Nat) (L : List SEN) : (mpS c L = .gone) = False := by simp [mpS]
theorem ne_mE (c : Nat) (L : List EN) : (mpC c L = .gone) = False := by simp [mpC]
theorem rows_push1 (σ : List Nat) (sz : Nat) (els : List (List SV)) : pushC σ (.rows true sz els) = .rows true sz (els.map fun r => r.map (pushS σ)) := rfl
def portsC (Lv : List VEN) (Ls : List SEN) (Lf : List EN) (fr vid : Int) (m : M6) (o : Int) : Int :=
  match lookV Lv vid with
  | none => 0
  | some v => if resS m.m0 m.m1 m.m2 m.m3 m.m4 m.m5 then 0 else match lookS Ls ⟨vid, m⟩ with
    | some s => bAnd .u32 (bAnd .u32 (woP v.m fr) o) s.q
    | none => match look Lf ⟨vid, m⟩ with
      | some q => bAnd .u32 (bAnd .u32 (woP v.m fr) o) (withP 0 q.p)
      | none => bAnd .u32 (woP v.m fr) o
def HT (cv : Nat) (Lv : List VEN) (cs : Nat) (Ls : List SEN) (n T : Int) (cf : Nat) (Lf : List EN) : Heap := [.rows true 1 [[.ref 1]], mpV cv Lv, .rows true 1 [[.ref 3]], mpS cs Ls, .rows true 3 [[.raw (.int .i64 n), .raw (.int .i64 T), .ref 5]], mpC cf Lf]
def tabsI : IV := .a [.ptr 0 0 0, .ptr 2 0 0, .ptr 4 0 0]
theorem portsW (cv : Nat) (Lv : List VEN) (cs : Nat) (Ls : List SEN) (n T : Int) (cf : Nat) (Lf : List EN) (hv : NDkV Lv) (hs : NDkS Ls) (hf : NDk Lf) (fr vid : Int) (m : M6) (o : Int) :
    FunW Tryd.prog 17 [] (HT cv Lv cs Ls n T cf Lf) [tabsI, .s (.raw (.int .i64 fr)), kV vid, .a (encM m), .s (.raw (.int .u32 o))] fun r Hn => r = .s (.raw (.int .u32 (portsC Lv Ls Lf fr vid m o))) ∧ Hn = HT cv Lv cs Ls n T cf Lf := by
  refine funW_of fun X => ?_
  have c14 := f14 cv Lv hv vid
  have c24 := f24 cs Ls hs ⟨vid, m⟩
  have c35 := f35 n T cf Lf hf ⟨vid, m⟩
  have c81 := f81 m.m0 m.m1 m.m2 m.m3 m.m4 m.m5
  have kd : (⟨vid, ⟨m.m0, m.m1, m.m2, m.m3, m.m4, m.m5⟩⟩ : KEY) = ⟨vid, m⟩ := rfl
  unfold tabsI HT portsC
  refine callK_inline (rs := [.tmp 10]) (n := 66) Tryd.func17 rfl rfl rfl (by kernel_rfl) (by kernel_rfl) (by simp only [List.length_cons, List.length_nil]; decide) ?_
  cases h1 : lookV Lv vid with
  | none =>
    rw [h1] at c14
    unfold tabV rowV at c14
    simp only [Option.isSome_none] at c14
    repeat' first
      | with_reducible rfl
      | simp only [kV, eV_len, encM, eV, kd, push_mV, push_mS, push_mE, rows_push1, push_one, pull_one, kC_push, kC_pull, kC_len, eR_len, eV_len, eV_pull, eV_push, RS_, argsTM, stepE, stBuiltin, stBox, stAlloc, stLoad, stStore, stField, stExtract, stBin, stUn, stConv, stNilCheck, stFieldV, stIndex, stIndexAddr, stLen, stMin, stMax, stBuild, fillI, stBuildSlice, setRows, stMakeSlice, stAppend, srcR, segR, rdCells, stSlice, bnd, stArr, stCopy, stConv2, isIntV, cutR, byteRows, rowByte, binStr, Option.map_some, Option.map_none, eq_self, canTL, canT, canH, canL, patL, gcH, gcT, gcI, get_gcT, pullS, pullI, pushS, push1, pushI, pullHW, roC, ix, List.map_map, Function.comp_def, List.zip_cons_cons, List.zip_nil_left, List.zip_nil_right, List.range'_zero, List.range'_succ, rd, get, put, IV.cells, ofValue, seg, spl, ldIV, binInt, eqI, cellsEq, leafEq, resI, flat, isT, upd, up1, nextM, cR, ptrC, nAl, isAl, ST_, Nat.reduceAdd, Nat.reduceMul, Nat.reduceEqDiff, Nat.reduceLeDiff, ne_eq, reduceCtorEq, reduceIte, forall_const, implies_true, Int.reduceToNat, Int.reduceLE, Int.reduceLT, bne, Int.reduceEq, Int.reduceNe, Int.reduceNeg, Int.reduceAdd, Int.reduceSub, Int.reduceMul, Int.reduceBEq, Int.reduceBNe, Nat.reduceLT, Nat.reduceSub, WLS, ty_ag_31, ty_ag_32, ty_ag_33, ty_ag_70, ty_ag_40, ty_ag_63, ty_of_35_0, ty_of_35_1, ty_of_35_2, ty_of_73_1, ty_ok_63, ty_pl_63_0, ty_pl_63_1, ty_sz_31, ty_sz_32, ty_sz_33, ty_sz_70, ty_sz_73, ty_sz_40, ty_sz_63, ty_ze_73, ty_ze_63, ty_zs_130]
      | (with_reducible refine drawK_id ?_); refine drawK_auto hmix (by kernel_rfl) ?_
      | (with_reducible refine draw_fin ?_ ?_); · kernel_rfl
      | (with_reducible refine draw_id ?_); kernel_rfl
      | (with_reducible refine callK_id (f := 34) ?_); refine callK_fun (without _ _) rfl rfl ?_
      | ((with_reducible refine callK_id (f := 16) ?_); refine callK_funW [] [0, 1] (c14) (by simp [pullHW, roC, Function.comp_def, rows_pull, pullS, ix, pull_mV, pull_mS, pull_mE]) rfl rfl (by decide) (by simp [ne_mV, ne_mS, ne_mE]) (by simp [pullI, pullS, ix, kC_pull, kV, kC, encM]) ?_; rintro r Hn ⟨rfl, rfl⟩ -; skip)
      | ((with_reducible refine callK_id (f := 35) ?_); refine callK_funW [] [2, 3] (c24) (by simp [pullHW, roC, Function.comp_def, rows_pull, pullS, ix, pull_mV, pull_mS, pull_mE]) rfl rfl (by decide) (by simp [ne_mV, ne_mS, ne_mE]) (by simp [pullI, pullS, ix, kC_pull, kV, kC, encM]) ?_; rintro r Hn ⟨rfl, rfl⟩ -; skip)
      | ((with_reducible refine callK_id (f := 12) ?_); refine callK_funW [] [4, 5] (c35) (by simp [pullHW, roC, Function.comp_def, rows_pull, pullS, ix, pull_mV, pull_mS, pull_mE]) rfl rfl (by decide) (by simp [ne_mV, ne_mS, ne_mE]) (by simp [pullI, pullS, ix, kC_pull, kV, kC, encM]) ?_; rintro r Hn ⟨rfl, rfl⟩ -; skip)
      | ((with_reducible refine callK_id (f := 10) ?_); refine callK_fun c81 rfl rfl ?_)
      | ((with_reducible refine callK_id (f := 36) ?_); refine callK_funR [9] (r := .s (.raw (.int .u32 (withP 0 q.p)))) (by simp [pullH, roC, pullI, pullS, ix]; exact f19 _) rfl ?_)
      | ((with_reducible refine callK_id (f := 36) ?_); refine callK_funR [8] (r := .s (.raw (.int .u32 (withP 0 q.p)))) (by simp [pullH, roC, pullI, pullS, ix]; exact f19 _) rfl ?_)
      | ((with_reducible refine callK_id (f := 36) ?_); refine callK_funR [10] (r := .s (.raw (.int .u32 (withP 0 q.p)))) (by simp [pullH, roC, pullI, pullS, ix]; exact f19 _) rfl ?_)
      | (refine ⟨_, _, WkR.gc [0, 1, 2, 3, 4, 5] rfl (by decide), by simp [gcH], ?_, ?_⟩ <;> (first | (simp [gcI, pullI, pullS]; done) | (simp [gcH, rows_pull, pullS, ix, pull_mV, pull_mS, pull_mE]; done)))
      | (with_reducible refine And.intro ?_ ?_; · omega)
  | some v =>
    rw [h1] at c14
    unfold tabV rowV at c14
    simp only [Option.isSome_some] at c14
    cases h2 : resS m.m0 m.m1 m.m2 m.m3 m.m4 m.m5 with
    | true =>
      rw [h2] at c81
      simp only [if_true]
      repeat' first
        | with_reducible rfl
        | simp only [kV, eV_len, encM, eV, kd, push_mV, push_mS, push_mE, rows_push1, push_one, pull_one, kC_push, kC_pull, kC_len, eR_len, eV_len, eV_pull, eV_push, RS_, argsTM, stepE, stBuiltin, stBox, stAlloc, stLoad, stStore, stField, stExtract, stBin, stUn, stConv, stNilCheck, stFieldV, stIndex, stIndexAddr, stLen, stMin, stMax, stBuild, fillI, stBuildSlice, setRows, stMakeSlice, stAppend, srcR, segR, rdCells, stSlice, bnd, stArr, stCopy, stConv2, isIntV, cutR, byteRows, rowByte, binStr, Option.map_some, Option.map_none, eq_self, canTL, canT, canH, canL, patL, gcH, gcT, gcI, get_gcT, pullS, pullI, pushS, push1, pushI, pullHW, roC, ix, List.map_map, Function.comp_def, List.zip_cons_cons, List.zip_nil_left, List.zip_nil_right, List.range'_zero, List.range'_succ, rd, get, put, IV.cells, ofValue, seg, spl, ldIV, binInt, eqI, cellsEq, leafEq, resI, flat, isT, upd, up1, nextM, cR, ptrC, nAl, isAl, ST_, Nat.reduceAdd, Nat.reduceMul, Nat.reduceEqDiff, Nat.reduceLeDiff, ne_eq, reduceCtorEq, reduceIte, forall_const, implies_true, Int.reduceToNat, Int.reduceLE, Int.reduceLT, bne, Int.reduceEq, Int.reduceNe, Int.reduceNeg, Int.reduceAdd, Int.reduceSub, Int.reduceMul, Int.reduceBEq, Int.reduceBNe, Nat.reduceLT, Nat.reduceSub, WLS, ty_ag_31, ty_ag_32, ty_ag_33, ty_ag_70, ty_ag_40, ty_ag_63, ty_of_35_0, ty_of_35_1, ty_of_35_2, ty_of_73_1, ty_ok_63, ty_pl_63_0, ty_pl_63_1, ty_sz_31, ty_sz_32, ty_sz_33, ty_sz_70, ty_sz_73, ty_sz_40, ty_sz_63, ty_ze_73, ty_ze_63, ty_zs_130]
        | (with_reducible refine drawK_id ?_); refine drawK_auto hmix (by kernel_rfl) ?_
        | (with_reducible refine draw_fin ?_ ?_); · kernel_rfl
        | (with_reducible refine draw_id ?_); kernel_rfl
        | (with_reducible refine callK_id (f := 34) ?_); refine callK_fun (without _ _) rfl rfl ?_
        | ((with_reducible refine callK_id (f := 16) ?_); refine callK_funW [] [0, 1] (c14) (by simp [pullHW, roC, Function.comp_def, rows_pull, pullS, ix, pull_mV, pull_mS, pull_mE]) rfl rfl (by decide) (by simp [ne_mV, ne_mS, ne_mE]) (by simp [pullI, pullS, ix, kC_pull, kV, kC, encM]) ?_; rintro r Hn ⟨rfl, rfl⟩ -; skip)
        | ((with_reducible refine callK_id (f := 35) ?_); refine callK_funW [] [2, 3] (c24) (by simp [pullHW, roC, Function.comp_def, rows_pull, pullS, ix, pull_mV, pull_mS, pull_mE]) rfl rfl (by decide) (by simp [ne_mV, ne_mS, ne_mE]) (by simp [pullI, pullS, ix, kC_pull, kV, kC, encM]) ?_; rintro r Hn ⟨rfl, rfl⟩ -; skip)
        | ((with_reducible refine callK_id (f := 12) ?_); refine callK_funW [] [4, 5] (c35) (by simp [pullHW, roC, Function.comp_def, rows_pull, pullS, ix, pull_mV, pull_mS, pull_mE]) rfl rfl (by decide) (by simp [ne_mV, ne_mS, ne_mE]) (by simp [pullI, pullS, ix, kC_pull, kV, kC, encM]) ?_; rintro r Hn ⟨rfl, rfl⟩ -; skip)
        | ((with_reducible refine callK_id (f := 10) ?_); refine callK_fun c81 rfl rfl ?_)
        | ((with_reducible refine callK_id (f := 36) ?_); refine callK_funR [9] (r := .s (.raw (.int .u32 (withP 0 q.p)))) (by simp [pullH, roC, pullI, pullS, ix]; exact f19 _) rfl ?_)
        | ((with_reducible refine callK_id (f := 36) ?_); refine callK_funR [8] (r := .s (.raw (.int .u32 (withP 0 q.p)))) (by simp [pullH, roC, pullI, pullS, ix]; exact f19 _) rfl ?_)
        | ((with_reducible refine callK_id (f := 36) ?_); refine callK_funR [10] (r := .s (.raw (.int .u32 (withP 0 q.p)))) (by simp [pullH, roC, pullI, pullS, ix]; exact f19 _) rfl ?_)
        | (refine ⟨_, _, WkR.gc [0, 1, 2, 3, 4, 5] rfl (by decide), by simp [gcH], ?_, ?_⟩ <;> (first | (simp [gcI, pullI, pullS]; done) | (simp [gcH, rows_pull, pullS, ix, pull_mV, pull_mS, pull_mE]; done)))
        | (with_reducible refine And.intro ?_ ?_; · omega)
    | false =>
      rw [h2] at c81
      simp only [if_false, Bool.false_eq_true]
      cases h3 : lookS Ls ⟨vid, m⟩ with
      | some s =>
        rw [h3] at c24
        unfold tabC at c24
        simp only [Option.isSome_some, Option.map_some, Option.getD_some] at c24
        repeat' first
          | with_reducible rfl
          | simp only [kV, eV_len, encM, eV, kd, push_mV, push_mS, push_mE, rows_push1, push_one, pull_one, kC_push, kC_pull, kC_len, eR_len, eV_len, eV_pull, eV_push, RS_, argsTM, stepE, stBuiltin, stBox, stAlloc, stLoad, stStore, stField, stExtract, stBin, stUn, stConv, stNilCheck, stFieldV, stIndex, stIndexAddr, stLen, stMin, stMax, stBuild, fillI, stBuildSlice, setRows, stMakeSlice, stAppend, srcR, segR, rdCells, stSlice, bnd, stArr, stCopy, stConv2, isIntV, cutR, byteRows, rowByte, binStr, Option.map_some, Option.map_none, eq_self, canTL, canT, canH, canL, patL, gcH, gcT, gcI, get_gcT, pullS, pullI, pushS, push1, pushI, pullHW, roC, ix, List.map_map, Function.comp_def, List.zip_cons_cons, List.zip_nil_left, List.zip_nil_right, List.range'_zero, List.range'_succ, rd, get, put, IV.cells, ofValue, seg, spl, ldIV, binInt, eqI, cellsEq, leafEq, resI, flat, isT, upd, up1, nextM, cR, ptrC, nAl, isAl, ST_, Nat.reduceAdd, Nat.reduceMul, Nat.reduceEqDiff, Nat.reduceLeDiff, ne_eq, reduceCtorEq, reduceIte, forall_const, implies_true, Int.reduceToNat, Int.reduceLE, Int.reduceLT, bne, Int.reduceEq, Int.reduceNe, Int.reduceNeg, Int.reduceAdd, Int.reduceSub, Int.reduceMul, Int.reduceBEq, Int.reduceBNe, Nat.reduceLT, Nat.reduceSub, WLS, ty_ag_31, ty_ag_32, ty_ag_33, ty_ag_70, ty_ag_40, ty_ag_63, ty_of_35_0, ty_of_35_1, ty_of_35_2, ty_of_73_1, ty_ok_63, ty_pl_63_0, ty_pl_63_1, ty_sz_31, ty_sz_32, ty_sz_33, ty_sz_70, ty_sz_73, ty_sz_40, ty_sz_63, ty_ze_73, ty_ze_63, ty_zs_130]
          | (with_reducible refine drawK_id ?_); refine drawK_auto hmix (by kernel_rfl) ?_
          | (with_reducible refine draw_fin ?_ ?_); · kernel_rfl
          | (with_reducible refine draw_id ?_); kernel_rfl
          | (with_reducible refine callK_id (f := 34) ?_); refine callK_fun (without _ _) rfl rfl ?_
          | ((with_reducible refine callK_id (f := 16) ?_); refine callK_funW [] [0, 1] (c14) (by simp [pullHW, roC, Function.comp_def, rows_pull, pullS, ix, pull_mV, pull_mS, pull_mE]) rfl rfl (by decide) (by simp [ne_mV, ne_mS, ne_mE]) (by simp [pullI, pullS, ix, kC_pull, kV, kC, encM]) ?_; rintro r Hn ⟨rfl, rfl⟩ -; skip)
          | ((with_reducible refine callK_id (f := 35) ?_); refine callK_funW [] [2, 3] (c24) (by simp [pullHW, roC, Function.comp_def, rows_pull, pullS, ix, pull_mV, pull_mS, pull_mE]) rfl rfl (by decide) (by simp [ne_mV, ne_mS, ne_mE]) (by simp [pullI, pullS, ix, kC_pull, kV, kC, encM]) ?_; rintro r Hn ⟨rfl, rfl⟩ -; skip)
          | ((with_reducible refine callK_id (f := 12) ?_); refine callK_funW [] [4, 5] (c35) (by simp [pullHW, roC, Function.comp_def, rows_pull, pullS, ix, pull_mV, pull_mS, pull_mE]) rfl rfl (by decide) (by simp [ne_mV, ne_mS, ne_mE]) (by simp [pullI, pullS, ix, kC_pull, kV, kC, encM]) ?_; rintro r Hn ⟨rfl, rfl⟩ -; skip)
          | ((with_reducible refine callK_id (f := 10) ?_); refine callK_fun c81 rfl rfl ?_)
          | ((with_reducible refine callK_id (f := 36) ?_); refine callK_funR [9] (r := .s (.raw (.int .u32 (withP 0 q.p)))) (by simp [pullH, roC, pullI, pullS, ix]; exact f19 _) rfl ?_)
          | ((with_reducible refine callK_id (f := 36) ?_); refine callK_funR [8] (r := .s (.raw (.int .u32 (withP 0 q.p)))) (by simp [pullH, roC, pullI, pullS, ix]; exact f19 _) rfl ?_)
          | ((with_reducible refine callK_id (f := 36) ?_); refine callK_funR [10] (r := .s (.raw (.int .u32 (withP 0 q.p)))) (by simp [pullH, roC, pullI, pullS, ix]; exact f19 _) rfl ?_)
          | (refine ⟨_, _, WkR.gc [0, 1, 2, 3, 4, 5] rfl (by decide), by simp [gcH], ?_, ?_⟩ <;> (first | (simp [gcI, pullI, pullS]; done) | (simp [gcH, rows_pull, pullS, ix, pull_mV, pull_mS, pull_mE]; done)))
          | (with_reducible refine And.intro ?_ ?_; · omega)
      | none =>
        rw [h3] at c24
        unfold tabC at c24
        simp only [Option.isSome_none, Option.map_none, Option.getD_none] at c24
        cases h4 : look Lf ⟨vid, m⟩ with
        | some q =>
          rw [h4] at c35
          unfold fdbC at c35
          simp only [Option.isSome_some, Option.map_some, Option.getD_some] at c35
          repeat' first
            | with_reducible rfl
            | simp only [kV, eV_len, encM, eV, kd, push_mV, push_mS, push_mE, rows_push1, push_one, pull_one, kC_push, kC_pull, kC_len, eR_len, eV_len, eV_pull, eV_push, RS_, argsTM, stepE, stBuiltin, stBox, stAlloc, stLoad, stStore, stField, stExtract, stBin, stUn, stConv, stNilCheck, stFieldV, stIndex, stIndexAddr, stLen, stMin, stMax, stBuild, fillI, stBuildSlice, setRows, stMakeSlice, stAppend, srcR, segR, rdCells, stSlice, bnd, stArr, stCopy, stConv2, isIntV, cutR, byteRows, rowByte, binStr, Option.map_some, Option.map_none, eq_self, canTL, canT, canH, canL, patL, gcH, gcT, gcI, get_gcT, pullS, pullI, pushS, push1, pushI, pullHW, roC, ix, List.map_map, Function.comp_def, List.zip_cons_cons, List.zip_nil_left, List.zip_nil_right, List.range'_zero, List.range'_succ, rd, get, put, IV.cells, ofValue, seg, spl, ldIV, binInt, eqI, cellsEq, leafEq, resI, flat, isT, upd, up1, nextM, cR, ptrC, nAl, isAl, ST_, Nat.reduceAdd, Nat.reduceMul, Nat.reduceEqDiff, Nat.reduceLeDiff, ne_eq, reduceCtorEq, reduceIte, forall_const, implies_true, Int.reduceToNat, Int.reduceLE, Int.reduceLT, bne, Int.reduceEq, Int.reduceNe, Int.reduceNeg, Int.reduceAdd, Int.reduceSub, Int.reduceMul, Int.reduceBEq, Int.reduceBNe, Nat.reduceLT, Nat.reduceSub, WLS, ty_ag_31, ty_ag_32, ty_ag_33, ty_ag_70, ty_ag_40, ty_ag_63, ty_of_35_0, ty_of_35_1, ty_of_35_2, ty_of_73_1, ty_ok_63, ty_pl_63_0, ty_pl_63_1, ty_sz_31, ty_sz_32, ty_sz_33, ty_sz_70, ty_sz_73, ty_sz_40, ty_sz_63, ty_ze_73, ty_ze_63, ty_zs_130]
            | (with_reducible refine drawK_id ?_); refine drawK_auto hmix (by kernel_rfl) ?_
            | (with_reducible refine draw_fin ?_ ?_); · kernel_rfl
            | (with_reducible refine draw_id ?_); kernel_rfl
            | (with_reducible refine callK_id (f := 34) ?_); refine callK_fun (without _ _) rfl rfl ?_
            | ((with_reducible refine callK_id (f := 16) ?_); refine callK_funW [] [0, 1] (c14) (by simp [pullHW, roC, Function.comp_def, rows_pull, pullS, ix, pull_mV, pull_mS, pull_mE]) rfl rfl (by decide) (by simp [ne_mV, ne_mS, ne_mE]) (by simp [pullI, pullS, ix, kC_pull, kV, kC, encM]) ?_; rintro r Hn ⟨rfl, rfl⟩ -; skip)
            | ((with_reducible refine callK_id (f := 35) ?_); refine callK_funW [] [2, 3] (c24) (by simp [pullHW, roC, Function.comp_def, rows_pull, pullS, ix, pull_mV, pull_mS, pull_mE]) rfl rfl (by decide) (by simp [ne_mV, ne_mS, ne_mE]) (by simp [pullI, pullS, ix, kC_pull, kV, kC, encM]) ?_; rintro r Hn ⟨rfl, rfl⟩ -; skip)
            | ((with_reducible refine callK_id (f := 12) ?_); refine callK_funW [] [4, 5] (c35) (by simp [pullHW, roC, Function.comp_def, rows_pull, pullS, ix, pull_mV, pull_mS, pull_mE]) rfl rfl (by decide) (by simp [ne_mV, ne_mS, ne_mE]) (by simp [pullI, pullS, ix, kC_pull, kV, kC, encM]) ?_; rintro r Hn ⟨rfl, rfl⟩ -; skip)
            | ((with_reducible refine callK_id (f := 10) ?_); refine callK_fun c81 rfl rfl ?_)
            | ((with_reducible refine callK_id (f := 36) ?_); refine callK_funR [9] (r := .s (.raw (.int .u32 (withP 0 q.p)))) (by simp [pullH, roC, pullI, pullS, ix]; exact f19 _) rfl ?_)
            | ((with_reducible refine callK_id (f := 36) ?_); refine callK_funR [8] (r := .s (.raw (.int .u32 (withP 0 q.p)))) (by simp [pullH, roC, pullI, pullS, ix]; exact f19 _) rfl ?_)
            | ((with_reducible refine callK_id (f := 36) ?_); refine callK_funR [10] (r := .s (.raw (.int .u32 (withP 0 q.p)))) (by simp [pullH, roC, pullI, pullS, ix]; exact f19 _) rfl ?_)
            | (refine ⟨_, _, WkR.gc [0, 1, 2, 3, 4, 5] rfl (by decide), by simp [gcH], ?_, ?_⟩ <;> (first | (simp [gcI, pullI, pullS]; done) | (simp [gcH, rows_pull, pullS, ix, pull_mV, pull_mS, pull_mE]; done)))
            | (with_reducible refine And.intro ?_ ?_; · omega)
        | none =>
          rw [h4] at c35
          unfold fdbC at c35
          simp only [Option.isSome_none, Option.map_none, Option.getD_none] at c35
          repeat' first
            | with_reducible rfl
            | simp only [kV, eV_len, encM, eV, kd, push_mV, push_mS, push_mE, rows_push1, push_one, pull_one, kC_push, kC_pull, kC_len, eR_len, eV_len, eV_pull, eV_push, RS_, argsTM, stepE, stBuiltin, stBox, stAlloc, stLoad, stStore, stField, stExtract, stBin, stUn, stConv, stNilCheck, stFieldV, stIndex, stIndexAddr, stLen, stMin, stMax, stBuild, fillI, stBuildSlice, setRows, stMakeSlice, stAppend, srcR, segR, rdCells, stSlice, bnd, stArr, stCopy, stConv2, isIntV, cutR, byteRows, rowByte, binStr, Option.map_some, Option.map_none, eq_self, canTL, canT, canH, canL, patL, gcH, gcT, gcI, get_gcT, pullS, pullI, pushS, push1, pushI, pullHW, roC, ix, List.map_map, Function.comp_def, List.zip_cons_cons, List.zip_nil_left, List.zip_nil_right, List.range'_zero, List.range'_succ, rd, get, put, IV.cells, ofValue, seg, spl, ldIV, binInt, eqI, cellsEq, leafEq, resI, flat, isT, upd, up1, nextM, cR, ptrC, nAl, isAl, ST_, Nat.reduceAdd, Nat.reduceMul, Nat.reduceEqDiff, Nat.reduceLeDiff, ne_eq, reduceCtorEq, reduceIte, forall_const, implies_true, Int.reduceToNat, Int.reduceLE, Int.reduceLT, bne, Int.reduceEq, Int.reduceNe, Int.reduceNeg, Int.reduceAdd, Int.reduceSub, Int.reduceMul, Int.reduceBEq, Int.reduceBNe, Nat.reduceLT, Nat.reduceSub, WLS, ty_ag_31, ty_ag_32, ty_ag_33, ty_ag_70, ty_ag_40, ty_ag_63, ty_of_35_0, ty_of_35_1, ty_of_35_2, ty_of_73_1, ty_ok_63, ty_pl_63_0, ty_pl_63_1, ty_sz_31, ty_sz_32, ty_sz_33, ty_sz_70, ty_sz_73, ty_sz_40, ty_sz_63, ty_ze_73, ty_ze_63, ty_zs_130]
            | (with_reducible refine drawK_id ?_); refine drawK_auto hmix (by kernel_rfl) ?_
            | (with_reducible refine draw_fin ?_ ?_); · kernel_rfl
            | (with_reducible refine draw_id ?_); kernel_rfl
            | (with_reducible refine callK_id (f := 34) ?_); refine callK_fun (without _ _) rfl rfl ?_
            | ((with_reducible refine callK_id (f := 16) ?_); refine callK_funW [] [0, 1] (c14) (by simp [pullHW, roC, Function.comp_def, rows_pull, pullS, ix, pull_mV, pull_mS, pull_mE]) rfl rfl (by decide) (by simp [ne_mV, ne_mS, ne_mE]) (by simp [pullI, pullS, ix, kC_pull, kV, kC, encM]) ?_; rintro r Hn ⟨rfl, rfl⟩ -; skip)
            | ((with_reducible refine callK_id (f := 35) ?_); refine callK_funW [] [2, 3] (c24) (by simp [pullHW, roC, Function.comp_def, rows_pull, pullS, ix, pull_mV, pull_mS, pull_mE]) rfl rfl (by decide) (by simp [ne_mV, ne_mS, ne_mE]) (by simp [pullI, pullS, ix, kC_pull, kV, kC, encM]) ?_; rintro r Hn ⟨rfl, rfl⟩ -; skip)
            | ((with_reducible refine callK_id (f := 12) ?_); refine callK_funW [] [4, 5] (c35) (by simp [pullHW, roC, Function.comp_def, rows_pull, pullS, ix, pull_mV, pull_mS, pull_mE]) rfl rfl (by decide) (by simp [ne_mV, ne_mS, ne_mE]) (by simp [pullI, pullS, ix, kC_pull, kV, kC, encM]) ?_; rintro r Hn ⟨rfl, rfl⟩ -; skip)
            | ((with_reducible refine callK_id (f := 10) ?_); refine callK_fun c81 rfl rfl ?_)
            | ((with_reducible refine callK_id (f := 36) ?_); refine callK_funR [9] (r := .s (.raw (.int .u32 (withP 0 q.p)))) (by simp [pullH, roC, pullI, pullS, ix]; exact f19 _) rfl ?_)
            | ((with_reducible refine callK_id (f := 36) ?_); refine callK_funR [8] (r := .s (.raw (.int .u32 (withP 0 q.p)))) (by simp [pullH, roC, pullI, pullS, ix]; exact f19 _) rfl ?_)
            | ((with_reducible refine callK_id (f := 36) ?_); refine callK_funR [10] (r := .s (.raw (.int .u32 (withP 0 q.p)))) (by simp [pullH, roC, pullI, pullS, ix]; exact f19 _) rfl ?_)
            | (refine ⟨_, _, WkR.gc [0, 1, 2, 3, 4, 5] rfl (by decide), by simp [gcH], ?_, ?_⟩ <;> (first | (simp [gcI, pullI, pullS]; done) | (simp [gcH, rows_pull, pullS, ix, pull_mV, pull_mS, pull_mE]; done)))
            | (with_reducible refine And.intro ?_ ?_; · omega)
end Go.Ev
