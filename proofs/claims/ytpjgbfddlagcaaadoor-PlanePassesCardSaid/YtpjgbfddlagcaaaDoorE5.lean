/- A part of the proof: contracts of the functions that the statement reaches. -/
import Derived.Test.YtpjgbfddlagcaaaDoorEvC
import Derived.Test.YtpjgbfddlagcaaaDoorE3
namespace Go.Ev
open Go.Proofs
set_option maxRecDepth 100000
set_option linter.unusedSimpArgs false
set_option linter.unusedVariables false
set_option maxHeartbeats 4000000
open Srt
structure FRM where
  d : M6
  s : M6
  t : Bool
  p : Int
  e : Bool
  v : Int
  y : Int
  x : ByteArray
  deriving Inhabited
def frC (f : FRM) : List SV := [.raw (.int .u8 f.d.m0), .raw (.int .u8 f.d.m1), .raw (.int .u8 f.d.m2), .raw (.int .u8 f.d.m3), .raw (.int .u8 f.d.m4), .raw (.int .u8 f.d.m5), .raw (.int .u8 f.s.m0), .raw (.int .u8 f.s.m1), .raw (.int .u8 f.s.m2), .raw (.int .u8 f.s.m3), .raw (.int .u8 f.s.m4), .raw (.int .u8 f.s.m5), .raw (.bool f.t), .raw (.int .u8 f.p), .raw (.bool f.e), .raw (.int .u16 f.v), .raw (.int .u16 f.y), .raw (.string f.x)]
def goodF (f : FRM) : Bool := if f.t then decide (f.p ≤ 7) && decide (f.v ≤ 4094) else f.p == 0 && (!f.e && (f.v == 0 && f.y != 33024))
theorem goodW (f : FRM) : Fun Tryd.prog 49 [.a (frC f)] (.s (.raw (.bool (goodF f)))) := by
  refine fun_of rfl fun X => ?_
  unfold goodF
  refine callK_inline (rs := [.tmp 2]) (n := 31) Tryd.func49 rfl rfl rfl (by kernel_rfl) (by kernel_rfl) (by simp only [List.length_cons, List.length_nil]; decide) ?_
  obtain ⟨d, s, t, p, e, v, y, x⟩ := f
  cases t with
  | true =>
    simp only [if_true]
    cases h1 : decide (p ≤ 7) with
    | true =>
      repeat' first
        | with_reducible rfl
        | simp only [frC, h1, RS_, argsTM, stepE, stBuiltin, stBox, stAlloc, stLoad, stStore, stField, stExtract, stBin, stUn, stConv, stNilCheck, stFieldV, stIndex, stIndexAddr, stLen, stMin, stMax, stBuild, fillI, stBuildSlice, setRows, stMakeSlice, stAppend, srcR, segR, rdCells, stSlice, bnd, stArr, stCopy, stConv2, isIntV, cutR, byteRows, rowByte, binStr, Option.map_some, Option.map_none, eq_self, canTL, canT, canH, canL, patL, gcH, gcT, gcI, get_gcT, mapC, pullS, pullI, pushS, push1, pushI, pushC, pullHW, roC, ix, List.map_map, Function.comp_def, List.zip_cons_cons, List.zip_nil_left, List.zip_nil_right, List.range'_zero, List.range'_succ, rd, get, put, IV.cells, ofValue, seg, spl, ldIV, binInt, eqI, cellsEq, leafEq, resI, flat, isT, upd, up1, nextM, cR, ptrC, nAl, isAl, ST_, Nat.reduceAdd, Nat.reduceMul, Nat.reduceEqDiff, Nat.reduceLeDiff, ne_eq, reduceCtorEq, reduceIte, forall_const, implies_true, Int.reduceToNat, Int.reduceLE, Int.reduceLT, bne, Int.reduceEq, Int.reduceNe, Int.reduceNeg, Int.reduceAdd, Int.reduceSub, Int.reduceMul, Int.reduceBEq, Int.reduceBNe, Nat.reduceLT, Nat.reduceSub, WLS, ty_ag_23, ty_ag_4, ty_ag_5, ty_of_42_2, ty_of_42_3, ty_of_42_4, ty_of_42_5, ty_of_42_6, ty_sz_23, ty_sz_4, ty_sz_5]
        | (with_reducible refine drawK_id ?_); refine drawK_auto hmix (by kernel_rfl) ?_
        | (with_reducible refine draw_fin ?_ ?_); · kernel_rfl
        | (with_reducible refine draw_id ?_); kernel_rfl
        | (with_reducible refine And.intro ?_ ?_; · omega)
    | false =>
      repeat' first
        | with_reducible rfl
        | simp only [frC, h1, RS_, argsTM, stepE, stBuiltin, stBox, stAlloc, stLoad, stStore, stField, stExtract, stBin, stUn, stConv, stNilCheck, stFieldV, stIndex, stIndexAddr, stLen, stMin, stMax, stBuild, fillI, stBuildSlice, setRows, stMakeSlice, stAppend, srcR, segR, rdCells, stSlice, bnd, stArr, stCopy, stConv2, isIntV, cutR, byteRows, rowByte, binStr, Option.map_some, Option.map_none, eq_self, canTL, canT, canH, canL, patL, gcH, gcT, gcI, get_gcT, mapC, pullS, pullI, pushS, push1, pushI, pushC, pullHW, roC, ix, List.map_map, Function.comp_def, List.zip_cons_cons, List.zip_nil_left, List.zip_nil_right, List.range'_zero, List.range'_succ, rd, get, put, IV.cells, ofValue, seg, spl, ldIV, binInt, eqI, cellsEq, leafEq, resI, flat, isT, upd, up1, nextM, cR, ptrC, nAl, isAl, ST_, Nat.reduceAdd, Nat.reduceMul, Nat.reduceEqDiff, Nat.reduceLeDiff, ne_eq, reduceCtorEq, reduceIte, forall_const, implies_true, Int.reduceToNat, Int.reduceLE, Int.reduceLT, bne, Int.reduceEq, Int.reduceNe, Int.reduceNeg, Int.reduceAdd, Int.reduceSub, Int.reduceMul, Int.reduceBEq, Int.reduceBNe, Nat.reduceLT, Nat.reduceSub, WLS, ty_ag_23, ty_ag_4, ty_ag_5, ty_of_42_2, ty_of_42_3, ty_of_42_4, ty_of_42_5, ty_of_42_6, ty_sz_23, ty_sz_4, ty_sz_5]
        | (with_reducible refine drawK_id ?_); refine drawK_auto hmix (by kernel_rfl) ?_
        | (with_reducible refine draw_fin ?_ ?_); · kernel_rfl
        | (with_reducible refine draw_id ?_); kernel_rfl
        | (with_reducible refine And.intro ?_ ?_; · omega)
  | false =>
    simp only [if_false, Bool.false_eq_true]
    cases h1 : (p == 0) with
    | false =>
      repeat' first
        | with_reducible rfl
        | simp only [frC, h1, RS_, argsTM, stepE, stBuiltin, stBox, stAlloc, stLoad, stStore, stField, stExtract, stBin, stUn, stConv, stNilCheck, stFieldV, stIndex, stIndexAddr, stLen, stMin, stMax, stBuild, fillI, stBuildSlice, setRows, stMakeSlice, stAppend, srcR, segR, rdCells, stSlice, bnd, stArr, stCopy, stConv2, isIntV, cutR, byteRows, rowByte, binStr, Option.map_some, Option.map_none, eq_self, canTL, canT, canH, canL, patL, gcH, gcT, gcI, get_gcT, mapC, pullS, pullI, pushS, push1, pushI, pushC, pullHW, roC, ix, List.map_map, Function.comp_def, List.zip_cons_cons, List.zip_nil_left, List.zip_nil_right, List.range'_zero, List.range'_succ, rd, get, put, IV.cells, ofValue, seg, spl, ldIV, binInt, eqI, cellsEq, leafEq, resI, flat, isT, upd, up1, nextM, cR, ptrC, nAl, isAl, ST_, Nat.reduceAdd, Nat.reduceMul, Nat.reduceEqDiff, Nat.reduceLeDiff, ne_eq, reduceCtorEq, reduceIte, forall_const, implies_true, Int.reduceToNat, Int.reduceLE, Int.reduceLT, bne, Int.reduceEq, Int.reduceNe, Int.reduceNeg, Int.reduceAdd, Int.reduceSub, Int.reduceMul, Int.reduceBEq, Int.reduceBNe, Nat.reduceLT, Nat.reduceSub, WLS, ty_ag_23, ty_ag_4, ty_ag_5, ty_of_42_2, ty_of_42_3, ty_of_42_4, ty_of_42_5, ty_of_42_6, ty_sz_23, ty_sz_4, ty_sz_5]
        | (with_reducible refine drawK_id ?_); refine drawK_auto hmix (by kernel_rfl) ?_
        | (with_reducible refine draw_fin ?_ ?_); · kernel_rfl
        | (with_reducible refine draw_id ?_); kernel_rfl
        | (with_reducible refine And.intro ?_ ?_; · omega)
    | true =>
      cases e with
      | true =>
      repeat' first
        | with_reducible rfl
        | simp only [frC, h1, RS_, argsTM, stepE, stBuiltin, stBox, stAlloc, stLoad, stStore, stField, stExtract, stBin, stUn, stConv, stNilCheck, stFieldV, stIndex, stIndexAddr, stLen, stMin, stMax, stBuild, fillI, stBuildSlice, setRows, stMakeSlice, stAppend, srcR, segR, rdCells, stSlice, bnd, stArr, stCopy, stConv2, isIntV, cutR, byteRows, rowByte, binStr, Option.map_some, Option.map_none, eq_self, canTL, canT, canH, canL, patL, gcH, gcT, gcI, get_gcT, mapC, pullS, pullI, pushS, push1, pushI, pushC, pullHW, roC, ix, List.map_map, Function.comp_def, List.zip_cons_cons, List.zip_nil_left, List.zip_nil_right, List.range'_zero, List.range'_succ, rd, get, put, IV.cells, ofValue, seg, spl, ldIV, binInt, eqI, cellsEq, leafEq, resI, flat, isT, upd, up1, nextM, cR, ptrC, nAl, isAl, ST_, Nat.reduceAdd, Nat.reduceMul, Nat.reduceEqDiff, Nat.reduceLeDiff, ne_eq, reduceCtorEq, reduceIte, forall_const, implies_true, Int.reduceToNat, Int.reduceLE, Int.reduceLT, bne, Int.reduceEq, Int.reduceNe, Int.reduceNeg, Int.reduceAdd, Int.reduceSub, Int.reduceMul, Int.reduceBEq, Int.reduceBNe, Nat.reduceLT, Nat.reduceSub, WLS, ty_ag_23, ty_ag_4, ty_ag_5, ty_of_42_2, ty_of_42_3, ty_of_42_4, ty_of_42_5, ty_of_42_6, ty_sz_23, ty_sz_4, ty_sz_5]
        | (with_reducible refine drawK_id ?_); refine drawK_auto hmix (by kernel_rfl) ?_
        | (with_reducible refine draw_fin ?_ ?_); · kernel_rfl
        | (with_reducible refine draw_id ?_); kernel_rfl
        | (with_reducible refine And.intro ?_ ?_; · omega)
      | false =>
        cases h2 : (v == 0) with
        | false =>
          repeat' first
            | with_reducible rfl
            | simp only [frC, h1, h2, RS_, argsTM, stepE, stBuiltin, stBox, stAlloc, stLoad, stStore, stField, stExtract, stBin, stUn, stConv, stNilCheck, stFieldV, stIndex, stIndexAddr, stLen, stMin, stMax, stBuild, fillI, stBuildSlice, setRows, stMakeSlice, stAppend, srcR, segR, rdCells, stSlice, bnd, stArr, stCopy, stConv2, isIntV, cutR, byteRows, rowByte, binStr, Option.map_some, Option.map_none, eq_self, canTL, canT, canH, canL, patL, gcH, gcT, gcI, get_gcT, mapC, pullS, pullI, pushS, push1, pushI, pushC, pullHW, roC, ix, List.map_map, Function.comp_def, List.zip_cons_cons, List.zip_nil_left, List.zip_nil_right, List.range'_zero, List.range'_succ, rd, get, put, IV.cells, ofValue, seg, spl, ldIV, binInt, eqI, cellsEq, leafEq, resI, flat, isT, upd, up1, nextM, cR, ptrC, nAl, isAl, ST_, Nat.reduceAdd, Nat.reduceMul, Nat.reduceEqDiff, Nat.reduceLeDiff, ne_eq, reduceCtorEq, reduceIte, forall_const, implies_true, Int.reduceToNat, Int.reduceLE, Int.reduceLT, bne, Int.reduceEq, Int.reduceNe, Int.reduceNeg, Int.reduceAdd, Int.reduceSub, Int.reduceMul, Int.reduceBEq, Int.reduceBNe, Nat.reduceLT, Nat.reduceSub, WLS, ty_ag_23, ty_ag_4, ty_ag_5, ty_of_42_2, ty_of_42_3, ty_of_42_4, ty_of_42_5, ty_of_42_6, ty_sz_23, ty_sz_4, ty_sz_5]
            | (with_reducible refine drawK_id ?_); refine drawK_auto hmix (by kernel_rfl) ?_
            | (with_reducible refine draw_fin ?_ ?_); · kernel_rfl
            | (with_reducible refine draw_id ?_); kernel_rfl
            | (with_reducible refine And.intro ?_ ?_; · omega)
        | true =>
          repeat' first
            | with_reducible rfl
            | simp only [frC, h1, h2, RS_, argsTM, stepE, stBuiltin, stBox, stAlloc, stLoad, stStore, stField, stExtract, stBin, stUn, stConv, stNilCheck, stFieldV, stIndex, stIndexAddr, stLen, stMin, stMax, stBuild, fillI, stBuildSlice, setRows, stMakeSlice, stAppend, srcR, segR, rdCells, stSlice, bnd, stArr, stCopy, stConv2, isIntV, cutR, byteRows, rowByte, binStr, Option.map_some, Option.map_none, eq_self, canTL, canT, canH, canL, patL, gcH, gcT, gcI, get_gcT, mapC, pullS, pullI, pushS, push1, pushI, pushC, pullHW, roC, ix, List.map_map, Function.comp_def, List.zip_cons_cons, List.zip_nil_left, List.zip_nil_right, List.range'_zero, List.range'_succ, rd, get, put, IV.cells, ofValue, seg, spl, ldIV, binInt, eqI, cellsEq, leafEq, resI, flat, isT, upd, up1, nextM, cR, ptrC, nAl, isAl, ST_, Nat.reduceAdd, Nat.reduceMul, Nat.reduceEqDiff, Nat.reduceLeDiff, ne_eq, reduceCtorEq, reduceIte, forall_const, implies_true, Int.reduceToNat, Int.reduceLE, Int.reduceLT, bne, Int.reduceEq, Int.reduceNe, Int.reduceNeg, Int.reduceAdd, Int.reduceSub, Int.reduceMul, Int.reduceBEq, Int.reduceBNe, Nat.reduceLT, Nat.reduceSub, WLS, ty_ag_23, ty_ag_4, ty_ag_5, ty_of_42_2, ty_of_42_3, ty_of_42_4, ty_of_42_5, ty_of_42_6, ty_sz_23, ty_sz_4, ty_sz_5]
            | (with_reducible refine drawK_id ?_); refine drawK_auto hmix (by kernel_rfl) ?_
            | (with_reducible refine draw_fin ?_ ?_); · kernel_rfl
            | (with_reducible refine draw_id ?_); kernel_rfl
            | (with_reducible refine And.intro ?_ ?_; · omega)
theorem sm1 : shR .u64 18446744073709551615 63 = 1 := by decide +kernel
theorem sm3 : shR .u64 18446744073709551615 61 = 7 := by decide +kernel
theorem wi46 : IntKind.i64.wrap 46 = 46 := rfl
theorem wi47 : IntKind.i64.wrap 47 = 47 := rfl
theorem wi48 : IntKind.i64.wrap 48 = 48 := rfl
theorem wi49 : IntKind.i64.wrap 49 = 49 := rfl
theorem wi50 : IntKind.i64.wrap 50 = 50 := rfl
theorem wi51 : IntKind.i64.wrap 51 = 51 := rfl
theorem wi52 : IntKind.i64.wrap 52 = 52 := rfl
theorem wi53 : IntKind.i64.wrap 53 = 53 := rfl
theorem wi54 : IntKind.i64.wrap 54 = 54 := rfl
theorem wi55 : IntKind.i64.wrap 55 = 55 := rfl
theorem wi56 : IntKind.i64.wrap 56 = 56 := rfl
theorem wi57 : IntKind.i64.wrap 57 = 57 := rfl
theorem wi58 : IntKind.i64.wrap 58 = 58 := rfl
theorem wi59 : IntKind.i64.wrap 59 = 59 := rfl
theorem wi60 : IntKind.i64.wrap 60 = 60 := rfl
theorem wi61 : IntKind.i64.wrap 61 = 61 := rfl
theorem wi62 : IntKind.i64.wrap 62 = 62 := rfl
theorem wi63 : IntKind.i64.wrap 63 = 63 := rfl
theorem wi64 : IntKind.i64.wrap 64 = 64 := rfl
def wth (n at_ m v : Int) : Int := bOr .u64 (bAndNot .u64 n (shL .u64 m at_)) (shL .u64 (bAnd .u64 v m) at_)
theorem withA (n v : Int) : Fun Tryd.prog 59 [.s (.raw (.int .u64 n)), .s (.raw (.int .i64 13)), .s (.raw (.int .i64 3)), .s (.raw (.int .u64 v))] (.s (.raw (.int .u64 (wth n 13 7 v)))) := by
  refine fun_of rfl fun X => ?_
  refine callK_inline (rs := [.tmp 8]) (n := 31) Tryd.func59 rfl rfl rfl (by kernel_rfl) (by kernel_rfl) (by simp only [List.length_cons, List.length_nil]; decide) ?_
  repeat' first
    | with_reducible rfl
    | simp only [sm3, wth, wi46, wi47, wi48, wi49, wi50, wi51, wi52, wi53, wi54, wi55, wi56, wi57, wi58, wi59, wi60, wi61, wi62, wi63, wi64, RS_, argsTM, stepE, stBuiltin, stBox, stAlloc, stLoad, stStore, stField, stExtract, stBin, stUn, stConv, stNilCheck, stFieldV, stIndex, stIndexAddr, stLen, stMin, stMax, stBuild, fillI, stBuildSlice, setRows, stMakeSlice, stAppend, srcR, segR, rdCells, stSlice, bnd, stArr, stCopy, stConv2, isIntV, cutR, byteRows, rowByte, binStr, Option.map_some, Option.map_none, eq_self, canTL, canT, canH, canL, patL, gcH, gcT, gcI, get_gcT, mapC, pullS, pullI, pushS, push1, pushI, pushC, pullHW, roC, ix, List.map_map, Function.comp_def, List.zip_cons_cons, List.zip_nil_left, List.zip_nil_right, List.range'_zero, List.range'_succ, rd, get, put, IV.cells, ofValue, seg, spl, ldIV, binInt, eqI, cellsEq, leafEq, resI, flat, isT, upd, up1, nextM, cR, ptrC, nAl, isAl, ST_, Nat.reduceAdd, Nat.reduceMul, Nat.reduceEqDiff, Nat.reduceLeDiff, ne_eq, reduceCtorEq, reduceIte, forall_const, implies_true, Int.reduceToNat, Int.reduceLE, Int.reduceLT, bne, Int.reduceEq, Int.reduceNe, Int.reduceNeg, Int.reduceAdd, Int.reduceSub, Int.reduceMul, Int.reduceBEq, Int.reduceBNe, Nat.reduceLT, Nat.reduceSub, WLS, ]
    | with_reducible refine gdb_split (fun h => ?_) (fun h => ?_)
    | (with_reducible refine drawK_id ?_); refine drawK_auto hmix (by kernel_rfl) ?_
    | (with_reducible refine draw_fin ?_ ?_); · kernel_rfl
    | (with_reducible refine draw_id ?_); kernel_rfl
    | (with_reducible refine callK_id (f := 74) ?_); refine callK_inline (rs := [.tmp 4, .tmp 5]) (n := 25) Tryd.func74 rfl rfl rfl (by kernel_rfl) (by kernel_rfl) (by simp only [List.length_cons, List.length_nil]; decide) ?_
    | (with_reducible refine And.intro ?_ ?_; · omega)
theorem withB (n : Int) : Fun Tryd.prog 59 [.s (.raw (.int .u64 n)), .s (.raw (.int .i64 12)), .s (.raw (.int .i64 1)), .s (.raw (.int .u64 1))] (.s (.raw (.int .u64 (wth n 12 1 1)))) := by
  refine fun_of rfl fun X => ?_
  refine callK_inline (rs := [.tmp 8]) (n := 31) Tryd.func59 rfl rfl rfl (by kernel_rfl) (by kernel_rfl) (by simp only [List.length_cons, List.length_nil]; decide) ?_
  repeat' first
    | with_reducible rfl
    | simp only [sm1, wth, wi46, wi47, wi48, wi49, wi50, wi51, wi52, wi53, wi54, wi55, wi56, wi57, wi58, wi59, wi60, wi61, wi62, wi63, wi64, RS_, argsTM, stepE, stBuiltin, stBox, stAlloc, stLoad, stStore, stField, stExtract, stBin, stUn, stConv, stNilCheck, stFieldV, stIndex, stIndexAddr, stLen, stMin, stMax, stBuild, fillI, stBuildSlice, setRows, stMakeSlice, stAppend, srcR, segR, rdCells, stSlice, bnd, stArr, stCopy, stConv2, isIntV, cutR, byteRows, rowByte, binStr, Option.map_some, Option.map_none, eq_self, canTL, canT, canH, canL, patL, gcH, gcT, gcI, get_gcT, mapC, pullS, pullI, pushS, push1, pushI, pushC, pullHW, roC, ix, List.map_map, Function.comp_def, List.zip_cons_cons, List.zip_nil_left, List.zip_nil_right, List.range'_zero, List.range'_succ, rd, get, put, IV.cells, ofValue, seg, spl, ldIV, binInt, eqI, cellsEq, leafEq, resI, flat, isT, upd, up1, nextM, cR, ptrC, nAl, isAl, ST_, Nat.reduceAdd, Nat.reduceMul, Nat.reduceEqDiff, Nat.reduceLeDiff, ne_eq, reduceCtorEq, reduceIte, forall_const, implies_true, Int.reduceToNat, Int.reduceLE, Int.reduceLT, bne, Int.reduceEq, Int.reduceNe, Int.reduceNeg, Int.reduceAdd, Int.reduceSub, Int.reduceMul, Int.reduceBEq, Int.reduceBNe, Nat.reduceLT, Nat.reduceSub, WLS, ]
    | with_reducible refine gdb_split (fun h => ?_) (fun h => ?_)
    | (with_reducible refine drawK_id ?_); refine drawK_auto hmix (by kernel_rfl) ?_
    | (with_reducible refine draw_fin ?_ ?_); · kernel_rfl
    | (with_reducible refine draw_id ?_); kernel_rfl
    | (with_reducible refine callK_id (f := 74) ?_); refine callK_inline (rs := [.tmp 4, .tmp 5]) (n := 25) Tryd.func74 rfl rfl rfl (by kernel_rfl) (by kernel_rfl) (by simp only [List.length_cons, List.length_nil]; decide) ?_
    | (with_reducible refine And.intro ?_ ?_; · omega)
def infoF (f : FRM) : Int := if f.e then wth (wth (IntKind.u64.wrap f.v) 13 7 (IntKind.u64.wrap f.p)) 12 1 1 else wth (IntKind.u64.wrap f.v) 13 7 (IntKind.u64.wrap f.p)
theorem infoW (f : FRM) : Fun Tryd.prog 50 [.a (frC f)] (.s (.raw (.int .u64 (infoF f)))) := by
  refine fun_of rfl fun X => ?_
  unfold infoF
  refine callK_inline (rs := [.tmp 2]) (n := 16) Tryd.func50 rfl rfl rfl (by kernel_rfl) (by kernel_rfl) (by simp only [List.length_cons, List.length_nil]; decide) ?_
  obtain ⟨d, s, t, p, e, v, y, x⟩ := f
  cases e with
  | true =>
    repeat' first
      | with_reducible rfl
      | simp only [frC, RS_, argsTM, stepE, stBuiltin, stBox, stAlloc, stLoad, stStore, stField, stExtract, stBin, stUn, stConv, stNilCheck, stFieldV, stIndex, stIndexAddr, stLen, stMin, stMax, stBuild, fillI, stBuildSlice, setRows, stMakeSlice, stAppend, srcR, segR, rdCells, stSlice, bnd, stArr, stCopy, stConv2, isIntV, cutR, byteRows, rowByte, binStr, Option.map_some, Option.map_none, eq_self, canTL, canT, canH, canL, patL, gcH, gcT, gcI, get_gcT, mapC, pullS, pullI, pushS, push1, pushI, pushC, pullHW, roC, ix, List.map_map, Function.comp_def, List.zip_cons_cons, List.zip_nil_left, List.zip_nil_right, List.range'_zero, List.range'_succ, rd, get, put, IV.cells, ofValue, seg, spl, ldIV, binInt, eqI, cellsEq, leafEq, resI, flat, isT, upd, up1, nextM, cR, ptrC, nAl, isAl, ST_, Nat.reduceAdd, Nat.reduceMul, Nat.reduceEqDiff, Nat.reduceLeDiff, ne_eq, reduceCtorEq, reduceIte, forall_const, implies_true, Int.reduceToNat, Int.reduceLE, Int.reduceLT, bne, Int.reduceEq, Int.reduceNe, Int.reduceNeg, Int.reduceAdd, Int.reduceSub, Int.reduceMul, Int.reduceBEq, Int.reduceBNe, Nat.reduceLT, Nat.reduceSub, WLS, Tryd.underlying23, Tryd.underlying53, Tryd.underlying5, ty_ag_23, ty_ag_4, ty_ag_5, ty_of_42_3, ty_of_42_4, ty_of_42_5, ty_sz_23, ty_sz_4, ty_sz_5]
      | (with_reducible refine drawK_id ?_); refine drawK_auto hmix (by kernel_rfl) ?_
      | (with_reducible refine draw_fin ?_ ?_); · kernel_rfl
      | (with_reducible refine draw_id ?_); kernel_rfl
      | (with_reducible refine callK_id (f := 59) (args := [.s _, .s (.raw (.int .i64 13)), .s _, .s _]) ?_); refine callK_fun (withA _ _) rfl rfl ?_
      | (with_reducible refine callK_id (f := 59) ?_); refine callK_fun (withB _) rfl rfl ?_
      | (with_reducible refine And.intro ?_ ?_; · omega)
  | false =>
    repeat' first
      | with_reducible rfl
      | simp only [frC, RS_, argsTM, stepE, stBuiltin, stBox, stAlloc, stLoad, stStore, stField, stExtract, stBin, stUn, stConv, stNilCheck, stFieldV, stIndex, stIndexAddr, stLen, stMin, stMax, stBuild, fillI, stBuildSlice, setRows, stMakeSlice, stAppend, srcR, segR, rdCells, stSlice, bnd, stArr, stCopy, stConv2, isIntV, cutR, byteRows, rowByte, binStr, Option.map_some, Option.map_none, eq_self, canTL, canT, canH, canL, patL, gcH, gcT, gcI, get_gcT, mapC, pullS, pullI, pushS, push1, pushI, pushC, pullHW, roC, ix, List.map_map, Function.comp_def, List.zip_cons_cons, List.zip_nil_left, List.zip_nil_right, List.range'_zero, List.range'_succ, rd, get, put, IV.cells, ofValue, seg, spl, ldIV, binInt, eqI, cellsEq, leafEq, resI, flat, isT, upd, up1, nextM, cR, ptrC, nAl, isAl, ST_, Nat.reduceAdd, Nat.reduceMul, Nat.reduceEqDiff, Nat.reduceLeDiff, ne_eq, reduceCtorEq, reduceIte, forall_const, implies_true, Int.reduceToNat, Int.reduceLE, Int.reduceLT, bne, Int.reduceEq, Int.reduceNe, Int.reduceNeg, Int.reduceAdd, Int.reduceSub, Int.reduceMul, Int.reduceBEq, Int.reduceBNe, Nat.reduceLT, Nat.reduceSub, WLS, Tryd.underlying23, Tryd.underlying53, Tryd.underlying5, ty_ag_23, ty_ag_4, ty_ag_5, ty_of_42_3, ty_of_42_4, ty_of_42_5, ty_sz_23, ty_sz_4, ty_sz_5]
      | (with_reducible refine drawK_id ?_); refine drawK_auto hmix (by kernel_rfl) ?_
      | (with_reducible refine draw_fin ?_ ?_); · kernel_rfl
      | (with_reducible refine draw_id ?_); kernel_rfl
      | (with_reducible refine callK_id (f := 59) (args := [.s _, .s (.raw (.int .i64 13)), .s _, .s _]) ?_); refine callK_fun (withA _ _) rfl rfl ?_
      | (with_reducible refine callK_id (f := 59) ?_); refine callK_fun (withB _) rfl rfl ?_
      | (with_reducible refine And.intro ?_ ?_; · omega)
def b2 (n : Int) : ByteArray := ⟨#[UInt8.ofNat (IntKind.u8.wrap (shR .u64 n 8)).toNat, UInt8.ofNat (IntKind.u8.wrap (shR .u64 n 0)).toNat]⟩
theorem b2_size (n : Int) : (b2 n).size = 2 := rfl
theorem bytes2 (n : Int) : Fun Tryd.prog 41 [.s (.raw (.int .u64 n)), .s (.raw (.int .i64 2))] (.s (.raw (.string (b2 n)))) := by
  refine fun_of rfl fun X => ?_
  refine callK_inline (rs := [.tmp 4]) (n := 34) Tryd.func41 rfl rfl rfl (by kernel_rfl) (by kernel_rfl) (by simp only [List.length_cons, List.length_nil]; decide) ?_
  repeat' first
    | with_reducible rfl
    | simp only [e_loopN, b2, RS_, argsTM, stepE, stBuiltin, stBox, stAlloc, stLoad, stStore, stField, stExtract, stBin, stUn, stConv, stNilCheck, stFieldV, stIndex, stIndexAddr, stLen, stMin, stMax, stBuild, fillI, stBuildSlice, setRows, stMakeSlice, stAppend, srcR, segR, rdCells, stSlice, bnd, stArr, stCopy, stConv2, isIntV, cutR, byteRows, rowByte, binStr, Option.map_some, Option.map_none, eq_self, canTL, canT, canH, canL, patL, gcH, gcT, gcI, get_gcT, mapC, pullS, pullI, pushS, push1, pushI, pushC, pullHW, roC, ix, List.map_map, Function.comp_def, List.zip_cons_cons, List.zip_nil_left, List.zip_nil_right, List.range'_zero, List.range'_succ, rd, get, put, IV.cells, ofValue, seg, spl, ldIV, binInt, eqI, cellsEq, leafEq, resI, flat, isT, upd, up1, nextM, cR, ptrC, nAl, isAl, ST_, Nat.reduceAdd, Nat.reduceMul, Nat.reduceEqDiff, Nat.reduceLeDiff, ne_eq, reduceCtorEq, reduceIte, forall_const, implies_true, Int.reduceToNat, Int.reduceLE, Int.reduceLT, bne, Int.reduceEq, Int.reduceNe, Int.reduceNeg, Int.reduceAdd, Int.reduceSub, Int.reduceMul, Int.reduceBEq, Int.reduceBNe, Nat.reduceLT, Nat.reduceSub, WLS, Tryd.underlying53, Tryd.underlying5, ty_by_96, ty_ib_96, ty_sl_96, ty_st_9, ty_sz_5, ty_zs_96]
    | (with_reducible refine drawK_id ?_); refine drawK_auto hmix (by kernel_rfl) ?_
    | (with_reducible refine draw_fin ?_ ?_); · kernel_rfl
    | (with_reducible refine draw_id ?_); kernel_rfl
    | (with_reducible refine loopK_id ?_); refine loopK_n 4 (by kernel_rfl) ?_
    | (with_reducible refine And.intro ?_ ?_; · omega)
end Go.Ev
