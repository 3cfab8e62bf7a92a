/- A part of the proof: contracts of the functions that the statement reaches. -/
import Derived.Test.YtpjgbfddlagcaaaDoorEvC
import Derived.Test.YtpjgbfddlagcaaaDoorE8
import Derived.Test.YtpjgbfddlagcaaaDoorE7
import Derived.Test.YtpjgbfddlagcaaaDoorA1
namespace Go.Ev
open Go.Proofs
set_option maxRecDepth 100000
set_option linter.unusedSimpArgs false
set_option linter.unusedVariables false
set_option maxHeartbeats 4000000
open Srt
structure PRT where
  pv : Int
  ac : Int
  fi : Bool
  co : Int
  pr : Int
  ed : Bool
  ad : Bool
  up : Bool
  pl : Bool
  ag : Bool
  ro : Int
  st : Int
  inf : Int
  vr : Int
  vc : Int
  vb : Int
  vp : Int
  a1 : Int
  a2 : Int
  a3 : Int
  a4 : Int
def prC (p : PRT) : List SV := [.raw (.int .u16 p.pv), .raw (.int .i64 p.ac), .raw (.bool p.fi), .raw (.int .u32 p.co), .raw (.int .i64 p.pr), .raw (.bool p.ed), .raw (.bool p.ad), .raw (.bool p.up), .raw (.bool p.pl), .raw (.bool p.ag), .raw (.int .i64 p.ro), .raw (.int .i64 p.st), .raw (.int .i64 p.inf), .raw (.int .u64 p.vr), .raw (.int .u32 p.vc), .raw (.int .u64 p.vb), .raw (.int .u16 p.vp), .raw (.int .i64 p.a1), .raw (.int .i64 p.a2), .raw (.int .i64 p.a3), .raw (.int .i64 p.a4)]
theorem prC_pull (σ : List Nat) (p : PRT) : (prC p).map (pullS σ) = prC p := rfl
theorem prC_push (σ : List Nat) (p : PRT) : (prC p).map (pushS σ) = prC p := rfl
def onP (p : PRT) : Bool := p.up && p.ad
theorem onW (p : PRT) : Fun Tryd.prog 9 [.a (prC p)] (.s (.raw (.bool (onP p)))) := by
  refine fun_of rfl fun X => ?_
  refine callK_inline (rs := [.tmp 2]) (n := 9) Tryd.func9 rfl rfl rfl (by kernel_rfl) (by kernel_rfl) (by simp only [List.length_cons, List.length_nil]; decide) ?_
  repeat' first
    | with_reducible rfl
    | simp only [*, prC, onP, RS_, argsTM, stepE, stBuiltin, stBox, stAlloc, stLoad, stStore, stField, stExtract, stBin, stUn, stConv, stNilCheck, stFieldV, stIndex, stIndexAddr, stLen, stMin, stMax, stBuild, fillI, stBuildSlice, setRows, stMakeSlice, stAppend, srcR, segR, rdCells, stSlice, bnd, stArr, stCopy, stConv2, isIntV, cutR, byteRows, rowByte, binStr, Option.map_some, Option.map_none, eq_self, canTL, canT, canH, canL, patL, gcH, gcT, gcI, get_gcT, mapC, pullS, pullI, pushS, push1, pushI, pushC, pullHW, roC, ix, List.map_map, Function.comp_def, List.zip_cons_cons, List.zip_nil_left, List.zip_nil_right, List.range'_zero, List.range'_succ, rd, get, put, IV.cells, ofValue, seg, spl, ldIV, binInt, eqI, cellsEq, leafEq, resI, flat, isT, upd, up1, nextM, cR, ptrC, nAl, isAl, ST_, Nat.reduceAdd, Nat.reduceMul, Nat.reduceEqDiff, Nat.reduceLeDiff, ne_eq, reduceCtorEq, reduceIte, forall_const, implies_true, Int.reduceToNat, Int.reduceLE, Int.reduceLT, bne, Int.reduceEq, Int.reduceNe, Int.reduceNeg, Int.reduceAdd, Int.reduceSub, Int.reduceMul, Int.reduceBEq, Int.reduceBNe, Nat.reduceLT, Nat.reduceSub, WLS, ty_ag_4, ty_of_58_4, ty_of_58_5, ty_sz_4]
    | with_reducible refine gdb_split (fun h => ?_) (fun h => ?_)
    | (with_reducible refine drawK_id ?_); refine drawK_auto hmix (by kernel_rfl) ?_
    | (with_reducible refine draw_fin ?_ ?_); · kernel_rfl
    | (with_reducible refine draw_id ?_); kernel_rfl
    | (with_reducible refine And.intro ?_ ?_; · omega)
def openN : Nat → Int → List PRT → Int
  | _, s, [] => s
  | k, s, p :: l => openN (k + 1) (if onP p && p.st == 2 then withP s ((k + 1 : Nat) : Int) else s) l
def openC (l : List PRT) : Int := openN 0 0 l
theorem openN_at (l : List PRT) (i : Nat) (s : Int) (y : PRT) (hy : l[i]? = some y) : openN i s (l.drop i) = openN (i + 1) (if onP y && y.st == 2 then withP s ((i + 1 : Nat) : Int) else s) (l.drop (i + 1)) := by
  obtain ⟨h, rfl⟩ := List.getElem?_eq_some_iff.1 hy
  rw [List.drop_eq_getElem_cons h]; rfl
def IO (l : List PRT) (mm : Nat) (tm : TM) (H : Heap) : Prop := ∃ (i : Nat) (s : Int), mm = l.length - i ∧ i ≤ l.length ∧ openN i s (l.drop i) = openC l ∧ get tm 3 = .s (.raw (.int .u32 s)) ∧ get tm 6 = .s (.slice 0 0 l.length) ∧ get tm 7 = .s (.raw (.int .i64 (l.length : Int))) ∧ get tm 8 = .s (.raw (.int .i64 (i : Int))) ∧ H = [.rows false 21 (l.map prC)]
theorem openW (l : List PRT) (hn : l.length ≤ 1000000000) : FunR Tryd.prog 28 [.rows false 21 (l.map prC)] [.s (.slice 0 0 l.length)] (.s (.raw (.int .u32 (openC l)))) := by
  refine funR_of rfl fun X => ?_
  refine callK_inline (rs := [.tmp 2]) (n := 26) Tryd.func28 rfl rfl rfl (by kernel_rfl) (by kernel_rfl) (by simp only [List.length_cons, List.length_nil]; decide) ?_
  repeat' first
    | with_reducible rfl
    | simp only [List.length_map, RS_, argsTM, stepE, stBuiltin, stBox, stAlloc, stLoad, stStore, stField, stExtract, stBin, stUn, stConv, stNilCheck, stFieldV, stIndex, stIndexAddr, stLen, stMin, stMax, stBuild, fillI, stBuildSlice, setRows, stMakeSlice, stAppend, srcR, segR, rdCells, stSlice, bnd, stArr, stCopy, stConv2, isIntV, cutR, byteRows, rowByte, binStr, Option.map_some, Option.map_none, eq_self, canTL, canT, canH, canL, patL, gcH, gcT, gcI, get_gcT, mapC, pullS, pullI, pushS, push1, pushI, pushC, pullHW, roC, ix, List.map_map, Function.comp_def, List.zip_cons_cons, List.zip_nil_left, List.zip_nil_right, List.range'_zero, List.range'_succ, rd, get, put, IV.cells, ofValue, seg, spl, ldIV, binInt, eqI, cellsEq, leafEq, resI, flat, isT, upd, up1, nextM, cR, ptrC, nAl, isAl, ST_, Nat.reduceAdd, Nat.reduceMul, Nat.reduceEqDiff, Nat.reduceLeDiff, ne_eq, reduceCtorEq, reduceIte, forall_const, implies_true, Int.reduceToNat, Int.reduceLE, Int.reduceLT, bne, Int.reduceEq, Int.reduceNe, Int.reduceNeg, Int.reduceAdd, Int.reduceSub, Int.reduceMul, Int.reduceBEq, Int.reduceBNe, Nat.reduceLT, Nat.reduceSub, WLS, ty_ag_3, ty_ag_58, ty_of_58_9, ty_sl_36, ty_sz_3, ty_sz_58, ty_ze_58]
    | (with_reducible refine drawK_id ?_); refine drawK_auto hmix (by kernel_rfl) ?_
    | (with_reducible refine draw_fin ?_ ?_); · kernel_rfl
    | (with_reducible refine draw_id ?_); kernel_rfl
    | (with_reducible refine And.intro ?_ ?_; · omega)
  refine loopK_wk (by kernel_rfl) (IO l) l.length ⟨_, _, Wk.refl, 0, 0, by omega, by omega, rfl, rfl, rfl, rfl, rfl, rfl⟩ ?_
  rintro mm tm H ⟨i, s, rfl, hi, hs, g3, g6, g7, g8, rfl⟩
  by_cases hq : i < l.length
  · have q1 : decide ((i : Int) < (l.length : Int)) = true := decide_eq_true (by omega)
    have z0 : (0 : Int) ≤ (i : Int) := by omega
    have z1 : (i : Int) < (l.length : Int) := by omega
    have hi1 : IntKind.i64.wrap ((i : Int) + 1) = ((i + 1 : Nat) : Int) := by rw [wr_i64 (by omega) (by omega)]; rfl
    obtain ⟨y, hy⟩ : ∃ y, l[i]? = some y := ⟨_, List.getElem?_eq_getElem hq⟩
    have hel : (l.map prC)[i]? = some (prC y) := by rw [List.getElem?_map, hy]; rfl
    rw [openN_at l i s y hy] at hs
    have c9 := onW y
    cases e1 : onP y with
    | true =>
      rw [e1] at c9 hs
      cases e2 : (y.st == 2) with
      | true =>
        simp only [e2, Bool.and_self, if_true] at hs
        repeat' first
          | with_reducible rfl
          | simp only [q1, z0, z1, hi1, hel, g3, g6, g7, g8, List.length_map, Int.toNat_natCast, e2, prC, RS_, argsTM, stepE, stBuiltin, stBox, stAlloc, stLoad, stStore, stField, stExtract, stBin, stUn, stConv, stNilCheck, stFieldV, stIndex, stIndexAddr, stLen, stMin, stMax, stBuild, fillI, stBuildSlice, setRows, stMakeSlice, stAppend, srcR, segR, rdCells, stSlice, bnd, stArr, stCopy, stConv2, isIntV, cutR, byteRows, rowByte, binStr, Option.map_some, Option.map_none, eq_self, canTL, canT, canH, canL, patL, gcH, gcT, gcI, get_gcT, mapC, pullS, pullI, pushS, push1, pushI, pushC, pullHW, roC, ix, List.map_map, Function.comp_def, List.zip_cons_cons, List.zip_nil_left, List.zip_nil_right, List.range'_zero, List.range'_succ, rd, get, put, IV.cells, ofValue, seg, spl, ldIV, binInt, eqI, cellsEq, leafEq, resI, flat, isT, upd, up1, nextM, cR, ptrC, nAl, isAl, ST_, Nat.reduceAdd, Nat.reduceMul, Nat.reduceEqDiff, Nat.reduceLeDiff, ne_eq, reduceCtorEq, reduceIte, forall_const, implies_true, Int.reduceToNat, Int.reduceLE, Int.reduceLT, bne, Int.reduceEq, Int.reduceNe, Int.reduceNeg, Int.reduceAdd, Int.reduceSub, Int.reduceMul, Int.reduceBEq, Int.reduceBNe, Nat.reduceLT, Nat.reduceSub, WLS, ty_ag_3, ty_ag_58, ty_of_58_9, ty_sl_36, ty_sz_3, ty_sz_58, ty_ze_58]
          | (with_reducible refine drawK_id ?_); refine drawK_auto hmix (by kernel_rfl) ?_
          | (with_reducible refine draw_fin ?_ ?_); · kernel_rfl
          | (with_reducible refine draw_id ?_); kernel_rfl
          | ((with_reducible refine callK_id (f := 9) ?_); refine callK_fun c9 rfl rfl ?_)
          | ((with_reducible refine callK_id (f := 15) ?_); refine callK_fun (f52 _ _) rfl rfl ?_)
          | (with_reducible refine And.intro ?_ ?_; · omega)
        refine ⟨l.length - (i + 1), _, _, by omega, Wk.gc [0] rfl (by decide), i + 1, _, rfl, by omega, hs, ?_, ?_, ?_, ?_, ?_⟩ <;> first | with_reducible rfl | (simp [Function.comp_def, get_gcT, get, put, gcI, pullI, pullS, gcH, patL, canL, canH, canTL, canT, rows_pull, ix, g3, g6, g7, g8]; done) | (simp [Function.comp_def, get_gcT, get, put, gcI, pullI, pullS, gcH, patL, canL, canH, canTL, canT, rows_pull, ix, rows_pull, prC_pull]; done) | (simp [Function.comp_def, get_gcT, get, put, gcI, pullI, pullS, gcH, patL, canL, canH, canTL, canT, rows_pull, ix, rows_pull, prC_pull]; rfl)
      | false =>
        simp only [e2, Bool.and_false, Bool.false_eq_true, if_false] at hs
        repeat' first
          | with_reducible rfl
          | simp only [q1, z0, z1, hi1, hel, g3, g6, g7, g8, List.length_map, Int.toNat_natCast, e2, prC, RS_, argsTM, stepE, stBuiltin, stBox, stAlloc, stLoad, stStore, stField, stExtract, stBin, stUn, stConv, stNilCheck, stFieldV, stIndex, stIndexAddr, stLen, stMin, stMax, stBuild, fillI, stBuildSlice, setRows, stMakeSlice, stAppend, srcR, segR, rdCells, stSlice, bnd, stArr, stCopy, stConv2, isIntV, cutR, byteRows, rowByte, binStr, Option.map_some, Option.map_none, eq_self, canTL, canT, canH, canL, patL, gcH, gcT, gcI, get_gcT, mapC, pullS, pullI, pushS, push1, pushI, pushC, pullHW, roC, ix, List.map_map, Function.comp_def, List.zip_cons_cons, List.zip_nil_left, List.zip_nil_right, List.range'_zero, List.range'_succ, rd, get, put, IV.cells, ofValue, seg, spl, ldIV, binInt, eqI, cellsEq, leafEq, resI, flat, isT, upd, up1, nextM, cR, ptrC, nAl, isAl, ST_, Nat.reduceAdd, Nat.reduceMul, Nat.reduceEqDiff, Nat.reduceLeDiff, ne_eq, reduceCtorEq, reduceIte, forall_const, implies_true, Int.reduceToNat, Int.reduceLE, Int.reduceLT, bne, Int.reduceEq, Int.reduceNe, Int.reduceNeg, Int.reduceAdd, Int.reduceSub, Int.reduceMul, Int.reduceBEq, Int.reduceBNe, Nat.reduceLT, Nat.reduceSub, WLS, ty_ag_3, ty_ag_58, ty_of_58_9, ty_sl_36, ty_sz_3, ty_sz_58, ty_ze_58]
          | (with_reducible refine drawK_id ?_); refine drawK_auto hmix (by kernel_rfl) ?_
          | (with_reducible refine draw_fin ?_ ?_); · kernel_rfl
          | (with_reducible refine draw_id ?_); kernel_rfl
          | ((with_reducible refine callK_id (f := 9) ?_); refine callK_fun c9 rfl rfl ?_)
          | ((with_reducible refine callK_id (f := 15) ?_); refine callK_fun (f52 _ _) rfl rfl ?_)
          | (with_reducible refine And.intro ?_ ?_; · omega)
        refine ⟨l.length - (i + 1), _, _, by omega, Wk.gc [0] rfl (by decide), i + 1, _, rfl, by omega, hs, ?_, ?_, ?_, ?_, ?_⟩ <;> first | with_reducible rfl | (simp [Function.comp_def, get_gcT, get, put, gcI, pullI, pullS, gcH, patL, canL, canH, canTL, canT, rows_pull, ix, g3, g6, g7, g8]; done) | (simp [Function.comp_def, get_gcT, get, put, gcI, pullI, pullS, gcH, patL, canL, canH, canTL, canT, rows_pull, ix, rows_pull, prC_pull]; done) | (simp [Function.comp_def, get_gcT, get, put, gcI, pullI, pullS, gcH, patL, canL, canH, canTL, canT, rows_pull, ix, rows_pull, prC_pull]; rfl)
    | false =>
      rw [e1] at c9 hs
      simp only [Bool.false_and, Bool.false_eq_true, if_false] at hs
      repeat' first
        | with_reducible rfl
        | simp only [q1, z0, z1, hi1, hel, g3, g6, g7, g8, List.length_map, Int.toNat_natCast, prC, RS_, argsTM, stepE, stBuiltin, stBox, stAlloc, stLoad, stStore, stField, stExtract, stBin, stUn, stConv, stNilCheck, stFieldV, stIndex, stIndexAddr, stLen, stMin, stMax, stBuild, fillI, stBuildSlice, setRows, stMakeSlice, stAppend, srcR, segR, rdCells, stSlice, bnd, stArr, stCopy, stConv2, isIntV, cutR, byteRows, rowByte, binStr, Option.map_some, Option.map_none, eq_self, canTL, canT, canH, canL, patL, gcH, gcT, gcI, get_gcT, mapC, pullS, pullI, pushS, push1, pushI, pushC, pullHW, roC, ix, List.map_map, Function.comp_def, List.zip_cons_cons, List.zip_nil_left, List.zip_nil_right, List.range'_zero, List.range'_succ, rd, get, put, IV.cells, ofValue, seg, spl, ldIV, binInt, eqI, cellsEq, leafEq, resI, flat, isT, upd, up1, nextM, cR, ptrC, nAl, isAl, ST_, Nat.reduceAdd, Nat.reduceMul, Nat.reduceEqDiff, Nat.reduceLeDiff, ne_eq, reduceCtorEq, reduceIte, forall_const, implies_true, Int.reduceToNat, Int.reduceLE, Int.reduceLT, bne, Int.reduceEq, Int.reduceNe, Int.reduceNeg, Int.reduceAdd, Int.reduceSub, Int.reduceMul, Int.reduceBEq, Int.reduceBNe, Nat.reduceLT, Nat.reduceSub, WLS, ty_ag_3, ty_ag_58, ty_of_58_9, ty_sl_36, ty_sz_3, ty_sz_58, ty_ze_58]
        | (with_reducible refine drawK_id ?_); refine drawK_auto hmix (by kernel_rfl) ?_
        | (with_reducible refine draw_fin ?_ ?_); · kernel_rfl
        | (with_reducible refine draw_id ?_); kernel_rfl
        | ((with_reducible refine callK_id (f := 9) ?_); refine callK_fun c9 rfl rfl ?_)
        | ((with_reducible refine callK_id (f := 15) ?_); refine callK_fun (f52 _ _) rfl rfl ?_)
        | (with_reducible refine And.intro ?_ ?_; · omega)
      refine ⟨l.length - (i + 1), _, _, by omega, Wk.gc [0] rfl (by decide), i + 1, _, rfl, by omega, hs, ?_, ?_, ?_, ?_, ?_⟩ <;> first | with_reducible rfl | (simp [Function.comp_def, get_gcT, get, put, gcI, pullI, pullS, gcH, patL, canL, canH, canTL, canT, rows_pull, ix, g3, g6, g7, g8]; done) | (simp [Function.comp_def, get_gcT, get, put, gcI, pullI, pullS, gcH, patL, canL, canH, canTL, canT, rows_pull, ix, rows_pull, prC_pull]; done) | (simp [Function.comp_def, get_gcT, get, put, gcI, pullI, pullS, gcH, patL, canL, canH, canTL, canT, rows_pull, ix, rows_pull, prC_pull]; rfl)
  · have q1 : decide ((i : Int) < (l.length : Int)) = false := decide_eq_false (by omega)
    have hil : i = l.length := by omega
    subst hil
    have hs2 : s = openC l := by rw [← hs, List.drop_length]; rfl
    rw [hs2] at g3
    repeat' first
      | with_reducible rfl
      | simp only [q1, g3, g6, g7, g8, List.length_map, RS_, argsTM, stepE, stBuiltin, stBox, stAlloc, stLoad, stStore, stField, stExtract, stBin, stUn, stConv, stNilCheck, stFieldV, stIndex, stIndexAddr, stLen, stMin, stMax, stBuild, fillI, stBuildSlice, setRows, stMakeSlice, stAppend, srcR, segR, rdCells, stSlice, bnd, stArr, stCopy, stConv2, isIntV, cutR, byteRows, rowByte, binStr, Option.map_some, Option.map_none, eq_self, canTL, canT, canH, canL, patL, gcH, gcT, gcI, get_gcT, mapC, pullS, pullI, pushS, push1, pushI, pushC, pullHW, roC, ix, List.map_map, Function.comp_def, List.zip_cons_cons, List.zip_nil_left, List.zip_nil_right, List.range'_zero, List.range'_succ, rd, get, put, IV.cells, ofValue, seg, spl, ldIV, binInt, eqI, cellsEq, leafEq, resI, flat, isT, upd, up1, nextM, cR, ptrC, nAl, isAl, ST_, Nat.reduceAdd, Nat.reduceMul, Nat.reduceEqDiff, Nat.reduceLeDiff, ne_eq, reduceCtorEq, reduceIte, forall_const, implies_true, Int.reduceToNat, Int.reduceLE, Int.reduceLT, bne, Int.reduceEq, Int.reduceNe, Int.reduceNeg, Int.reduceAdd, Int.reduceSub, Int.reduceMul, Int.reduceBEq, Int.reduceBNe, Nat.reduceLT, Nat.reduceSub, WLS, ty_ag_3, ty_ag_58, ty_of_58_9, ty_sl_36, ty_sz_3, ty_sz_58, ty_ze_58]
      | (with_reducible refine drawK_id ?_); refine drawK_auto hmix (by kernel_rfl) ?_
      | (with_reducible refine draw_fin ?_ ?_); · kernel_rfl
      | (with_reducible refine draw_id ?_); kernel_rfl
      | ((with_reducible refine callK_id (f := 9) ?_); refine callK_fun c9 rfl rfl ?_)
      | ((with_reducible refine callK_id (f := 15) ?_); refine callK_fun (f52 _ _) rfl rfl ?_)
      | (with_reducible refine And.intro ?_ ?_; · omega)
end Go.Ev
