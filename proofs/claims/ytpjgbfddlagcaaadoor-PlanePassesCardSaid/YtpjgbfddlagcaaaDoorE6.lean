/- A part of the proof: contracts of the functions that the statement reaches. -/
import Derived.Test.YtpjgbfddlagcaaaDoorEvC
import Derived.Test.YtpjgbfddlagcaaaDoorE5
namespace Go.Ev
open Go.Proofs
set_option maxRecDepth 100000
set_option linter.unusedSimpArgs false
set_option linter.unusedVariables false
set_option maxHeartbeats 4000000
open Srt
theorem le_idE {a b : Int} (h : a ≤ b) : a ≤ b := h
def mB (m : M6) : ByteArray := ⟨#[UInt8.ofNat m.m0.toNat, UInt8.ofNat m.m1.toNat, UInt8.ofNat m.m2.toNat, UInt8.ofNat m.m3.toNat, UInt8.ofNat m.m4.toNat, UInt8.ofNat m.m5.toNat]⟩
theorem mB_f (m : M6) : (⟨#[UInt8.ofNat m.m0.toNat, UInt8.ofNat m.m1.toNat, UInt8.ofNat m.m2.toNat, UInt8.ofNat m.m3.toNat, UInt8.ofNat m.m4.toNat, UInt8.ofNat m.m5.toNat]⟩ : ByteArray) = mB m := rfl
theorem mB_size (m : M6) : (mB m).size = 6 := rfl
def encH (f : FRM) : ByteArray := (if f.t then mB f.d ++ mB f.s ++ (b2 33024 ++ b2 (infoF f)) else mB f.d ++ mB f.s) ++ b2 (IntKind.u64.wrap f.y)
theorem encH_size (f : FRM) : (encH f).size = if f.t then 18 else 14 := by
  unfold encH
  cases f.t <;> simp [ByteArray.size_append, mB_size, b2_size]
def eErr (f : FRM) : Int := if goodF f then (if 1518 - ((encH f).size : Int) < (f.x.size : Int) then 3 else 0) else 16
def eStr (f : FRM) : ByteArray := if eErr f = 0 then encH f ++ f.x else ⟨#[]⟩
theorem encW (f : FRM) (hx : f.x.size ≤ 100000) : Fun Tryd.prog 37 [.a (frC f)] (.t [.s (.raw (.string (eStr f))), .s (.raw (.int .i64 (eErr f)))]) := by
  refine fun_of rfl fun X => ?_
  have cg := goodW f
  have ci := infoW f
  have hsz := encH_size f
  refine callK_inline (rs := [.tmp 2, .tmp 3]) (n := 41) Tryd.func37 rfl rfl rfl (by kernel_rfl) (by kernel_rfl) (by simp only [List.length_cons, List.length_nil]; decide) ?_
  cases hg : goodF f with
  | false =>
    have he : eErr f = 16 := by simp [eErr, hg]
    have hs : eStr f = ⟨#[]⟩ := by simp [eStr, he]
    rw [hs, he]
    rw [hg] at cg
    repeat' first
      | with_reducible rfl
      | simp only [frC, RS_, argsTM, stepE, stBuiltin, stBox, stAlloc, stLoad, stStore, stField, stExtract, stBin, stUn, stConv, stNilCheck, stFieldV, stIndex, stIndexAddr, stLen, stMin, stMax, stBuild, fillI, stBuildSlice, setRows, stMakeSlice, stAppend, srcR, segR, rdCells, stSlice, bnd, stArr, stCopy, stConv2, isIntV, cutR, byteRows, rowByte, binStr, Option.map_some, Option.map_none, eq_self, canTL, canT, canH, canL, patL, gcH, gcT, gcI, get_gcT, mapC, pullS, pullI, pushS, push1, pushI, pushC, pullHW, roC, ix, List.map_map, Function.comp_def, List.zip_cons_cons, List.zip_nil_left, List.zip_nil_right, List.range'_zero, List.range'_succ, rd, get, put, IV.cells, ofValue, seg, spl, ldIV, binInt, eqI, cellsEq, leafEq, resI, flat, isT, upd, up1, nextM, cR, ptrC, nAl, isAl, ST_, Nat.reduceAdd, Nat.reduceMul, Nat.reduceEqDiff, Nat.reduceLeDiff, ne_eq, reduceCtorEq, reduceIte, forall_const, implies_true, Int.reduceToNat, Int.reduceLE, Int.reduceLT, bne, Int.reduceEq, Int.reduceNe, Int.reduceNeg, Int.reduceAdd, Int.reduceSub, Int.reduceMul, Int.reduceBEq, Int.reduceBNe, Nat.reduceLT, Nat.reduceSub, WLS, Tryd.underlying23, Tryd.underlying53, ty_ag_23, ty_ag_4, ty_ag_42, ty_ag_9, ty_ar_40, ty_ib_96, ty_of_42_0, ty_of_42_1, ty_of_42_2, ty_of_42_6, ty_of_42_7, ty_st_9, ty_sz_23, ty_sz_4, ty_sz_42, ty_sz_9]
      | (with_reducible refine drawK_id ?_); refine drawK_auto hmix (by kernel_rfl) ?_
      | (with_reducible refine draw_fin ?_ ?_); · kernel_rfl
      | (with_reducible refine draw_id ?_); kernel_rfl
      | ((with_reducible refine callK_id (f := 49) ?_); refine callK_fun cg rfl rfl ?_)
      | (with_reducible refine And.intro ?_ ?_; · omega)
  | true =>
    rw [hg] at cg
    obtain ⟨d, s, t, p, e, v, y, x⟩ := f
    have ss : (mB d ++ mB s).size = 12 := by simp [ByteArray.size_append, mB_size]
    cases t with
    | true =>
      have hH : encH ⟨d, s, true, p, e, v, y, x⟩ = mB d ++ mB s ++ (b2 33024 ++ b2 (infoF ⟨d, s, true, p, e, v, y, x⟩)) ++ b2 (IntKind.u64.wrap y) := rfl
      generalize infoF ⟨d, s, true, p, e, v, y, x⟩ = nf at *
      have hz : (mB d ++ mB s ++ (b2 33024 ++ b2 nf) ++ b2 (IntKind.u64.wrap y)).size = 18 := by simp [ByteArray.size_append, mB_size, b2_size]
      rw [← hH] at hz
      have hw : IntKind.i64.wrap 1500 = 1500 := rfl
      have hx2 : x.size ≤ 100000 := hx
      by_cases hl : 1518 - ((18 : Nat) : Int) < (x.size : Int)
      · have hl2 : decide (1500 < (x.size : Int)) = true := decide_eq_true hl
        have he : eErr ⟨d, s, true, p, e, v, y, x⟩ = 3 := by simp only [eErr, hg, if_true, hz]; rw [if_pos hl]
        have hs : eStr ⟨d, s, true, p, e, v, y, x⟩ = ⟨#[]⟩ := by simp [eStr, he]
        rw [hs, he]
        rw [hH] at hz
        repeat' first
          | with_reducible rfl
          | simp only [frC, mB_f, hz, hw, hl2, RS_, argsTM, stepE, stBuiltin, stBox, stAlloc, stLoad, stStore, stField, stExtract, stBin, stUn, stConv, stNilCheck, stFieldV, stIndex, stIndexAddr, stLen, stMin, stMax, stBuild, fillI, stBuildSlice, setRows, stMakeSlice, stAppend, srcR, segR, rdCells, stSlice, bnd, stArr, stCopy, stConv2, isIntV, cutR, byteRows, rowByte, binStr, Option.map_some, Option.map_none, eq_self, canTL, canT, canH, canL, patL, gcH, gcT, gcI, get_gcT, mapC, pullS, pullI, pushS, push1, pushI, pushC, pullHW, roC, ix, List.map_map, Function.comp_def, List.zip_cons_cons, List.zip_nil_left, List.zip_nil_right, List.range'_zero, List.range'_succ, rd, get, put, IV.cells, ofValue, seg, spl, ldIV, binInt, eqI, cellsEq, leafEq, resI, flat, isT, upd, up1, nextM, cR, ptrC, nAl, isAl, ST_, Nat.reduceAdd, Nat.reduceMul, Nat.reduceEqDiff, Nat.reduceLeDiff, ne_eq, reduceCtorEq, reduceIte, forall_const, implies_true, Int.reduceToNat, Int.reduceLE, Int.reduceLT, bne, Int.reduceEq, Int.reduceNe, Int.reduceNeg, Int.reduceAdd, Int.reduceSub, Int.reduceMul, Int.reduceBEq, Int.reduceBNe, Nat.reduceLT, Nat.reduceSub, WLS, Tryd.underlying23, Tryd.underlying53, ty_ag_23, ty_ag_4, ty_ag_42, ty_ag_9, ty_ar_40, ty_ib_96, ty_of_42_0, ty_of_42_1, ty_of_42_2, ty_of_42_6, ty_of_42_7, ty_st_9, ty_sz_23, ty_sz_4, ty_sz_42, ty_sz_9]
          | (with_reducible refine drawK_id ?_); refine drawK_auto hmix (by kernel_rfl) ?_
          | (with_reducible refine draw_fin ?_ ?_); · kernel_rfl
          | (with_reducible refine draw_id ?_); kernel_rfl
          | (with_reducible refine callD_id (f := 41) ?_); refine callD_of (bytes2 _) rfl rfl ?_
          | (with_reducible refine callK_id (f := 41) ?_); refine callK_fun (bytes2 _) rfl rfl ?_
          | ((with_reducible refine callK_id (f := 49) ?_); refine callK_fun cg rfl rfl ?_)
          | ((with_reducible refine callD_id (f := 50) ?_); refine callD_of ci rfl rfl ?_)
          | (with_reducible refine And.intro ?_ ?_; · (simp only [ByteArray.size_append, mB_size, b2_size]; omega))
          | (with_reducible refine le_idE ?_; simp only [ByteArray.size_append, mB_size, b2_size]; omega)
          | (with_reducible refine le_idE ?_; clear hsz hg cg ci; omega)
          | (with_reducible refine And.intro ?_ ?_; · omega)
      · have hl2 : decide (1500 < (x.size : Int)) = false := decide_eq_false hl
        have he : eErr ⟨d, s, true, p, e, v, y, x⟩ = 0 := by simp only [eErr, hg, if_true, hz]; rw [if_neg hl]
        have hs : eStr ⟨d, s, true, p, e, v, y, x⟩ = encH ⟨d, s, true, p, e, v, y, x⟩ ++ x := by simp [eStr, he]
        rw [hs, he, hH]
        rw [hH] at hz
        repeat' first
          | with_reducible rfl
          | simp only [frC, mB_f, hz, hw, hl2, RS_, argsTM, stepE, stBuiltin, stBox, stAlloc, stLoad, stStore, stField, stExtract, stBin, stUn, stConv, stNilCheck, stFieldV, stIndex, stIndexAddr, stLen, stMin, stMax, stBuild, fillI, stBuildSlice, setRows, stMakeSlice, stAppend, srcR, segR, rdCells, stSlice, bnd, stArr, stCopy, stConv2, isIntV, cutR, byteRows, rowByte, binStr, Option.map_some, Option.map_none, eq_self, canTL, canT, canH, canL, patL, gcH, gcT, gcI, get_gcT, mapC, pullS, pullI, pushS, push1, pushI, pushC, pullHW, roC, ix, List.map_map, Function.comp_def, List.zip_cons_cons, List.zip_nil_left, List.zip_nil_right, List.range'_zero, List.range'_succ, rd, get, put, IV.cells, ofValue, seg, spl, ldIV, binInt, eqI, cellsEq, leafEq, resI, flat, isT, upd, up1, nextM, cR, ptrC, nAl, isAl, ST_, Nat.reduceAdd, Nat.reduceMul, Nat.reduceEqDiff, Nat.reduceLeDiff, ne_eq, reduceCtorEq, reduceIte, forall_const, implies_true, Int.reduceToNat, Int.reduceLE, Int.reduceLT, bne, Int.reduceEq, Int.reduceNe, Int.reduceNeg, Int.reduceAdd, Int.reduceSub, Int.reduceMul, Int.reduceBEq, Int.reduceBNe, Nat.reduceLT, Nat.reduceSub, WLS, Tryd.underlying23, Tryd.underlying53, ty_ag_23, ty_ag_4, ty_ag_42, ty_ag_9, ty_ar_40, ty_ib_96, ty_of_42_0, ty_of_42_1, ty_of_42_2, ty_of_42_6, ty_of_42_7, ty_st_9, ty_sz_23, ty_sz_4, ty_sz_42, ty_sz_9]
          | (with_reducible refine drawK_id ?_); refine drawK_auto hmix (by kernel_rfl) ?_
          | (with_reducible refine draw_fin ?_ ?_); · kernel_rfl
          | (with_reducible refine draw_id ?_); kernel_rfl
          | (with_reducible refine callD_id (f := 41) ?_); refine callD_of (bytes2 _) rfl rfl ?_
          | (with_reducible refine callK_id (f := 41) ?_); refine callK_fun (bytes2 _) rfl rfl ?_
          | ((with_reducible refine callK_id (f := 49) ?_); refine callK_fun cg rfl rfl ?_)
          | ((with_reducible refine callD_id (f := 50) ?_); refine callD_of ci rfl rfl ?_)
          | (with_reducible refine And.intro ?_ ?_; · (simp only [ByteArray.size_append, mB_size, b2_size]; omega))
          | (with_reducible refine le_idE ?_; simp only [ByteArray.size_append, mB_size, b2_size]; omega)
          | (with_reducible refine le_idE ?_; clear hsz hg cg ci; omega)
          | (with_reducible refine And.intro ?_ ?_; · omega)
    | false =>
      have hH : encH ⟨d, s, false, p, e, v, y, x⟩ = mB d ++ mB s ++ b2 (IntKind.u64.wrap y) := rfl
      have hz : (mB d ++ mB s ++ b2 (IntKind.u64.wrap y)).size = 14 := by simp [ByteArray.size_append, mB_size, b2_size]
      rw [← hH] at hz
      have hw : IntKind.i64.wrap 1504 = 1504 := rfl
      have hx2 : x.size ≤ 100000 := hx
      by_cases hl : 1518 - ((14 : Nat) : Int) < (x.size : Int)
      · have hl2 : decide (1504 < (x.size : Int)) = true := decide_eq_true hl
        have he : eErr ⟨d, s, false, p, e, v, y, x⟩ = 3 := by simp only [eErr, hg, if_true, hz]; rw [if_pos hl]
        have hs : eStr ⟨d, s, false, p, e, v, y, x⟩ = ⟨#[]⟩ := by simp [eStr, he]
        rw [hs, he]
        rw [hH] at hz
        repeat' first
          | with_reducible rfl
          | simp only [frC, mB_f, hz, hw, hl2, RS_, argsTM, stepE, stBuiltin, stBox, stAlloc, stLoad, stStore, stField, stExtract, stBin, stUn, stConv, stNilCheck, stFieldV, stIndex, stIndexAddr, stLen, stMin, stMax, stBuild, fillI, stBuildSlice, setRows, stMakeSlice, stAppend, srcR, segR, rdCells, stSlice, bnd, stArr, stCopy, stConv2, isIntV, cutR, byteRows, rowByte, binStr, Option.map_some, Option.map_none, eq_self, canTL, canT, canH, canL, patL, gcH, gcT, gcI, get_gcT, mapC, pullS, pullI, pushS, push1, pushI, pushC, pullHW, roC, ix, List.map_map, Function.comp_def, List.zip_cons_cons, List.zip_nil_left, List.zip_nil_right, List.range'_zero, List.range'_succ, rd, get, put, IV.cells, ofValue, seg, spl, ldIV, binInt, eqI, cellsEq, leafEq, resI, flat, isT, upd, up1, nextM, cR, ptrC, nAl, isAl, ST_, Nat.reduceAdd, Nat.reduceMul, Nat.reduceEqDiff, Nat.reduceLeDiff, ne_eq, reduceCtorEq, reduceIte, forall_const, implies_true, Int.reduceToNat, Int.reduceLE, Int.reduceLT, bne, Int.reduceEq, Int.reduceNe, Int.reduceNeg, Int.reduceAdd, Int.reduceSub, Int.reduceMul, Int.reduceBEq, Int.reduceBNe, Nat.reduceLT, Nat.reduceSub, WLS, Tryd.underlying23, Tryd.underlying53, ty_ag_23, ty_ag_4, ty_ag_42, ty_ag_9, ty_ar_40, ty_ib_96, ty_of_42_0, ty_of_42_1, ty_of_42_2, ty_of_42_6, ty_of_42_7, ty_st_9, ty_sz_23, ty_sz_4, ty_sz_42, ty_sz_9]
          | (with_reducible refine drawK_id ?_); refine drawK_auto hmix (by kernel_rfl) ?_
          | (with_reducible refine draw_fin ?_ ?_); · kernel_rfl
          | (with_reducible refine draw_id ?_); kernel_rfl
          | (with_reducible refine callD_id (f := 41) ?_); refine callD_of (bytes2 _) rfl rfl ?_
          | (with_reducible refine callK_id (f := 41) ?_); refine callK_fun (bytes2 _) rfl rfl ?_
          | ((with_reducible refine callK_id (f := 49) ?_); refine callK_fun cg rfl rfl ?_)
          | ((with_reducible refine callD_id (f := 50) ?_); refine callD_of ci rfl rfl ?_)
          | (with_reducible refine And.intro ?_ ?_; · (simp only [ByteArray.size_append, mB_size, b2_size]; omega))
          | (with_reducible refine le_idE ?_; simp only [ByteArray.size_append, mB_size, b2_size]; omega)
          | (with_reducible refine le_idE ?_; clear hsz hg cg ci; omega)
          | (with_reducible refine And.intro ?_ ?_; · omega)
      · have hl2 : decide (1504 < (x.size : Int)) = false := decide_eq_false hl
        have he : eErr ⟨d, s, false, p, e, v, y, x⟩ = 0 := by simp only [eErr, hg, if_true, hz]; rw [if_neg hl]
        have hs : eStr ⟨d, s, false, p, e, v, y, x⟩ = encH ⟨d, s, false, p, e, v, y, x⟩ ++ x := by simp [eStr, he]
        rw [hs, he, hH]
        rw [hH] at hz
        repeat' first
          | with_reducible rfl
          | simp only [frC, mB_f, hz, hw, hl2, RS_, argsTM, stepE, stBuiltin, stBox, stAlloc, stLoad, stStore, stField, stExtract, stBin, stUn, stConv, stNilCheck, stFieldV, stIndex, stIndexAddr, stLen, stMin, stMax, stBuild, fillI, stBuildSlice, setRows, stMakeSlice, stAppend, srcR, segR, rdCells, stSlice, bnd, stArr, stCopy, stConv2, isIntV, cutR, byteRows, rowByte, binStr, Option.map_some, Option.map_none, eq_self, canTL, canT, canH, canL, patL, gcH, gcT, gcI, get_gcT, mapC, pullS, pullI, pushS, push1, pushI, pushC, pullHW, roC, ix, List.map_map, Function.comp_def, List.zip_cons_cons, List.zip_nil_left, List.zip_nil_right, List.range'_zero, List.range'_succ, rd, get, put, IV.cells, ofValue, seg, spl, ldIV, binInt, eqI, cellsEq, leafEq, resI, flat, isT, upd, up1, nextM, cR, ptrC, nAl, isAl, ST_, Nat.reduceAdd, Nat.reduceMul, Nat.reduceEqDiff, Nat.reduceLeDiff, ne_eq, reduceCtorEq, reduceIte, forall_const, implies_true, Int.reduceToNat, Int.reduceLE, Int.reduceLT, bne, Int.reduceEq, Int.reduceNe, Int.reduceNeg, Int.reduceAdd, Int.reduceSub, Int.reduceMul, Int.reduceBEq, Int.reduceBNe, Nat.reduceLT, Nat.reduceSub, WLS, Tryd.underlying23, Tryd.underlying53, ty_ag_23, ty_ag_4, ty_ag_42, ty_ag_9, ty_ar_40, ty_ib_96, ty_of_42_0, ty_of_42_1, ty_of_42_2, ty_of_42_6, ty_of_42_7, ty_st_9, ty_sz_23, ty_sz_4, ty_sz_42, ty_sz_9]
          | (with_reducible refine drawK_id ?_); refine drawK_auto hmix (by kernel_rfl) ?_
          | (with_reducible refine draw_fin ?_ ?_); · kernel_rfl
          | (with_reducible refine draw_id ?_); kernel_rfl
          | (with_reducible refine callD_id (f := 41) ?_); refine callD_of (bytes2 _) rfl rfl ?_
          | (with_reducible refine callK_id (f := 41) ?_); refine callK_fun (bytes2 _) rfl rfl ?_
          | ((with_reducible refine callK_id (f := 49) ?_); refine callK_fun cg rfl rfl ?_)
          | ((with_reducible refine callD_id (f := 50) ?_); refine callD_of ci rfl rfl ?_)
          | (with_reducible refine And.intro ?_ ?_; · (simp only [ByteArray.size_append, mB_size, b2_size]; omega))
          | (with_reducible refine le_idE ?_; simp only [ByteArray.size_append, mB_size, b2_size]; omega)
          | (with_reducible refine le_idE ?_; clear hsz hg cg ci; omega)
          | (with_reducible refine And.intro ?_ ?_; · omega)
end Go.Ev
