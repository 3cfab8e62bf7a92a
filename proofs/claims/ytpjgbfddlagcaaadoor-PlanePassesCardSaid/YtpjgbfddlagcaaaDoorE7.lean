/- A part of the proof: contracts of the functions that the statement reaches. -/
import Derived.Test.YtpjgbfddlagcaaaDoorEvC
import Derived.Test.YtpjgbfddlagcaaaDoorE6
namespace Go.Ev
open Go.Proofs
set_option maxRecDepth 100000
set_option linter.unusedSimpArgs false
set_option linter.unusedVariables false
set_option maxHeartbeats 4000000
open Srt
def formF (f : FRM) (v u p : Int) : FRM := if hasP u p then ⟨f.d, f.s, false, 0, false, 0, f.y, f.x⟩ else ⟨f.d, f.s, true, f.p, f.e, v, f.y, f.x⟩
def zF : FRM := ⟨⟨0, 0, 0, 0, 0, 0⟩, ⟨0, 0, 0, 0, 0, 0⟩, false, 0, false, 0, 0, ⟨#[]⟩⟩
def formR (f : FRM) (v u p : Int) : FRM × Bool := if eErr (formF f v u p) = 0 then (formF f v u p, true) else (zF, false)
theorem formW (f : FRM) (hx : f.x.size ≤ 100000) (v m u p : Int) : Fun Tryd.prog 18 [.a (frC f), .a [.raw (.int .u16 v), .raw (.int .u32 m), .raw (.int .u32 u)], .s (.raw (.int .i64 p))] (.t [.a (frC (formR f v u p).1), .s (.raw (.bool (formR f v u p).2))]) := by
  refine fun_of rfl fun X => ?_
  have ch := has u p
  refine callK_inline (rs := [.cell 6 42, .tmp 7]) (n := 31) Tryd.func18 rfl rfl rfl (by kernel_rfl) (by kernel_rfl) (by simp only [List.length_cons, List.length_nil]; decide) ?_
  cases hh : hasP u p with
  | true =>
    have hf : formF f v u p = ⟨f.d, f.s, false, 0, false, 0, f.y, f.x⟩ := by simp [formF, hh]
    rw [hh] at ch
    have ce := encW (formF f v u p) (by rw [hf]; exact hx)
    by_cases he : eErr (formF f v u p) = 0
    · have hr : formR f v u p = (formF f v u p, true) := by simp [formR, he]
      rw [hr]
      rw [he] at ce
      generalize eStr (formF f v u p) = st at ce
      rw [hf] at ce ⊢
      repeat' first
        | with_reducible rfl
        | simp only [frC, RS_, argsTM, stepE, stBuiltin, stBox, stAlloc, stLoad, stStore, stField, stExtract, stBin, stUn, stConv, stNilCheck, stFieldV, stIndex, stIndexAddr, stLen, stMin, stMax, stBuild, fillI, stBuildSlice, setRows, stMakeSlice, stAppend, srcR, segR, rdCells, stSlice, bnd, stArr, stCopy, stConv2, isIntV, cutR, byteRows, rowByte, binStr, Option.map_some, Option.map_none, eq_self, canTL, canT, canH, canL, patL, gcH, gcT, gcI, get_gcT, mapC, pullS, pullI, pushS, push1, pushI, pushC, pullHW, roC, ix, List.map_map, Function.comp_def, List.zip_cons_cons, List.zip_nil_left, List.zip_nil_right, List.range'_zero, List.range'_succ, rd, get, put, IV.cells, ofValue, seg, spl, ldIV, binInt, eqI, cellsEq, leafEq, resI, flat, isT, upd, up1, nextM, cR, ptrC, nAl, isAl, ST_, Nat.reduceAdd, Nat.reduceMul, Nat.reduceEqDiff, Nat.reduceLeDiff, ne_eq, reduceCtorEq, reduceIte, forall_const, implies_true, Int.reduceToNat, Int.reduceLE, Int.reduceLT, bne, Int.reduceEq, Int.reduceNe, Int.reduceNeg, Int.reduceAdd, Int.reduceSub, Int.reduceMul, Int.reduceBEq, Int.reduceBNe, Nat.reduceLT, Nat.reduceSub, WLS, ty_ag_23, ty_ag_70, ty_ag_42, ty_of_73_0, ty_of_73_2, ty_of_42_2, ty_of_42_3, ty_of_42_4, ty_of_42_5, ty_ok_42, ty_sz_23, ty_sz_70, ty_sz_4, ty_sz_5, ty_sz_42, ty_ze_42]
        | (with_reducible refine drawK_id ?_); refine drawK_auto hmix (by kernel_rfl) ?_
        | (with_reducible refine draw_fin ?_ ?_); · kernel_rfl
        | (with_reducible refine draw_id ?_); kernel_rfl
        | ((with_reducible refine callK_id (f := 19) ?_); refine callK_fun ch rfl rfl ?_)
        | ((with_reducible refine callK_id (f := 37) ?_); refine callK_fun ce rfl rfl ?_)
        | (with_reducible refine And.intro ?_ ?_; · omega)
    · have hr : formR f v u p = (zF, false) := by simp [formR, he]
      have he2 : (eErr (formF f v u p) == 0) = false := by simpa using he
      rw [hr]
      generalize eErr (formF f v u p) = er at ce he2
      generalize eStr (formF f v u p) = st at ce
      rw [hf] at ce
      unfold zF
      repeat' first
        | with_reducible rfl
        | simp only [frC, he2, RS_, argsTM, stepE, stBuiltin, stBox, stAlloc, stLoad, stStore, stField, stExtract, stBin, stUn, stConv, stNilCheck, stFieldV, stIndex, stIndexAddr, stLen, stMin, stMax, stBuild, fillI, stBuildSlice, setRows, stMakeSlice, stAppend, srcR, segR, rdCells, stSlice, bnd, stArr, stCopy, stConv2, isIntV, cutR, byteRows, rowByte, binStr, Option.map_some, Option.map_none, eq_self, canTL, canT, canH, canL, patL, gcH, gcT, gcI, get_gcT, mapC, pullS, pullI, pushS, push1, pushI, pushC, pullHW, roC, ix, List.map_map, Function.comp_def, List.zip_cons_cons, List.zip_nil_left, List.zip_nil_right, List.range'_zero, List.range'_succ, rd, get, put, IV.cells, ofValue, seg, spl, ldIV, binInt, eqI, cellsEq, leafEq, resI, flat, isT, upd, up1, nextM, cR, ptrC, nAl, isAl, ST_, Nat.reduceAdd, Nat.reduceMul, Nat.reduceEqDiff, Nat.reduceLeDiff, ne_eq, reduceCtorEq, reduceIte, forall_const, implies_true, Int.reduceToNat, Int.reduceLE, Int.reduceLT, bne, Int.reduceEq, Int.reduceNe, Int.reduceNeg, Int.reduceAdd, Int.reduceSub, Int.reduceMul, Int.reduceBEq, Int.reduceBNe, Nat.reduceLT, Nat.reduceSub, WLS, ty_ag_23, ty_ag_70, ty_ag_42, ty_of_73_0, ty_of_73_2, ty_of_42_2, ty_of_42_3, ty_of_42_4, ty_of_42_5, ty_ok_42, ty_sz_23, ty_sz_70, ty_sz_4, ty_sz_5, ty_sz_42, ty_ze_42]
        | (with_reducible refine drawK_id ?_); refine drawK_auto hmix (by kernel_rfl) ?_
        | (with_reducible refine draw_fin ?_ ?_); · kernel_rfl
        | (with_reducible refine draw_id ?_); kernel_rfl
        | ((with_reducible refine callK_id (f := 19) ?_); refine callK_fun ch rfl rfl ?_)
        | ((with_reducible refine callK_id (f := 37) ?_); refine callK_fun ce rfl rfl ?_)
        | (with_reducible refine And.intro ?_ ?_; · omega)
  | false =>
    have hf : formF f v u p = ⟨f.d, f.s, true, f.p, f.e, v, f.y, f.x⟩ := by simp [formF, hh]
    rw [hh] at ch
    have ce := encW (formF f v u p) (by rw [hf]; exact hx)
    by_cases he : eErr (formF f v u p) = 0
    · have hr : formR f v u p = (formF f v u p, true) := by simp [formR, he]
      rw [hr]
      rw [he] at ce
      generalize eStr (formF f v u p) = st at ce
      rw [hf] at ce ⊢
      repeat' first
        | with_reducible rfl
        | simp only [frC, RS_, argsTM, stepE, stBuiltin, stBox, stAlloc, stLoad, stStore, stField, stExtract, stBin, stUn, stConv, stNilCheck, stFieldV, stIndex, stIndexAddr, stLen, stMin, stMax, stBuild, fillI, stBuildSlice, setRows, stMakeSlice, stAppend, srcR, segR, rdCells, stSlice, bnd, stArr, stCopy, stConv2, isIntV, cutR, byteRows, rowByte, binStr, Option.map_some, Option.map_none, eq_self, canTL, canT, canH, canL, patL, gcH, gcT, gcI, get_gcT, mapC, pullS, pullI, pushS, push1, pushI, pushC, pullHW, roC, ix, List.map_map, Function.comp_def, List.zip_cons_cons, List.zip_nil_left, List.zip_nil_right, List.range'_zero, List.range'_succ, rd, get, put, IV.cells, ofValue, seg, spl, ldIV, binInt, eqI, cellsEq, leafEq, resI, flat, isT, upd, up1, nextM, cR, ptrC, nAl, isAl, ST_, Nat.reduceAdd, Nat.reduceMul, Nat.reduceEqDiff, Nat.reduceLeDiff, ne_eq, reduceCtorEq, reduceIte, forall_const, implies_true, Int.reduceToNat, Int.reduceLE, Int.reduceLT, bne, Int.reduceEq, Int.reduceNe, Int.reduceNeg, Int.reduceAdd, Int.reduceSub, Int.reduceMul, Int.reduceBEq, Int.reduceBNe, Nat.reduceLT, Nat.reduceSub, WLS, ty_ag_23, ty_ag_70, ty_ag_42, ty_of_73_0, ty_of_73_2, ty_of_42_2, ty_of_42_3, ty_of_42_4, ty_of_42_5, ty_ok_42, ty_sz_23, ty_sz_70, ty_sz_4, ty_sz_5, ty_sz_42, ty_ze_42]
        | (with_reducible refine drawK_id ?_); refine drawK_auto hmix (by kernel_rfl) ?_
        | (with_reducible refine draw_fin ?_ ?_); · kernel_rfl
        | (with_reducible refine draw_id ?_); kernel_rfl
        | ((with_reducible refine callK_id (f := 19) ?_); refine callK_fun ch rfl rfl ?_)
        | ((with_reducible refine callK_id (f := 37) ?_); refine callK_fun ce rfl rfl ?_)
        | (with_reducible refine And.intro ?_ ?_; · omega)
    · have hr : formR f v u p = (zF, false) := by simp [formR, he]
      have he2 : (eErr (formF f v u p) == 0) = false := by simpa using he
      rw [hr]
      generalize eErr (formF f v u p) = er at ce he2
      generalize eStr (formF f v u p) = st at ce
      rw [hf] at ce
      unfold zF
      repeat' first
        | with_reducible rfl
        | simp only [frC, he2, RS_, argsTM, stepE, stBuiltin, stBox, stAlloc, stLoad, stStore, stField, stExtract, stBin, stUn, stConv, stNilCheck, stFieldV, stIndex, stIndexAddr, stLen, stMin, stMax, stBuild, fillI, stBuildSlice, setRows, stMakeSlice, stAppend, srcR, segR, rdCells, stSlice, bnd, stArr, stCopy, stConv2, isIntV, cutR, byteRows, rowByte, binStr, Option.map_some, Option.map_none, eq_self, canTL, canT, canH, canL, patL, gcH, gcT, gcI, get_gcT, mapC, pullS, pullI, pushS, push1, pushI, pushC, pullHW, roC, ix, List.map_map, Function.comp_def, List.zip_cons_cons, List.zip_nil_left, List.zip_nil_right, List.range'_zero, List.range'_succ, rd, get, put, IV.cells, ofValue, seg, spl, ldIV, binInt, eqI, cellsEq, leafEq, resI, flat, isT, upd, up1, nextM, cR, ptrC, nAl, isAl, ST_, Nat.reduceAdd, Nat.reduceMul, Nat.reduceEqDiff, Nat.reduceLeDiff, ne_eq, reduceCtorEq, reduceIte, forall_const, implies_true, Int.reduceToNat, Int.reduceLE, Int.reduceLT, bne, Int.reduceEq, Int.reduceNe, Int.reduceNeg, Int.reduceAdd, Int.reduceSub, Int.reduceMul, Int.reduceBEq, Int.reduceBNe, Nat.reduceLT, Nat.reduceSub, WLS, ty_ag_23, ty_ag_70, ty_ag_42, ty_of_73_0, ty_of_73_2, ty_of_42_2, ty_of_42_3, ty_of_42_4, ty_of_42_5, ty_ok_42, ty_sz_23, ty_sz_70, ty_sz_4, ty_sz_5, ty_sz_42, ty_ze_42]
        | (with_reducible refine drawK_id ?_); refine drawK_auto hmix (by kernel_rfl) ?_
        | (with_reducible refine draw_fin ?_ ?_); · kernel_rfl
        | (with_reducible refine draw_id ?_); kernel_rfl
        | ((with_reducible refine callK_id (f := 19) ?_); refine callK_fun ch rfl rfl ?_)
        | ((with_reducible refine callK_id (f := 37) ?_); refine callK_fun ce rfl rfl ?_)
        | (with_reducible refine And.intro ?_ ?_; · omega)
theorem br (n : Nat) : byteRows (List.replicate n [.raw (.int .u8 0)]) = some (List.replicate n 0) := by
  induction n with
  | zero => rfl
  | succ n ih => rw [List.replicate_succ, byteRows, ih]; rfl
def zS_ (n : Nat) : ByteArray := ⟨(List.replicate n (0 : UInt8)).toArray⟩
theorem zS_f (n : Nat) : (⟨(List.replicate n (0 : UInt8)).toArray⟩ : ByteArray) = zS_ n := rfl
theorem zS_size (n : Nat) : (zS_ n).size = n := by simp [zS_, ByteArray.size]
end Go.Ev
