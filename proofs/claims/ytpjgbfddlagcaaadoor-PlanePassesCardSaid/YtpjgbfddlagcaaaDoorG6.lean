/- A part of the proof: contracts of the functions that the statement reaches. -/
import Derived.Test.YtpjgbfddlagcaaaDoorEvC
import Derived.Test.YtpjgbfddlagcaaaDoorG5
namespace Go.Ev
open Go.Proofs
set_option maxRecDepth 100000
set_option linter.unusedSimpArgs false
set_option linter.unusedVariables false
set_option maxHeartbeats 4000000
def cmpA (a b : EN) : Int := orI (cmpI b.g a.g) (cmpK a.k b.k)
theorem eR_def (e : EN) : eR e = [.raw (.int .u16 e.k.v), .raw (.int .u8 e.k.m.m0), .raw (.int .u8 e.k.m.m1), .raw (.int .u8 e.k.m.m2), .raw (.int .u8 e.k.m.m3), .raw (.int .u8 e.k.m.m4), .raw (.int .u8 e.k.m.m5), .raw (.int .i64 e.p), .raw (.int .i64 e.g)] := rfl
theorem f90 (a b : EN) : Fun Tryd.prog 46 [.a (eR a), .a (eR b)] (.s (.raw (.int .i64 (cmpA a b)))) := by
  refine fun_of rfl fun X => ?_
  refine callK_inline (rs := [.tmp 4]) (n := 17) Tryd.func46 rfl rfl rfl (by kernel_rfl) (by kernel_rfl) (by simp only [List.length_cons, List.length_nil]; decide) ?_
  repeat' first
    | with_reducible rfl
    | simp only [eR_def, cmpA, RS_, argsTM, stepE, stBuiltin, stBox, stAlloc, stLoad, stStore, stField, stExtract, stBin, stUn, stConv, stNilCheck, stFieldV, stIndex, stIndexAddr, stLen, stMin, stMax, stBuild, fillI, stBuildSlice, setRows, stMakeSlice, stAppend, srcR, segR, rdCells, stSlice, bnd, stArr, stCopy, stConv2, isIntV, cutR, byteRows, rowByte, binStr, Option.map_some, Option.map_none, eq_self, canTL, canT, canH, canL, patL, gcH, gcT, gcI, get_gcT, mapC, pullS, pullI, pushS, push1, pushI, pushC, pullHW, roC, ix, List.map_map, Function.comp_def, List.zip_cons_cons, List.zip_nil_left, List.zip_nil_right, List.range'_zero, List.range'_succ, rd, get, put, IV.cells, ofValue, seg, spl, ldIV, binInt, eqI, cellsEq, leafEq, resI, flat, isT, upd, up1, nextM, cR, ptrC, nAl, isAl, ST_, Nat.reduceAdd, Nat.reduceMul, Nat.reduceEqDiff, Nat.reduceLeDiff, ne_eq, reduceCtorEq, reduceIte, forall_const, implies_true, Int.reduceToNat, Int.reduceLE, Int.reduceLT, bne, Int.reduceEq, Int.reduceNe, Int.reduceNeg, Int.reduceAdd, Int.reduceSub, Int.reduceMul, Int.reduceBEq, Int.reduceBNe, Nat.reduceLT, Nat.reduceSub, WLS, ty_ag_3, ty_ag_63, ty_of_67_0, ty_of_67_2, ty_sz_3, ty_sz_63, ty_zs_130]
    | with_reducible refine gdb_split (fun h => ?_) (fun h => ?_)
    | (with_reducible refine drawK_id ?_); refine drawK_auto hmix (by kernel_rfl) ?_
    | (with_reducible refine draw_fin ?_ ?_); · kernel_rfl
    | (with_reducible refine draw_id ?_); kernel_rfl
    | (with_reducible refine callD_id (f := 48) ?_); refine callD_of (f91 _ _) rfl rfl ?_
    | (with_reducible refine callD_id (f := 40) ?_); refine callD_of (f61 a.k b.k) rfl rfl ?_
    | (with_reducible refine callD_id (f := 47) ?_); refine callD_read [2] (f57 _ _) rfl rfl rfl ?_
    | (with_reducible refine And.intro ?_ ?_; · omega)
theorem f67 (a b : EN) : Fun Tryd.prog 39 [.a (eR a), .a (eR b)] (.s (.raw (.int .i64 (cmpK a.k b.k)))) := by
  refine fun_of rfl fun X => ?_
  refine callK_inline (rs := [.tmp 4]) (n := 10) Tryd.func39 rfl rfl rfl (by kernel_rfl) (by kernel_rfl) (by simp only [List.length_cons, List.length_nil]; decide) ?_
  repeat' first
    | with_reducible rfl
    | simp only [eR_def, RS_, argsTM, stepE, stBuiltin, stBox, stAlloc, stLoad, stStore, stField, stExtract, stBin, stUn, stConv, stNilCheck, stFieldV, stIndex, stIndexAddr, stLen, stMin, stMax, stBuild, fillI, stBuildSlice, setRows, stMakeSlice, stAppend, srcR, segR, rdCells, stSlice, bnd, stArr, stCopy, stConv2, isIntV, cutR, byteRows, rowByte, binStr, Option.map_some, Option.map_none, eq_self, canTL, canT, canH, canL, patL, gcH, gcT, gcI, get_gcT, mapC, pullS, pullI, pushS, push1, pushI, pushC, pullHW, roC, ix, List.map_map, Function.comp_def, List.zip_cons_cons, List.zip_nil_left, List.zip_nil_right, List.range'_zero, List.range'_succ, rd, get, put, IV.cells, ofValue, seg, spl, ldIV, binInt, eqI, cellsEq, leafEq, resI, flat, isT, upd, up1, nextM, cR, ptrC, nAl, isAl, ST_, Nat.reduceAdd, Nat.reduceMul, Nat.reduceEqDiff, Nat.reduceLeDiff, ne_eq, reduceCtorEq, reduceIte, forall_const, implies_true, Int.reduceToNat, Int.reduceLE, Int.reduceLT, bne, Int.reduceEq, Int.reduceNe, Int.reduceNeg, Int.reduceAdd, Int.reduceSub, Int.reduceMul, Int.reduceBEq, Int.reduceBNe, Nat.reduceLT, Nat.reduceSub, WLS, ty_ag_63, ty_of_67_0, ty_sz_63]
    | with_reducible refine gdb_split (fun h => ?_) (fun h => ?_)
    | (with_reducible refine drawK_id ?_); refine drawK_auto hmix (by kernel_rfl) ?_
    | (with_reducible refine draw_fin ?_ ?_); · kernel_rfl
    | (with_reducible refine draw_id ?_); kernel_rfl
    | (with_reducible refine callK_id (f := 40) ?_); refine callK_fun (f61 a.k b.k) rfl rfl ?_
    | (with_reducible refine And.intro ?_ ?_; · omega)
def ZR : Chunk := .rows true 9 [[.raw (.int .u16 0), .raw (.int .u8 0), .raw (.int .u8 0), .raw (.int .u8 0), .raw (.int .u8 0), .raw (.int .u8 0), .raw (.int .u8 0), .raw (.int .i64 0), .raw (.int .i64 0)]]
def minL (L : List EN) : EN := L.tail.foldl (fun m x => if cmpA x m < 0 then x else m) (L.head?.getD default)
theorem minL_step (L : List EN) (i : Nat) (h1 : 1 ≤ i) (x : EN) (hx : L[i]? = some x) : minL (L.take (i + 1)) = if cmpA x (minL (L.take i)) < 0 then x else minL (L.take i) := by
  obtain ⟨e, R, rfl⟩ : ∃ e R, L = e :: R := by
    cases L with
    | nil => simp at hx
    | cons e R => exact ⟨e, R, rfl⟩
  obtain ⟨j, rfl⟩ : ∃ j, i = j + 1 := ⟨i - 1, by omega⟩
  have hx' : R[j]? = some x := by simpa using hx
  have hj : j < R.length := (List.getElem?_eq_some_iff.1 hx').1
  have : R.take (j + 1) = R.take j ++ [x] := by rw [List.take_add_one, hx']; rfl
  simp only [minL, List.take_succ_cons, List.tail_cons, List.head?_cons, Option.getD_some, this, List.foldl_append, List.foldl_cons, List.foldl_nil]
  rfl
def I89 (L : List EN) (mm : Nat) (tm : TM) (H : Heap) : Prop := ∃ i : Nat, mm = L.length - i ∧ 1 ≤ i ∧ i ≤ L.length ∧ get tm 0 = .s (.slice 0 0 L.length) ∧ get tm 1 = .s (.raw (.func (.func 46) #[] #[])) ∧ get tm 4 = .s (.ptr 1 0 0) ∧ get tm 5 = .s (.ptr 2 0 0) ∧ get tm 6 = .s (.raw (.int .i64 (i : Int))) ∧
  H = [.rows false 9 (L.map eR), ZR, .rows true 9 [eR (minL (L.take i))]]
theorem f89 (L : List EN) (h : 1 ≤ L.length) (hb : L.length ≤ 100000) : FunR Tryd.prog 45 [.rows false 9 (L.map eR)] [.s (.slice 0 0 L.length), .s (.raw (.func (.func 46) #[] #[]))] (.a (eR (minL L))) := by
  refine funR_of rfl fun X => ?_
  refine callK_inline (rs := [.cell 4 67]) (n := 33) Tryd.func45 rfl rfl rfl (by kernel_rfl) (by kernel_rfl) (by simp only [List.length_cons, List.length_nil]; decide) ?_
  have q0 : decide ((L.length : Int) < 1) = false := decide_eq_false (by omega)
  obtain ⟨e, he⟩ : ∃ e, L[0]? = some e := ⟨_, List.getElem?_eq_getElem h⟩
  have hel : (L.map eR)[0]? = some (eR e) := by rw [List.getElem?_map, he]; rfl
  have b1 : (0 : Int) < (L.length : Int) := by omega
  have hm0 : minL (L.take 1) = e := by
    cases L with
    | nil => simp at he
    | cons x R => simp at he; subst he; rfl
  repeat' first
    | with_reducible rfl
    | simp only [q0, List.length_map, hel, b1, eR_def, RS_, argsTM, stepE, stBuiltin, stBox, stAlloc, stLoad, stStore, stField, stExtract, stBin, stUn, stConv, stNilCheck, stFieldV, stIndex, stIndexAddr, stLen, stMin, stMax, stBuild, fillI, stBuildSlice, setRows, stMakeSlice, stAppend, srcR, segR, rdCells, stSlice, bnd, stArr, stCopy, stConv2, isIntV, cutR, byteRows, rowByte, binStr, Option.map_some, Option.map_none, eq_self, canTL, canT, canH, canL, patL, gcH, gcT, gcI, get_gcT, mapC, pullS, pullI, pushS, push1, pushI, pushC, pullHW, roC, ix, List.map_map, Function.comp_def, List.zip_cons_cons, List.zip_nil_left, List.zip_nil_right, List.range'_zero, List.range'_succ, rd, get, put, IV.cells, ofValue, seg, spl, ldIV, binInt, eqI, cellsEq, leafEq, resI, flat, isT, upd, up1, nextM, cR, ptrC, nAl, isAl, ST_, Nat.reduceAdd, Nat.reduceMul, Nat.reduceEqDiff, Nat.reduceLeDiff, ne_eq, reduceCtorEq, reduceIte, forall_const, implies_true, Int.reduceToNat, Int.reduceLE, Int.reduceLT, bne, Int.reduceEq, Int.reduceNe, Int.reduceNeg, Int.reduceAdd, Int.reduceSub, Int.reduceMul, Int.reduceBEq, Int.reduceBNe, Nat.reduceLT, Nat.reduceSub, WLS, ty_ag_67, ty_sl_82, ty_sz_67, ty_ze_67]
    | with_reducible refine gdb_split (fun h => ?_) (fun h => ?_)
    | (with_reducible refine drawK_id ?_); refine drawK_auto hmix (by kernel_rfl) ?_
    | (with_reducible refine draw_fin ?_ ?_); · kernel_rfl
    | (with_reducible refine draw_id ?_); kernel_rfl
    | (with_reducible refine And.intro ?_ ?_; · omega)
  refine loopK_wk (by kernel_rfl) (I89 L) (L.length - 1) ⟨_, _, Wk.refl, 1, by omega, by omega, by omega, ?_, ?_, ?_, ?_, ?_, ?_⟩ ?_ <;> first | with_reducible rfl | (simp [Function.comp_def, get_gcT, get, put, gcI, pullI, pullS, gcH, patL, canL, canH, canTL, canT, segR, rows_pull, iter_pull, map_pull, pull_eR, ix, hm0, eR_def, ZR]; done) | (simp only [hm0, eR_def, ZR]; done) | skip
  rintro mm tm H ⟨i, rfl, hi1, hi, g0, g1, g4, g5, g6, rfl⟩
  unfold ZR
  have hw : IntKind.i64.wrap ((i : Int) + 1) = ((i + 1 : Nat) : Int) := by rw [wr_i64 (by omega) (by omega)]; rfl
  by_cases hq : i < L.length
  · have q1 : decide ((i : Int) < (L.length : Int)) = true := decide_eq_true (by omega)
    have b0 : (0 : Int) ≤ (i : Int) := by omega
    have b2 : (i : Int) < (L.length : Int) := by omega
    obtain ⟨x, hx⟩ : ∃ x, L[i]? = some x := ⟨_, List.getElem?_eq_getElem hq⟩
    have hxl : (L.map eR)[i]? = some (eR x) := by rw [List.getElem?_map, hx]; rfl
    have hst := minL_step L i hi1 x hx
    cases q2 : decide (cmpA x (minL (L.take i)) < 0) with
    | true =>
      rw [if_pos (of_decide_eq_true q2)] at hst
      repeat' first
        | with_reducible rfl
        | simp only [q1, b0, b2, hxl, hw, q2, g0, g1, g4, g5, g6, List.length_map, Int.toNat_natCast, eR_def, RS_, argsTM, stepE, stBuiltin, stBox, stAlloc, stLoad, stStore, stField, stExtract, stBin, stUn, stConv, stNilCheck, stFieldV, stIndex, stIndexAddr, stLen, stMin, stMax, stBuild, fillI, stBuildSlice, setRows, stMakeSlice, stAppend, srcR, segR, rdCells, stSlice, bnd, stArr, stCopy, stConv2, isIntV, cutR, byteRows, rowByte, binStr, Option.map_some, Option.map_none, eq_self, canTL, canT, canH, canL, patL, gcH, gcT, gcI, get_gcT, mapC, pullS, pullI, pushS, push1, pushI, pushC, pullHW, roC, ix, List.map_map, Function.comp_def, List.zip_cons_cons, List.zip_nil_left, List.zip_nil_right, List.range'_zero, List.range'_succ, rd, get, put, IV.cells, ofValue, seg, spl, ldIV, binInt, eqI, cellsEq, leafEq, resI, flat, isT, upd, up1, nextM, cR, ptrC, nAl, isAl, ST_, Nat.reduceAdd, Nat.reduceMul, Nat.reduceEqDiff, Nat.reduceLeDiff, ne_eq, reduceCtorEq, reduceIte, forall_const, implies_true, Int.reduceToNat, Int.reduceLE, Int.reduceLT, bne, Int.reduceEq, Int.reduceNe, Int.reduceNeg, Int.reduceAdd, Int.reduceSub, Int.reduceMul, Int.reduceBEq, Int.reduceBNe, Nat.reduceLT, Nat.reduceSub, WLS, ty_ag_67, ty_sl_82, ty_sz_67, ty_ze_67]
        | (with_reducible refine drawK_id ?_); refine drawK_auto hmix (by kernel_rfl) ?_
        | (with_reducible refine draw_fin ?_ ?_); · kernel_rfl
        | (with_reducible refine draw_id ?_); kernel_rfl
        | (with_reducible refine callD_id (f := 46) ?_); refine callD_of (f90 x (minL (L.take i))) rfl rfl ?_
        | (with_reducible refine And.intro ?_ ?_; · omega)
      refine ⟨L.length - (i + 1), _, _, by omega, Wk.refl, i + 1, rfl, by omega, by omega, ?_, ?_, ?_, ?_, ?_, ?_⟩ <;> first | with_reducible rfl | (simp [Function.comp_def, get_gcT, get, put, gcI, pullI, pullS, gcH, patL, canL, canH, canTL, canT, segR, rows_pull, iter_pull, map_pull, pull_eR, ix, g0, g1, g4, g5, g6, hst, eR_def, ZR]; done)
    | false =>
      rw [if_neg (of_decide_eq_false q2)] at hst
      repeat' first
        | with_reducible rfl
        | simp only [q1, b0, b2, hxl, hw, q2, g0, g1, g4, g5, g6, List.length_map, Int.toNat_natCast, eR_def, RS_, argsTM, stepE, stBuiltin, stBox, stAlloc, stLoad, stStore, stField, stExtract, stBin, stUn, stConv, stNilCheck, stFieldV, stIndex, stIndexAddr, stLen, stMin, stMax, stBuild, fillI, stBuildSlice, setRows, stMakeSlice, stAppend, srcR, segR, rdCells, stSlice, bnd, stArr, stCopy, stConv2, isIntV, cutR, byteRows, rowByte, binStr, Option.map_some, Option.map_none, eq_self, canTL, canT, canH, canL, patL, gcH, gcT, gcI, get_gcT, mapC, pullS, pullI, pushS, push1, pushI, pushC, pullHW, roC, ix, List.map_map, Function.comp_def, List.zip_cons_cons, List.zip_nil_left, List.zip_nil_right, List.range'_zero, List.range'_succ, rd, get, put, IV.cells, ofValue, seg, spl, ldIV, binInt, eqI, cellsEq, leafEq, resI, flat, isT, upd, up1, nextM, cR, ptrC, nAl, isAl, ST_, Nat.reduceAdd, Nat.reduceMul, Nat.reduceEqDiff, Nat.reduceLeDiff, ne_eq, reduceCtorEq, reduceIte, forall_const, implies_true, Int.reduceToNat, Int.reduceLE, Int.reduceLT, bne, Int.reduceEq, Int.reduceNe, Int.reduceNeg, Int.reduceAdd, Int.reduceSub, Int.reduceMul, Int.reduceBEq, Int.reduceBNe, Nat.reduceLT, Nat.reduceSub, WLS, ty_ag_67, ty_sl_82, ty_sz_67, ty_ze_67]
        | (with_reducible refine drawK_id ?_); refine drawK_auto hmix (by kernel_rfl) ?_
        | (with_reducible refine draw_fin ?_ ?_); · kernel_rfl
        | (with_reducible refine draw_id ?_); kernel_rfl
        | (with_reducible refine callD_id (f := 46) ?_); refine callD_of (f90 x (minL (L.take i))) rfl rfl ?_
        | (with_reducible refine And.intro ?_ ?_; · omega)
      refine ⟨L.length - (i + 1), _, _, by omega, Wk.refl, i + 1, rfl, by omega, by omega, ?_, ?_, ?_, ?_, ?_, ?_⟩ <;> first | with_reducible rfl | (simp [Function.comp_def, get_gcT, get, put, gcI, pullI, pullS, gcH, patL, canL, canH, canTL, canT, segR, rows_pull, iter_pull, map_pull, pull_eR, ix, g0, g1, g4, g5, g6, hst, eR_def, ZR]; done)
  · have q1 : decide ((i : Int) < (L.length : Int)) = false := decide_eq_false (by omega)
    obtain rfl : i = L.length := by omega
    rw [List.take_length]
    repeat' first
      | with_reducible rfl
      | simp only [q1, g0, g1, g4, g5, g6, List.length_map, eR_def, RS_, argsTM, stepE, stBuiltin, stBox, stAlloc, stLoad, stStore, stField, stExtract, stBin, stUn, stConv, stNilCheck, stFieldV, stIndex, stIndexAddr, stLen, stMin, stMax, stBuild, fillI, stBuildSlice, setRows, stMakeSlice, stAppend, srcR, segR, rdCells, stSlice, bnd, stArr, stCopy, stConv2, isIntV, cutR, byteRows, rowByte, binStr, Option.map_some, Option.map_none, eq_self, canTL, canT, canH, canL, patL, gcH, gcT, gcI, get_gcT, mapC, pullS, pullI, pushS, push1, pushI, pushC, pullHW, roC, ix, List.map_map, Function.comp_def, List.zip_cons_cons, List.zip_nil_left, List.zip_nil_right, List.range'_zero, List.range'_succ, rd, get, put, IV.cells, ofValue, seg, spl, ldIV, binInt, eqI, cellsEq, leafEq, resI, flat, isT, upd, up1, nextM, cR, ptrC, nAl, isAl, ST_, Nat.reduceAdd, Nat.reduceMul, Nat.reduceEqDiff, Nat.reduceLeDiff, ne_eq, reduceCtorEq, reduceIte, forall_const, implies_true, Int.reduceToNat, Int.reduceLE, Int.reduceLT, bne, Int.reduceEq, Int.reduceNe, Int.reduceNeg, Int.reduceAdd, Int.reduceSub, Int.reduceMul, Int.reduceBEq, Int.reduceBNe, Nat.reduceLT, Nat.reduceSub, WLS, ty_ag_67, ty_sl_82, ty_sz_67, ty_ze_67]
      | with_reducible refine gdb_split (fun h => ?_) (fun h => ?_)
      | (with_reducible refine drawK_id ?_); refine drawK_auto hmix (by kernel_rfl) ?_
      | (with_reducible refine draw_fin ?_ ?_); · kernel_rfl
      | (with_reducible refine draw_id ?_); kernel_rfl
      | (with_reducible refine And.intro ?_ ?_; · omega)
end Go.Ev
