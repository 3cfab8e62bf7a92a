/- A part of the proof: contracts of the functions that the statement reaches. -/
import Derived.Test.YtpjgbfddlagcaaaDoorEvC
import Derived.Test.YtpjgbfddlagcaaaDoorP5
namespace Go.Ev
open Go.Proofs
set_option maxRecDepth 100000
set_option linter.unusedSimpArgs false
set_option linter.unusedVariables false
set_option maxHeartbeats 4000000
open Srt Go.RowKit
structure FRQ where
  po : Int
  sr : Int
  ds : Int
  gr : Bool
  vi : Int
  lo : Int
def fqC (q : FRQ) : List SV := [.raw (.int .u8 q.po), .raw (.int .u8 q.sr), .raw (.int .u8 q.ds), .raw (.bool q.gr), .raw (.int .u8 q.vi), .raw (.int .u16 q.lo)]
theorem fqC_pull (σ : List Nat) (q : FRQ) : (fqC q).map (pullS σ) = fqC q := rfl
def ofC (q : FRQ) : FRM := ⟨if q.gr then ⟨1, 128, 194, 0, 0, q.ds⟩ else fromC (IntKind.u64.wrap (Int.tmod q.ds 8)), fromC (IntKind.u64.wrap (Int.tmod q.sr 8)), decide (0 < Int.tmod q.vi 6), 0, false,
  if decide (0 < Int.tmod q.vi 6) then IntKind.u16.wrap (IntKind.u16.wrap (Int.tmod q.vi 6) - 1) else 0, 2048, zS_ (Int.tmod q.lo 1520).toNat⟩
theorem ofW (q : FRQ) (l0 : 0 ≤ q.lo) (l1 : q.lo ≤ 65535) : Fun Tryd.prog 7 [.a (fqC q)] (.a (frC (ofC q))) := by
  refine fun_of rfl fun X => ?_
  obtain ⟨n, hn, hn2, n1⟩ : ∃ n : Nat, Int.tmod (IntKind.i64.wrap q.lo) 1520 = (n : Int) ∧ (Int.tmod q.lo 1520).toNat = n ∧ n < 1520 := by
    have w : IntKind.i64.wrap q.lo = q.lo := wr_i64 (by omega) (by omega)
    rw [w, Int.tmod_eq_emod_of_nonneg l0]
    exact ⟨(q.lo % 1520).toNat, by omega, rfl, by omega⟩
  obtain ⟨ms, hms⟩ : ∃ ms, IntKind.u64.wrap (Int.tmod q.sr 8) = ms := ⟨_, rfl⟩
  obtain ⟨md, hmd⟩ : ∃ md, IntKind.u64.wrap (Int.tmod q.ds 8) = md := ⟨_, rfl⟩
  obtain ⟨vv, hvv⟩ : ∃ vv, IntKind.u16.wrap (IntKind.u16.wrap (Int.tmod q.vi 6) - 1) = vv := ⟨_, rfl⟩
  have b1 : (0 : Int) ≤ (n : Int) := by omega
  have sg : segR (List.replicate n [SV.raw (.int .u8 0)]) 0 n = some (List.replicate n [SV.raw (.int .u8 0)]) := by unfold segR; rw [if_pos ⟨rfl, by simp⟩]
  have brn := br n
  unfold ofC
  rw [hn2, hms, hmd, hvv]
  cases e1 : q.gr with
  | true =>
    simp only [if_true]
    cases e2 : decide (0 < Int.tmod q.vi 6) with
    | true =>
      simp only [if_true]
      refine callK_inline (rs := [.cell 2 42]) (n := 39) Tryd.func7 rfl rfl rfl (by kernel_rfl) (by kernel_rfl) (by simp only [List.length_cons, List.length_nil]; decide) ?_
      repeat' first
        | with_reducible rfl
        | simp only [fqC, frC, encM, hn, hms, hmd, hvv, b1, sg, brn, zS_f, e1, e2, Int.toNat_natCast, List.length_replicate, RS_, argsTM, stepE, stBuiltin, stBox, stAlloc, stLoad, stStore, stField, stExtract, stBin, stUn, stConv, stNilCheck, stFieldV, stIndex, stIndexAddr, stLen, stMin, stMax, stBuild, fillI, stBuildSlice, setRows, stMakeSlice, stAppend, srcR, segR, rdCells, stSlice, bnd, stArr, stCopy, stConv2, isIntV, cutR, byteRows, rowByte, binStr, Option.map_some, Option.map_none, eq_self, canTL, canT, canH, canL, patL, gcH, gcT, gcI, get_gcT, pullS, pullI, pushS, push1, pushI, pullHW, roC, ix, List.map_map, Function.comp_def, List.zip_cons_cons, List.zip_nil_left, List.zip_nil_right, List.range'_zero, List.range'_succ, rd, get, put, IV.cells, ofValue, seg, spl, ldIV, binInt, eqI, cellsEq, leafEq, resI, flat, isT, upd, up1, nextM, cR, ptrC, nAl, isAl, ST_, Nat.reduceAdd, Nat.reduceMul, Nat.reduceEqDiff, Nat.reduceLeDiff, ne_eq, reduceCtorEq, reduceIte, forall_const, implies_true, Int.reduceToNat, Int.reduceLE, Int.reduceLT, bne, Int.reduceEq, Int.reduceNe, Int.reduceNeg, Int.reduceAdd, Int.reduceSub, Int.reduceMul, Int.reduceBEq, Int.reduceBNe, Nat.reduceLT, Nat.reduceSub, WLS, Tryd.underlying23, Tryd.underlying3, Tryd.underlying5, Tryd.underlying53, ty_ag_23, ty_ag_4, ty_ag_42, ty_ag_5, ty_by_96, ty_ib_96, ty_of_42_0, ty_of_42_2, ty_of_42_5, ty_of_45_1, ty_of_45_2, ty_of_45_3, ty_of_45_4, ty_of_45_5, ty_ok_40, ty_ok_42, ty_pl_40_0, ty_pl_40_1, ty_pl_40_2, ty_pl_40_3, ty_pl_40_4, ty_pl_40_5, ty_pl_42_0, ty_pl_42_1, ty_pl_42_6, ty_pl_42_7, ty_st_9, ty_sz_23, ty_sz_4, ty_sz_40, ty_sz_42, ty_sz_5, ty_ze_40, ty_ze_42, ty_zs_96]
        | (with_reducible refine drawK_id ?_); refine drawK_auto hmix (by kernel_rfl) ?_
        | (with_reducible refine draw_fin ?_ ?_); · kernel_rfl
        | (with_reducible refine draw_id ?_); kernel_rfl
        | (with_reducible refine callD_id (f := 21) (args := [.s (.raw (.int .u64 ms))]) ?_); refine callD_of (f32 ms) rfl rfl ?_
        | (with_reducible refine callD_id (f := 21) (args := [.s (.raw (.int .u64 md))]) ?_); refine callD_of (f32 md) rfl rfl ?_
        | (with_reducible refine And.intro ?_ ?_; · omega)
    | false =>
      simp only [Bool.false_eq_true, if_false]
      refine callK_inline (rs := [.cell 2 42]) (n := 39) Tryd.func7 rfl rfl rfl (by kernel_rfl) (by kernel_rfl) (by simp only [List.length_cons, List.length_nil]; decide) ?_
      repeat' first
        | with_reducible rfl
        | simp only [fqC, frC, encM, hn, hms, hmd, hvv, b1, sg, brn, zS_f, e1, e2, Int.toNat_natCast, List.length_replicate, RS_, argsTM, stepE, stBuiltin, stBox, stAlloc, stLoad, stStore, stField, stExtract, stBin, stUn, stConv, stNilCheck, stFieldV, stIndex, stIndexAddr, stLen, stMin, stMax, stBuild, fillI, stBuildSlice, setRows, stMakeSlice, stAppend, srcR, segR, rdCells, stSlice, bnd, stArr, stCopy, stConv2, isIntV, cutR, byteRows, rowByte, binStr, Option.map_some, Option.map_none, eq_self, canTL, canT, canH, canL, patL, gcH, gcT, gcI, get_gcT, pullS, pullI, pushS, push1, pushI, pullHW, roC, ix, List.map_map, Function.comp_def, List.zip_cons_cons, List.zip_nil_left, List.zip_nil_right, List.range'_zero, List.range'_succ, rd, get, put, IV.cells, ofValue, seg, spl, ldIV, binInt, eqI, cellsEq, leafEq, resI, flat, isT, upd, up1, nextM, cR, ptrC, nAl, isAl, ST_, Nat.reduceAdd, Nat.reduceMul, Nat.reduceEqDiff, Nat.reduceLeDiff, ne_eq, reduceCtorEq, reduceIte, forall_const, implies_true, Int.reduceToNat, Int.reduceLE, Int.reduceLT, bne, Int.reduceEq, Int.reduceNe, Int.reduceNeg, Int.reduceAdd, Int.reduceSub, Int.reduceMul, Int.reduceBEq, Int.reduceBNe, Nat.reduceLT, Nat.reduceSub, WLS, Tryd.underlying23, Tryd.underlying3, Tryd.underlying5, Tryd.underlying53, ty_ag_23, ty_ag_4, ty_ag_42, ty_ag_5, ty_by_96, ty_ib_96, ty_of_42_0, ty_of_42_2, ty_of_42_5, ty_of_45_1, ty_of_45_2, ty_of_45_3, ty_of_45_4, ty_of_45_5, ty_ok_40, ty_ok_42, ty_pl_40_0, ty_pl_40_1, ty_pl_40_2, ty_pl_40_3, ty_pl_40_4, ty_pl_40_5, ty_pl_42_0, ty_pl_42_1, ty_pl_42_6, ty_pl_42_7, ty_st_9, ty_sz_23, ty_sz_4, ty_sz_40, ty_sz_42, ty_sz_5, ty_ze_40, ty_ze_42, ty_zs_96]
        | (with_reducible refine drawK_id ?_); refine drawK_auto hmix (by kernel_rfl) ?_
        | (with_reducible refine draw_fin ?_ ?_); · kernel_rfl
        | (with_reducible refine draw_id ?_); kernel_rfl
        | (with_reducible refine callD_id (f := 21) (args := [.s (.raw (.int .u64 ms))]) ?_); refine callD_of (f32 ms) rfl rfl ?_
        | (with_reducible refine callD_id (f := 21) (args := [.s (.raw (.int .u64 md))]) ?_); refine callD_of (f32 md) rfl rfl ?_
        | (with_reducible refine And.intro ?_ ?_; · omega)
  | false =>
    simp only [Bool.false_eq_true, if_false]
    cases e2 : decide (0 < Int.tmod q.vi 6) with
    | true =>
      simp only [if_true]
      refine callK_inline (rs := [.cell 2 42]) (n := 39) Tryd.func7 rfl rfl rfl (by kernel_rfl) (by kernel_rfl) (by simp only [List.length_cons, List.length_nil]; decide) ?_
      repeat' first
        | with_reducible rfl
        | simp only [fqC, frC, encM, hn, hms, hmd, hvv, b1, sg, brn, zS_f, e1, e2, Int.toNat_natCast, List.length_replicate, RS_, argsTM, stepE, stBuiltin, stBox, stAlloc, stLoad, stStore, stField, stExtract, stBin, stUn, stConv, stNilCheck, stFieldV, stIndex, stIndexAddr, stLen, stMin, stMax, stBuild, fillI, stBuildSlice, setRows, stMakeSlice, stAppend, srcR, segR, rdCells, stSlice, bnd, stArr, stCopy, stConv2, isIntV, cutR, byteRows, rowByte, binStr, Option.map_some, Option.map_none, eq_self, canTL, canT, canH, canL, patL, gcH, gcT, gcI, get_gcT, pullS, pullI, pushS, push1, pushI, pullHW, roC, ix, List.map_map, Function.comp_def, List.zip_cons_cons, List.zip_nil_left, List.zip_nil_right, List.range'_zero, List.range'_succ, rd, get, put, IV.cells, ofValue, seg, spl, ldIV, binInt, eqI, cellsEq, leafEq, resI, flat, isT, upd, up1, nextM, cR, ptrC, nAl, isAl, ST_, Nat.reduceAdd, Nat.reduceMul, Nat.reduceEqDiff, Nat.reduceLeDiff, ne_eq, reduceCtorEq, reduceIte, forall_const, implies_true, Int.reduceToNat, Int.reduceLE, Int.reduceLT, bne, Int.reduceEq, Int.reduceNe, Int.reduceNeg, Int.reduceAdd, Int.reduceSub, Int.reduceMul, Int.reduceBEq, Int.reduceBNe, Nat.reduceLT, Nat.reduceSub, WLS, Tryd.underlying23, Tryd.underlying3, Tryd.underlying5, Tryd.underlying53, ty_ag_23, ty_ag_4, ty_ag_42, ty_ag_5, ty_by_96, ty_ib_96, ty_of_42_0, ty_of_42_2, ty_of_42_5, ty_of_45_1, ty_of_45_2, ty_of_45_3, ty_of_45_4, ty_of_45_5, ty_ok_40, ty_ok_42, ty_pl_40_0, ty_pl_40_1, ty_pl_40_2, ty_pl_40_3, ty_pl_40_4, ty_pl_40_5, ty_pl_42_0, ty_pl_42_1, ty_pl_42_6, ty_pl_42_7, ty_st_9, ty_sz_23, ty_sz_4, ty_sz_40, ty_sz_42, ty_sz_5, ty_ze_40, ty_ze_42, ty_zs_96]
        | (with_reducible refine drawK_id ?_); refine drawK_auto hmix (by kernel_rfl) ?_
        | (with_reducible refine draw_fin ?_ ?_); · kernel_rfl
        | (with_reducible refine draw_id ?_); kernel_rfl
        | (with_reducible refine callD_id (f := 21) (args := [.s (.raw (.int .u64 ms))]) ?_); refine callD_of (f32 ms) rfl rfl ?_
        | (with_reducible refine callD_id (f := 21) (args := [.s (.raw (.int .u64 md))]) ?_); refine callD_of (f32 md) rfl rfl ?_
        | (with_reducible refine And.intro ?_ ?_; · omega)
    | false =>
      simp only [Bool.false_eq_true, if_false]
      refine callK_inline (rs := [.cell 2 42]) (n := 39) Tryd.func7 rfl rfl rfl (by kernel_rfl) (by kernel_rfl) (by simp only [List.length_cons, List.length_nil]; decide) ?_
      repeat' first
        | with_reducible rfl
        | simp only [fqC, frC, encM, hn, hms, hmd, hvv, b1, sg, brn, zS_f, e1, e2, Int.toNat_natCast, List.length_replicate, RS_, argsTM, stepE, stBuiltin, stBox, stAlloc, stLoad, stStore, stField, stExtract, stBin, stUn, stConv, stNilCheck, stFieldV, stIndex, stIndexAddr, stLen, stMin, stMax, stBuild, fillI, stBuildSlice, setRows, stMakeSlice, stAppend, srcR, segR, rdCells, stSlice, bnd, stArr, stCopy, stConv2, isIntV, cutR, byteRows, rowByte, binStr, Option.map_some, Option.map_none, eq_self, canTL, canT, canH, canL, patL, gcH, gcT, gcI, get_gcT, pullS, pullI, pushS, push1, pushI, pullHW, roC, ix, List.map_map, Function.comp_def, List.zip_cons_cons, List.zip_nil_left, List.zip_nil_right, List.range'_zero, List.range'_succ, rd, get, put, IV.cells, ofValue, seg, spl, ldIV, binInt, eqI, cellsEq, leafEq, resI, flat, isT, upd, up1, nextM, cR, ptrC, nAl, isAl, ST_, Nat.reduceAdd, Nat.reduceMul, Nat.reduceEqDiff, Nat.reduceLeDiff, ne_eq, reduceCtorEq, reduceIte, forall_const, implies_true, Int.reduceToNat, Int.reduceLE, Int.reduceLT, bne, Int.reduceEq, Int.reduceNe, Int.reduceNeg, Int.reduceAdd, Int.reduceSub, Int.reduceMul, Int.reduceBEq, Int.reduceBNe, Nat.reduceLT, Nat.reduceSub, WLS, Tryd.underlying23, Tryd.underlying3, Tryd.underlying5, Tryd.underlying53, ty_ag_23, ty_ag_4, ty_ag_42, ty_ag_5, ty_by_96, ty_ib_96, ty_of_42_0, ty_of_42_2, ty_of_42_5, ty_of_45_1, ty_of_45_2, ty_of_45_3, ty_of_45_4, ty_of_45_5, ty_ok_40, ty_ok_42, ty_pl_40_0, ty_pl_40_1, ty_pl_40_2, ty_pl_40_3, ty_pl_40_4, ty_pl_40_5, ty_pl_42_0, ty_pl_42_1, ty_pl_42_6, ty_pl_42_7, ty_st_9, ty_sz_23, ty_sz_4, ty_sz_40, ty_sz_42, ty_sz_5, ty_ze_40, ty_ze_42, ty_zs_96]
        | (with_reducible refine drawK_id ?_); refine drawK_auto hmix (by kernel_rfl) ?_
        | (with_reducible refine draw_fin ?_ ?_); · kernel_rfl
        | (with_reducible refine draw_id ?_); kernel_rfl
        | (with_reducible refine callD_id (f := 21) (args := [.s (.raw (.int .u64 ms))]) ?_); refine callD_of (f32 ms) rfl rfl ?_
        | (with_reducible refine callD_id (f := 21) (args := [.s (.raw (.int .u64 md))]) ?_); refine callD_of (f32 md) rfl rfl ?_
        | (with_reducible refine And.intro ?_ ?_; · omega)
end Go.Ev
