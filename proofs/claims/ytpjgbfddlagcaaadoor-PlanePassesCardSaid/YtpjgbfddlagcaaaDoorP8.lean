/- A part of the proof: contracts of the functions that the statement reaches. -/
import Derived.Test.YtpjgbfddlagcaaaDoorEvC
import Derived.Test.YtpjgbfddlagcaaaDoorP7
namespace Go.Ev
open Go.Proofs
set_option maxRecDepth 100000
set_option linter.unusedSimpArgs false
set_option linter.unusedVariables false
set_option maxHeartbeats 4000000
open Srt Go.RowKit
def spL : List PRT := [⟨1, 0, false, 0, 0, false, true, true, false, false, 0, 2, 0, 0, 0, 0, 0, 0, 0, 0, 0⟩, ⟨1, 0, false, 0, 0, false, true, true, false, false, 0, 2, 0, 0, 0, 0, 0, 0, 0, 0, 0⟩, ⟨1, 0, false, 0, 0, false, true, true, false, false, 0, 1, 0, 0, 0, 0, 0, 0, 0, 0, 0⟩]
def spF : FRM := ⟨fromC 6, fromC 4, false, 0, false, 0, 2048, ⟨#[]⟩⟩
def spV : List VEN := [⟨1, 7, 7, 0⟩, ⟨2, 0, 0, 1⟩, ⟨3, 0, 0, 2⟩]
theorem sp1 : setV 0 [] 1 7 7 = (0, 1, [⟨1, 7, 7, 0⟩]) := by kernel_rfl
theorem sp2 : setV 1 [⟨1, 7, 7, 0⟩] 2 0 0 = (0, 2, [⟨1, 7, 7, 0⟩, ⟨2, 0, 0, 1⟩]) := by kernel_rfl
theorem sp3 : setV 2 [⟨1, 7, 7, 0⟩, ⟨2, 0, 0, 1⟩] 3 0 0 = (0, 3, spV) := by kernel_rfl
theorem spP : passC spV [] 4 0 [] spL 1 spF = ((1, [⟨⟨1, fromC 4⟩, 1, 0, 0⟩]), ⟨7, true, false, [(2, spF)]⟩) := by kernel_rfl
theorem speaksG (o : Obj) (ho : ∃ t z, o = .cells #[.int .i64 0, .int .i64 3, .int .i64 4, .int .i64 5] t z) : FunG 0 o Tryd.prog 5 [] [] [] fun r Hn => r = .s (.raw (.bool true)) ∧ Hn = [] := by
  refine funG_of rfl fun X hG => ?_
  have hw3 : IntKind.i64.wrap (1 + IntKind.i64.wrap 3) = 4 := by decide
  have c11 := f11
  have c21 := f21
  have c33 := f33 4 20
  rw [show mostI 4 = 4 by decide, show liveI 20 = 20 by decide] at c33
  have c1 := f16 0 [] List.nodup_nil ⟨1, 7, 7, 0⟩
  have c2 := f16 1 [⟨1, 7, 7, 0⟩] (by simp [NDkV]) ⟨2, 0, 0, 0⟩
  have c3 := f16 2 [⟨1, 7, 7, 0⟩, ⟨2, 0, 0, 1⟩] (by simp [NDkV]) ⟨3, 0, 0, 0⟩
  simp only [sp1] at c1
  simp only [sp2] at c2
  simp only [sp3] at c3
  have cP := passW 3 spV 0 [] 4 20 0 [] (by simp [NDkV, spV]) List.nodup_nil ⟨List.nodup_nil, List.nodup_nil, by simp, by simp, by simp, by simp, by simp⟩ (by decide) (by decide) (by decide) spL (by simp [spL]) 1 spF (by simp [spF]; decide) (fun vid => from_ok 4 vid) o ho
  rw [spP] at cP
  unfold tabV at c1 c2 c3 c11
  unfold tabC at c21
  unfold fdbC at c33
  unfold resP HP rC at cP
  simp only [eV] at c1 c2 c3
  simp only [List.length_cons, List.length_nil, Nat.reduceAdd] at cP
  refine callK_inline (rs := [.tmp 0]) (n := 51) Tryd.func5 rfl rfl rfl (by kernel_rfl) (by kernel_rfl) (by simp only [List.length_cons, List.length_nil]; decide) ?_
  repeat' first
    | with_reducible rfl
    | simp only [stC, frC, spF, hw3, e_loopN, kV, encM, push_mV, push_mS, push_mE, rows_push1, push_one, pull_one, kC_push, kC_pull, kC_len, eR_len, eV_len, eV_pull, eV_push, RS_, argsTM, stepE, stBuiltin, stBox, stAlloc, stLoad, stStore, stField, stExtract, stBin, stUn, stConv, stNilCheck, stFieldV, stIndex, stIndexAddr, stLen, stMin, stMax, stBuild, fillI, stBuildSlice, setRows, stMakeSlice, stAppend, srcR, segR, rdCells, stSlice, bnd, stArr, stCopy, stConv2, isIntV, cutR, byteRows, rowByte, binStr, Option.map_some, Option.map_none, eq_self, canTL, canT, canH, canL, patL, gcH, gcT, gcI, get_gcT, pullS, pullI, pushS, push1, pushI, pullHW, roC, ix, List.map_map, Function.comp_def, List.zip_cons_cons, List.zip_nil_left, List.zip_nil_right, List.range'_zero, List.range'_succ, rd, get, put, IV.cells, ofValue, seg, spl, ldIV, binInt, eqI, cellsEq, leafEq, resI, flat, isT, upd, up1, nextM, cR, ptrC, nAl, isAl, ST_, Nat.reduceAdd, Nat.reduceMul, Nat.reduceEqDiff, Nat.reduceLeDiff, ne_eq, reduceCtorEq, reduceIte, forall_const, implies_true, Int.reduceToNat, Int.reduceLE, Int.reduceLT, bne, Int.reduceEq, Int.reduceNe, Int.reduceNeg, Int.reduceAdd, Int.reduceSub, Int.reduceMul, Int.reduceBEq, Int.reduceBNe, Nat.reduceLT, Nat.reduceSub, WLS, Tryd.underlying23, Tryd.underlying3, Tryd.underlying5, Tryd.underlying53, Tryd.underlying70, ty_ag_22, ty_ag_23, ty_ag_26, ty_ag_3, ty_ag_31, ty_ag_32, ty_ag_35, ty_ag_4, ty_ag_46, ty_ag_5, ty_ag_86, ty_ar_24, ty_ar_25, ty_by_36, ty_of_29_0, ty_of_29_1, ty_of_29_2, ty_of_29_3, ty_of_35_0, ty_of_35_1, ty_of_42_6, ty_of_48_0, ty_of_48_1, ty_of_48_2, ty_of_81_0, ty_of_81_1, ty_of_86_0, ty_of_86_1, ty_of_86_2, ty_of_86_3, ty_of_86_4, ty_ok_24, ty_ok_25, ty_ok_29, ty_ok_35, ty_ok_42, ty_ok_51, ty_ok_58, ty_ok_63, ty_ok_73, ty_ok_86, ty_ok_95, ty_pl_24_0, ty_pl_24_1, ty_pl_25_0, ty_pl_29_0, ty_pl_29_1, ty_pl_29_3, ty_pl_35_0, ty_pl_35_1, ty_pl_35_2, ty_pl_42_0, ty_pl_42_1, ty_pl_42_6, ty_pl_51_0, ty_pl_51_1, ty_pl_51_2, ty_pl_58_0, ty_pl_58_4, ty_pl_58_5, ty_pl_58_9, ty_pl_63_0, ty_pl_63_1, ty_pl_73_0, ty_pl_73_1, ty_pl_73_2, ty_pl_86_1, ty_pl_95_0, ty_pl_95_1, ty_sl_22, ty_sl_26, ty_sl_46, ty_sr_36, ty_sz_22, ty_sz_23, ty_sz_26, ty_sz_3, ty_sz_31, ty_sz_32, ty_sz_35, ty_sz_4, ty_sz_46, ty_sz_48, ty_sz_5, ty_sz_86, ty_ze_24, ty_ze_25, ty_ze_29, ty_ze_35, ty_ze_42, ty_ze_48, ty_ze_51, ty_ze_58, ty_ze_63, ty_ze_73, ty_ze_86, ty_ze_95, ty_zs_22, ty_zs_36]
    | (with_reducible refine drawK_id (id := 1) ?_); refine drawK_of 7 hmix (by kernel_rfl) ?_
    | (with_reducible refine drawK_id (id := 2) ?_); refine drawK_of 2 hmix (by kernel_rfl) ?_
    | (with_reducible refine drawK_id ?_); refine drawK_auto hmix (by kernel_rfl) ?_
    | (with_reducible refine draw_fin ?_ ?_); · kernel_rfl
    | (with_reducible refine draw_id ?_); kernel_rfl
    | (with_reducible refine callD_id (f := 21) (args := [.s (.raw (.int .u64 4))]) ?_); refine callD_of (f32 4) rfl rfl ?_
    | (with_reducible refine callD_id (f := 21) (args := [.s (.raw (.int .u64 6))]) ?_); refine callD_of (f32 6) rfl rfl ?_
    | (with_reducible refine loopK_id ?_); refine loopK_n 4 (by kernel_rfl) ?_
    | (with_reducible refine callK_id (f := 6) ?_); refine callK_inline (rs := [.cell 2 35, .tmp 3]) (n := 121) Tryd.func6 rfl rfl rfl (by kernel_rfl) (by kernel_rfl) (by simp only [List.length_cons, List.length_nil]; decide) ?_
    | ((with_reducible refine callD_id (f := 22) ?_); refine callD_new (Hw' := []) (Nw := [.rows true 1 [[.ref 1]], mpV 0 []]) [] [] (FunW_eq c11) (by simp [pullHW, roC, Function.comp_def, rows_pull, pullS, ix, pull_mV, pull_mS, pull_mE]) rfl rfl (by decide) (by simp [ne_mV, ne_mS, ne_mE]) (by simp [pullI, pullS, ix, kC_pull, kV, kC, encM] <;> decide +kernel) (by simp) ?_)
    | ((with_reducible refine callD_id (f := 23) ?_); refine callD_new (Hw' := []) (Nw := [.rows true 1 [[.ref 1]], mpS 0 []]) [] [] (FunW_eq c21) (by simp [pullHW, roC, Function.comp_def, rows_pull, pullS, ix, pull_mV, pull_mS, pull_mE]) rfl rfl (by decide) (by simp [ne_mV, ne_mS, ne_mE]) (by simp [pullI, pullS, ix, kC_pull, kV, kC, encM] <;> decide +kernel) (by simp) ?_)
    | ((with_reducible refine callD_id (f := 24) ?_); refine callD_new (Hw' := []) (Nw := [.rows true 3 [[.raw (.int .i64 4), .raw (.int .i64 20), .ref 1]], mpC 0 []]) [] [] (FunW_eq c33) (by simp [pullHW, roC, Function.comp_def, rows_pull, pullS, ix, pull_mV, pull_mS, pull_mE]) rfl rfl (by decide) (by simp [ne_mV, ne_mS, ne_mE]) (by simp [pullI, pullS, ix, kC_pull, kV, kC, encM] <;> decide +kernel) (by simp) ?_)
    | ((refine callD_idM (f := 25) (c := 4) (ch := mpV 0 []) rfl ?_); refine callD_new (Hw' := [.rows true 1 [[.ref 1]], mpV 1 [⟨1, 7, 7, 0⟩]]) (Nw := []) [] [3, 4] (FunW_eq c1) (by simp [pullHW, roC, Function.comp_def, rows_pull, pullS, ix, pull_mV, pull_mS, pull_mE]) rfl rfl (by decide) (by simp [ne_mV, ne_mS, ne_mE]) (by simp [pullI, pullS, ix, kC_pull, kV, kC, encM] <;> decide +kernel) (by simp) ?_)
    | ((refine callD_idM (f := 25) (c := 4) (ch := mpV 1 [⟨1, 7, 7, 0⟩]) rfl ?_); refine callD_new (Hw' := [.rows true 1 [[.ref 1]], mpV 2 [⟨1, 7, 7, 0⟩, ⟨2, 0, 0, 1⟩]]) (Nw := []) [] [3, 4] (FunW_eq c2) (by simp [pullHW, roC, Function.comp_def, rows_pull, pullS, ix, pull_mV, pull_mS, pull_mE]) rfl rfl (by decide) (by simp [ne_mV, ne_mS, ne_mE]) (by simp [pullI, pullS, ix, kC_pull, kV, kC, encM] <;> decide +kernel) (by simp) ?_)
    | ((refine callD_idM (f := 25) (c := 4) (ch := mpV 2 [⟨1, 7, 7, 0⟩, ⟨2, 0, 0, 1⟩]) rfl ?_); refine callD_new (Hw' := [.rows true 1 [[.ref 1]], mpV 3 spV]) (Nw := []) [] [3, 4] (FunW_eq c3) (by simp [pullHW, roC, Function.comp_def, rows_pull, pullS, ix, pull_mV, pull_mS, pull_mE]) rfl rfl (by decide) (by simp [ne_mV, ne_mS, ne_mE]) (by simp [pullI, pullS, ix, kC_pull, kV, kC, encM] <;> decide +kernel) (by simp) ?_)
    | ((with_reducible refine callD_id (f := 8) ?_); refine callD_newG (Hw' := [.rows true 1 [[.ref 2]], mpV 3 spV, .rows true 1 [[.ref 4]], mpS 0 [], .rows true 3 [[.raw (.int .i64 4), .raw (.int .i64 20), .ref 6]], mpC 1 [⟨⟨1, fromC 4⟩, 1, 0, 0⟩]]) (Nw := [.rows true 19 [stC (2, spF)]]) (hG.at 0) [27] [3, 4, 5, 6, 7, 8] cP (by simp [pullHW, roC, Function.comp_def, rows_pull, pullS, ix, spL, prC, pull_mV, pull_mS, pull_mE] <;> decide +kernel) rfl rfl (by decide) (by simp [ne_mV, ne_mS, ne_mE]) (by simp [pullI, pullS, ix, spL, frC, spF]) (by simp) ?_)
    | (with_reducible refine And.intro ?_ ?_; · omega)
  exact ⟨_, [], (WkR.gc [] rfl (by decide)).to rfl rfl, by simp, rfl, rfl⟩
end Go.Ev
