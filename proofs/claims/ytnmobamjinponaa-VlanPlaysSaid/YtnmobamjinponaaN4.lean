/- A part of the proof: contracts of the functions that the statement reaches. -/
import Derived.Test.YtnmobamjinponaaEvC
import Derived.Test.YtnmobamjinponaaN3
namespace Go.Ev
open Go.Proofs
set_option maxRecDepth 100000
set_option linter.unusedSimpArgs false
set_option linter.unusedVariables false
set_option maxHeartbeats 4000000
open Srt
theorem pwV (σ : List Nat) (L : List VEN) : List.map (fun x => List.map (pushS σ) (eV x)) L = List.map eV L := rfl
def e5 : VEN := ⟨5, 3, 2, 0⟩
theorem e5_set : setV 0 [] 5 3 2 = (0, 1, [e5]) := by
  have : goodV 5 3 2 = 0 := by kernel_rfl
  simp [setV, this, lookV, putV, e5]
theorem sp_1 : withP (withP 0 1) 2 = 3 := by kernel_rfl
theorem sp_2 : withP 0 2 = 2 := by kernel_rfl
theorem f10 : Fun Try.prog 10 [] (.s (.raw (.bool true))) := by
  refine fun_of rfl fun X => ?_
  have c11 := f11
  have c16 := f16 0 [] List.nodup_nil e5
  have c14 := f14 1 [e5] (by simp [NDkV]) 5
  have c18 := listW 1 [e5] (by simp) (by simp [NDkV])
  have o1 := f19b 1 2
  have o2 := f19 2
  rw [sp_1] at o1
  rw [sp_2] at o2
  rw [show setV 0 [] e5.v e5.m e5.u = (0, 1, [e5]) from e5_set, show eV e5 = [.raw (.int .u16 5), .raw (.int .u32 3), .raw (.int .u32 2)] from rfl] at c16
  rw [show lookV [e5] 5 = some e5 by simp [lookV, e5], show rowV (some e5) = [.raw (.int .u16 5), .raw (.int .u32 3), .raw (.int .u32 2)] from rfl] at c14
  simp only [Option.isSome_some, List.length_cons, List.length_nil] at c14 c18
  unfold tabV at *
  unfold kV at c14
  refine callK_inline (rs := [.tmp 0]) (n := 36) Try.func10 rfl rfl rfl (by kernel_rfl) (by kernel_rfl) (by simp only [List.length_cons, List.length_nil]; decide) ?_
  repeat' first
    | with_reducible rfl
    | simp only [List.length_map, push_V, pull_V, rwp1, clo_pull, clo_push, pw16, w16_push, RS_, argsTM, stepE, stBuiltin, stBox, stAlloc, stLoad, stStore, stField, stExtract, stBin, stUn, stConv, stNilCheck, stFieldV, stIndex, stIndexAddr, stLen, stMin, stMax, stBuild, fillI, stBuildSlice, setRows, stMakeSlice, stAppend, srcR, segR, rdCells, stSlice, bnd, stArr, stCopy, stConv2, isIntV, cutR, byteRows, rowByte, binStr, Option.map_some, Option.map_none, eq_self, canTL, canT, canH, canL, patL, gcH, gcT, gcI, get_gcT, pullS, pullI, pushS, push1, pushI, pullHW, roC, ix, List.map_map, Function.comp_def, List.zip_cons_cons, List.zip_nil_left, List.zip_nil_right, List.range'_zero, List.range'_succ, rd, get, put, IV.cells, ofValue, seg, spl, ldIV, binInt, eqI, cellsEq, leafEq, resI, flat, isT, upd, up1, nextM, cR, ptrC, nAl, isAl, ST_, Nat.reduceAdd, Nat.reduceMul, Nat.reduceEqDiff, Nat.reduceLeDiff, ne_eq, reduceCtorEq, reduceIte, forall_const, implies_true, Int.reduceToNat, Int.reduceLE, Int.reduceLT, bne, Int.reduceEq, Int.reduceNe, Int.reduceNeg, Int.reduceAdd, Int.reduceSub, Int.reduceMul, Int.reduceBEq, Int.reduceBNe, Nat.reduceLT, Nat.reduceSub, WLS, ty_ag_37, ty_eg_37, ty_lv_37, ty_ok_37, ty_pl_37_0, ty_pl_37_1, ty_pl_37_2, ty_sl_45, ty_sz_37, ty_ze_37, ty_zs_125]
    | (with_reducible refine drawK_id ?_); refine drawK_auto hmix (by kernel_rfl) ?_
    | (with_reducible refine draw_fin ?_ ?_); · kernel_rfl
    | (with_reducible refine draw_id ?_); kernel_rfl
    | ((with_reducible refine callK_id (f := 11) ?_); refine callK_funW [] [] (c11) (by simp [pullHW, roC, Function.comp_def, rows_pull, pullS, ix, push_V, pull_V, rwp1, clo_pull, clo_push, pw16, w16_push, pullI, push1, pushI, pushS, eV_pull]) rfl rfl (by decide) (by simp [ne_V]) (by simp [pullI, pullS, ix, kV, eV_def]) ?_; rintro r Hn ⟨rfl, rfl⟩ -; skip)
    | ((with_reducible refine callK_id (f := 19) (args := [.s (.slice _ 0 2)]) ?_); refine callK_funR [2] (r := .s (.raw (.int .u32 3))) (by simp [pullH, roC, pullI, pullS, ix]; exact o1) rfl ?_)
    | ((with_reducible refine callK_id (f := 19) (args := [.s (.slice _ 0 1)]) ?_); refine callK_funR [3] (r := .s (.raw (.int .u32 2))) (by simp [pullH, roC, pullI, pullS, ix]; exact o2) rfl ?_)
    | ((with_reducible refine callK_id (f := 16) ?_); refine callK_funW [] [0, 1] (c16) (by simp [pullHW, roC, Function.comp_def, rows_pull, pullS, ix, push_V, pull_V, rwp1, clo_pull, clo_push, pw16, w16_push, pullI, push1, pushI, pushS, eV_pull]) rfl rfl (by decide) (by simp [ne_V]) (by simp [pullI, pullS, ix, kV, eV_def]) ?_; rintro r Hn ⟨rfl, rfl⟩ -; skip)
    | ((with_reducible refine callK_id (f := 14) ?_); refine callK_funW [] [0, 1] (c14) (by simp [pullHW, roC, Function.comp_def, rows_pull, pullS, ix, push_V, pull_V, rwp1, clo_pull, clo_push, pw16, w16_push, pullI, push1, pushI, pushS, eV_pull]) rfl rfl (by decide) (by simp [ne_V]) (by simp [pullI, pullS, ix, kV, eV_def]) ?_; rintro r Hn ⟨rfl, rfl⟩ -; skip)
    | ((with_reducible refine callK_id (f := 18) ?_); refine callK_funW [] [0, 1] (c18) (by simp [pullHW, roC, Function.comp_def, rows_pull, pullS, ix, push_V, pull_V, rwp1, clo_pull, clo_push, pw16, w16_push, pullI, push1, pushI, pushS, eV_pull]) rfl rfl (by decide) (by simp [ne_V]) (by simp [pullI, pullS, ix, kV, eV_def]) ?_; rintro r Hn ⟨rfl, rfl⟩ -; skip)
    | (with_reducible refine And.intro ?_ ?_; · omega)
end Go.Ev
