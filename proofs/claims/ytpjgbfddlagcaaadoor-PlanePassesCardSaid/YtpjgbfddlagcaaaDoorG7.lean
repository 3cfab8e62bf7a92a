/- A part of the proof: contracts of the functions that the statement reaches. -/
import Derived.Test.YtpjgbfddlagcaaaDoorEvC
import Derived.Test.YtpjgbfddlagcaaaDoorG6
namespace Go.Ev
open Go.Proofs
set_option maxRecDepth 100000
set_option linter.unusedSimpArgs false
set_option linter.unusedVariables false
set_option maxHeartbeats 4000000
theorem eR_len (e : EN) : (eR e).length = 9 := rfl
theorem pull_one (σ : List Nat) (e : EN) : (eR e).map (pullS σ) = eR e := rfl
theorem push_one (σ : List Nat) (e : EN) : (eR e).map (pushS σ) = eR e := rfl
theorem mE_fold (e : EN) : (IV.a (kC e.k), IV.a [.raw (.int .i64 e.p), .raw (.int .i64 e.g)], (mE e).2.2) = mE e := rfl
theorem srt_len (L : List EN) : (srt L).length = L.length := by simp [srt]
theorem f65 (m l : Int) (clock : Nat) (L : List EN) (hs : NDs L) (hc : ∀ e ∈ L, e.s < clock) (h1 : 1 ≤ L.length) (hb : L.length ≤ 100000) (hS : SortOK L) : FunW Tryd.prog 32 [] [fdbC m l, mpC clock L] [.s (.ptr 0 0 0)] fun r Hn => r = .a (eR (minL (srt L))) ∧ Hn = [fdbC m l, mpC clock L] := by
  refine funW_of fun X => ?_
  have c37 := f37 m l clock L hs hc hb hS
  have c89 := f89 (srt L) (by rw [srt_len]; exact h1) (by rw [srt_len]; exact hb)
  rw [srt_len] at c89
  unfold fdbC mpC at c37 ⊢
  refine callK_inline (rs := [.cell 2 67]) (n := 8) Tryd.func32 rfl rfl rfl (by kernel_rfl) (by kernel_rfl) (by simp only [List.length_cons, List.length_nil]; decide) ?_
  repeat' first
    | with_reducible rfl
    | simp only [push_one, pull_one, kC_push, kC_pull, mE_k, mE_v, mE_fold, eR_len, RS_, argsTM, stepE, stBuiltin, stBox, stAlloc, stLoad, stStore, stField, stExtract, stBin, stUn, stConv, stNilCheck, stFieldV, stIndex, stIndexAddr, stLen, stMin, stMax, stBuild, fillI, stBuildSlice, setRows, stMakeSlice, stAppend, srcR, segR, rdCells, stSlice, bnd, stArr, stCopy, stConv2, isIntV, cutR, byteRows, rowByte, binStr, Option.map_some, Option.map_none, eq_self, canTL, canT, canH, canL, patL, gcH, gcT, gcI, get_gcT, mapC, pullS, pullI, pushS, push1, pushI, pushC, pullHW, roC, ix, List.map_map, Function.comp_def, List.zip_cons_cons, List.zip_nil_left, List.zip_nil_right, List.range'_zero, List.range'_succ, rd, get, put, IV.cells, ofValue, seg, spl, ldIV, binInt, eqI, cellsEq, leafEq, resI, flat, isT, upd, up1, nextM, cR, ptrC, nAl, isAl, ST_, Nat.reduceAdd, Nat.reduceMul, Nat.reduceEqDiff, Nat.reduceLeDiff, ne_eq, reduceCtorEq, reduceIte, forall_const, implies_true, Int.reduceToNat, Int.reduceLE, Int.reduceLT, bne, Int.reduceEq, Int.reduceNe, Int.reduceNeg, Int.reduceAdd, Int.reduceSub, Int.reduceMul, Int.reduceBEq, Int.reduceBNe, Nat.reduceLT, Nat.reduceSub, WLS, ty_ag_67, ty_sz_67, ty_ze_67]
    | with_reducible refine gdb_split (fun h => ?_) (fun h => ?_)
    | (with_reducible refine drawK_id ?_); refine drawK_auto hmix (by kernel_rfl) ?_
    | (with_reducible refine draw_fin ?_ ?_); · kernel_rfl
    | (with_reducible refine draw_id ?_); kernel_rfl
    | ((with_reducible refine callK_id (f := 20) ?_); refine callK_funW [] [0, 1] (c37) (by simp [pullHW, rows_pull, map_pull, pullS, ix]) rfl rfl (by decide) (by simp) (by simp [pullI, pullS, ix]) ?_; rintro r Hn ⟨rfl, rfl⟩ -; skip)
    | (with_reducible refine And.intro ?_ ?_; · omega)
  refine callK_funR [3] (r := .a (eR (minL (srt L)))) (by simp only [pullH, List.map_cons, List.map_nil, List.getElem?_cons_zero, List.getElem?_cons_succ, Option.getD_some, roC, pull_eR]; exact c89) rfl ?_
  repeat' first
    | with_reducible rfl
    | simp only [push_one, pull_one, kC_push, kC_pull, mE_k, mE_v, mE_fold, eR_len, RS_, argsTM, stepE, stBuiltin, stBox, stAlloc, stLoad, stStore, stField, stExtract, stBin, stUn, stConv, stNilCheck, stFieldV, stIndex, stIndexAddr, stLen, stMin, stMax, stBuild, fillI, stBuildSlice, setRows, stMakeSlice, stAppend, srcR, segR, rdCells, stSlice, bnd, stArr, stCopy, stConv2, isIntV, cutR, byteRows, rowByte, binStr, Option.map_some, Option.map_none, eq_self, canTL, canT, canH, canL, patL, gcH, gcT, gcI, get_gcT, mapC, pullS, pullI, pushS, push1, pushI, pushC, pullHW, roC, ix, List.map_map, Function.comp_def, List.zip_cons_cons, List.zip_nil_left, List.zip_nil_right, List.range'_zero, List.range'_succ, rd, get, put, IV.cells, ofValue, seg, spl, ldIV, binInt, eqI, cellsEq, leafEq, resI, flat, isT, upd, up1, nextM, cR, ptrC, nAl, isAl, ST_, Nat.reduceAdd, Nat.reduceMul, Nat.reduceEqDiff, Nat.reduceLeDiff, ne_eq, reduceCtorEq, reduceIte, forall_const, implies_true, Int.reduceToNat, Int.reduceLE, Int.reduceLT, bne, Int.reduceEq, Int.reduceNe, Int.reduceNeg, Int.reduceAdd, Int.reduceSub, Int.reduceMul, Int.reduceBEq, Int.reduceBNe, Nat.reduceLT, Nat.reduceSub, WLS, ty_ag_67, ty_sz_67, ty_ze_67]
    | with_reducible refine gdb_split (fun h => ?_) (fun h => ?_)
    | (with_reducible refine drawK_id ?_); refine drawK_auto hmix (by kernel_rfl) ?_
    | (with_reducible refine draw_fin ?_ ?_); · kernel_rfl
    | (with_reducible refine draw_id ?_); kernel_rfl
    | exact ⟨_, _, WkR.gc [0, 1] rfl (by decide), by simp [gcH], by simp [gcI, pullI, pull_one], by simp [gcH, rows_pull, pullS, ix, mapC, pullI, kC_pull, mE_k, mE_v, mE_fold]⟩
    | (with_reducible refine And.intro ?_ ?_; · omega)
end Go.Ev
