/- A part of the proof: contracts of the functions that the statement reaches. -/
import Derived.Test.YtnmobamjinponaaEvC
import Derived.Test.YtnmobamjinponaaQ8
namespace Go.Ev
open Go.Proofs
set_option maxRecDepth 100000
set_option linter.unusedSimpArgs false
set_option linter.unusedVariables false
set_option maxHeartbeats 4000000
theorem bl16 : ∀ k : Fin 17, k.val ≤ Lib.bitLen k.val + 12 ∧ Lib.bitLen k.val ≤ 100 := by decide +kernel
/-- slices.Sort of at most 16 different numbers: the same ones, in order. -/
theorem sortW (L : List Int) (hnd : L.Nodup) (h16 : L.length ≤ 16) : FunW Try.prog 78 [] [.rows true 1 (L.map w16)] [.s (.slice 0 0 L.length)] fun r Hn => r = .t [] ∧ ∃ M, M.Perm L ∧ Asc M 0 L.length ∧ Hn = [.rows true 1 (M.map w16)] := by
  refine funW_of fun X => ?_
  have w1 : IntKind.u64.wrap (L.length : Int) = (L.length : Int) := by simp [IntKind.wrap, IntKind.signed, IntKind.bits]; omega
  have cl := lenW (L.length : Int) (by omega) (by omega)
  have hb := bl16 ⟨L.length, by omega⟩
  simp only at hb
  rw [Int.toNat_natCast] at cl
  have cq := pdqW L hnd h16 (Lib.bitLen L.length) hb.1 hb.2
  refine callK_inline (rs := []) (n := 11) Try.func78 rfl rfl rfl (by kernel_rfl) (by kernel_rfl) (by simp only [List.length_cons, List.length_nil]; decide) ?_
  repeat' first
    | with_reducible rfl
    | simp only [w1, pw16, Int.toNat_natCast, List.length_map, RS_, argsTM, stepE, stBuiltin, stBox, stAlloc, stLoad, stStore, stField, stExtract, stBin, stUn, stConv, stNilCheck, stFieldV, stIndex, stIndexAddr, stLen, stMin, stMax, stBuild, fillI, stBuildSlice, setRows, stMakeSlice, stAppend, srcR, segR, rdCells, stSlice, bnd, stArr, stCopy, stConv2, isIntV, cutR, byteRows, rowByte, binStr, Option.map_some, Option.map_none, eq_self, canTL, canT, canH, canL, patL, gcH, gcT, gcI, get_gcT, mapC, pullS, pullI, pushS, push1, pushI, pushC, pullHW, roC, ix, List.map_map, Function.comp_def, List.zip_cons_cons, List.zip_nil_left, List.zip_nil_right, List.range'_zero, List.range'_succ, rd, get, put, IV.cells, ofValue, seg, spl, ldIV, binInt, eqI, cellsEq, leafEq, resI, flat, isT, upd, up1, nextM, cR, ptrC, nAl, isAl, ST_, Nat.reduceAdd, Nat.reduceMul, Nat.reduceEqDiff, Nat.reduceLeDiff, ne_eq, reduceCtorEq, reduceIte, forall_const, implies_true, Int.reduceToNat, Int.reduceLE, Int.reduceLT, bne, Int.reduceEq, Int.reduceNe, Int.reduceNeg, Int.reduceAdd, Int.reduceSub, Int.reduceMul, Int.reduceBEq, Int.reduceBNe, Nat.reduceLT, Nat.reduceSub, WLS, Try.underlying161, Try.underlying3, ty_sl_120]
    | (with_reducible refine drawK_id ?_); refine drawK_auto hmix (by kernel_rfl) ?_
    | (with_reducible refine draw_fin ?_ ?_); · kernel_rfl
    | (with_reducible refine draw_id ?_); kernel_rfl
    | ((with_reducible refine callK_id (f := 84) ?_); refine callK_fun cl rfl rfl ?_)
    | ((with_reducible refine callK_id (f := 95) ?_); refine callK_funW [] [0] (cq) (by simp [pullHW, roC, Function.comp_def, rows_pull, pullS, ix, w16_pull] <;> (intros; rfl)) rfl rfl (by decide) (by simp) (by simp [pullI, pullS, ix]) ?_; rintro r Hn ⟨rfl, M, hM, hA, rfl⟩ -; skip)
    | (refine ⟨_, _, (WkR.gc [0] rfl (by decide)).to ?_ ?_, by simp, rfl, M, hM.perm, hA, rfl⟩ <;> (first | (simp [gcI, pullI, pullS]; done) | (simp [Function.comp_def, get_gcT, get, put, gcI, pullI, pullS, gcH, patL, canL, canH, canTL, canT, rows_pull, ix, w16_pull, rwp1, pw16, w16_push]; done)))
    | (with_reducible refine And.intro ?_ ?_; · omega)
end Go.Ev
