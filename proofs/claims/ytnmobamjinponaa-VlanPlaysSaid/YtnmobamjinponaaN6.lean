/- A part of the proof: contracts of the functions that the statement reaches. -/
import Derived.Test.YtnmobamjinponaaEvC
import Derived.Test.YtnmobamjinponaaN5
namespace Go.Ev
open Go.Proofs
set_option maxRecDepth 100000
set_option linter.unusedSimpArgs false
set_option linter.unusedVariables false
set_option maxHeartbeats 4000000
open Srt
structure ACV where
  w : Int
  v : Int
  m : Int
  u : Int
  deriving Inhabited
def encA (x : ACV) : List SV := [.raw (.int .u16 x.w), .raw (.int .u16 x.v), .raw (.int .u32 x.m), .raw (.int .u32 x.u)]
theorem pull_acv (σ : List Nat) (x : ACV) : (encA x).map (pullS σ) = encA x := rfl
theorem f18S {clock : Nat} {L R : List VEN} (h : STV L R) : FunW Try.prog 18 [] [tabV, mpV clock L] [.s (.ptr 0 0 0)] fun r Hn => r = .s (.slice 2 0 R.length) ∧ Hn = [tabV, mpV clock L, .rows true 3 (R.map eV)] := by
  have := listW clock L h.len h.k
  rw [h.rows, ← h.lenR] at this
  exact this
def tab2 : Chunk := .rows true 1 [[.ref 2]]
def H3 (xs : List ACV) (clock : Nat) (L R : List VEN) : Heap := [.rows false 4 (xs.map encA), tab2, mpV clock L, .rows true 3 (R.map eV)]
def I3 (xs : List ACV) (mm : Nat) (tm : TM) (H : Heap) : Prop := ∃ (i clock : Nat) (L R : List VEN), mm = xs.length - i ∧ i ≤ xs.length ∧ STV L R ∧ get tm 0 = .s (.slice 0 0 xs.length) ∧ get tm 3 = .s (.ptr 1 0 0) ∧ get tm 4 = .s (.slice 3 0 R.length) ∧ get tm 5 = .s (.raw (.int .i64 (i : Int))) ∧ H = H3 xs clock L R
def I3b (xs : List ACV) (clock : Nat) (L R : List VEN) (mm : Nat) (tm : TM) (H : Heap) : Prop := ∃ j : Nat, mm = R.length - j ∧ j ≤ R.length ∧ get tm 4 = .s (.slice 3 0 R.length) ∧ get tm 12 = .s (.slice 4 0 R.length) ∧ get tm 13 = .s (.raw (.int .i64 (j : Int))) ∧ H = H3 xs clock L R ++ [.rows true 3 (R.map eV)]
theorem law3 (xs : List ACV) (has : ∀ x ∈ xs, 0 ≤ x.m ∧ 0 ≤ x.u) : FunR Try.prog 3 [.rows false 4 (xs.map encA)] [.s (.slice 0 0 xs.length)] (.s (.raw (.bool true))) := by
  refine funR_of rfl fun X => ?_
  have c11 := f11
  unfold tabV at c11
  refine callK_inline (rs := [.tmp 2]) (n := 175) Try.func3 rfl rfl rfl (by kernel_rfl) (by kernel_rfl) (by simp only [List.length_cons, List.length_nil]; decide) ?_
  repeat' first
    | with_reducible rfl
    | simp only [List.length_map, push_V, pull_V, rwp1, clo_pull, clo_push, pw16, w16_push, RS_, argsTM, stepE, stBuiltin, stBox, stAlloc, stLoad, stStore, stField, stExtract, stBin, stUn, stConv, stNilCheck, stFieldV, stIndex, stIndexAddr, stLen, stMin, stMax, stBuild, fillI, stBuildSlice, setRows, stMakeSlice, stAppend, srcR, segR, rdCells, stSlice, bnd, stArr, stCopy, stConv2, isIntV, cutR, byteRows, rowByte, binStr, Option.map_some, Option.map_none, eq_self, canTL, canT, canH, canL, patL, gcH, gcT, gcI, get_gcT, pullS, pullI, pushS, push1, pushI, pullHW, roC, ix, List.map_map, Function.comp_def, List.zip_cons_cons, List.zip_nil_left, List.zip_nil_right, List.range'_zero, List.range'_succ, rd, get, put, IV.cells, ofValue, seg, spl, ldIV, binInt, eqI, cellsEq, leafEq, resI, flat, isT, upd, up1, nextM, cR, ptrC, nAl, isAl, ST_, Nat.reduceAdd, Nat.reduceMul, Nat.reduceEqDiff, Nat.reduceLeDiff, ne_eq, reduceCtorEq, reduceIte, forall_const, implies_true, Int.reduceToNat, Int.reduceLE, Int.reduceLT, bne, Int.reduceEq, Int.reduceNe, Int.reduceNeg, Int.reduceAdd, Int.reduceSub, Int.reduceMul, Int.reduceBEq, Int.reduceBNe, Nat.reduceLT, Nat.reduceSub, WLS, Try.underlying4, ty_ag_27, ty_ag_28, ty_ag_30, ty_ag_35, ty_ag_37, ty_ag_42, ty_eg_37, ty_eg_42, ty_lv_37, ty_lv_42, ty_of_30_0, ty_of_30_1, ty_of_30_2, ty_of_30_3, ty_of_37_0, ty_of_37_1, ty_of_37_2, ty_of_42_0, ty_of_42_1, ty_of_42_2, ty_ok_37, ty_ok_42, ty_pl_37_0, ty_pl_37_1, ty_pl_37_2, ty_pl_42_0, ty_pl_42_1, ty_pl_42_2, ty_sl_22, ty_sl_26, ty_sl_45, ty_sz_27, ty_sz_28, ty_sz_30, ty_sz_35, ty_sz_37, ty_sz_42, ty_ze_30, ty_ze_37, ty_ze_42]
    | (with_reducible refine drawK_id ?_); refine drawK_auto hmix (by kernel_rfl) ?_
    | (with_reducible refine draw_fin ?_ ?_); · kernel_rfl
    | (with_reducible refine draw_id ?_); kernel_rfl
    | (with_reducible refine callK_id (f := 10) ?_); refine callK_fun (f10) rfl rfl ?_
    | ((with_reducible refine callK_id (f := 11) ?_); refine callK_funW [] [] (c11) (by simp [pullHW, roC, Function.comp_def, rows_pull, pullS, ix, push_V, pull_V, rwp1, clo_pull, clo_push, pw16, w16_push, pullI, push1, pushI, pushS, eV_pull]) rfl rfl (by decide) (by simp [ne_V]) (by simp [pullI, pullS, ix, kV, eV_def]) ?_; rintro r Hn ⟨rfl, rfl⟩ -; skip)
    | (with_reducible refine And.intro ?_ ?_; · omega)
  refine loopK_wk (by kernel_rfl) (I3 xs) xs.length ⟨_, _, Wk.can2 [(3, 4)] [] [.inl 0, .inl 1, .inl 2, .inr 0] rfl (by simp [patL]), 0, 0, [], [], by omega, by omega, STV.init, by simp [Function.comp_def, get_gcT, get, put, gcI, pullI, pullS, gcH, patL, canL, canH, canTL, canT, rows_pull, ix, segR], by simp [Function.comp_def, get_gcT, get, put, gcI, pullI, pullS, gcH, patL, canL, canH, canTL, canT, rows_pull, ix, segR], by simp [Function.comp_def, get_gcT, get, put, gcI, pullI, pullS, gcH, patL, canL, canH, canTL, canT, rows_pull, ix, segR], by simp [Function.comp_def, get_gcT, get, put, gcI, pullI, pullS, gcH, patL, canL, canH, canTL, canT, rows_pull, ix, segR], ?_⟩ ?_
  · simp [Function.comp_def, get_gcT, get, put, gcI, pullI, pullS, gcH, patL, canL, canH, canTL, canT, rows_pull, ix, segR, H3, tab2, pull_V, pull_acv]
  rintro mm tm H ⟨i, clock, L, R, rfl, hi, hst, g0, g3, g4, g5, rfl⟩
  have hR1 : R.length ≤ 100000 := by rw [hst.lenR]; have := hst.len; omega
  unfold H3 tab2
  by_cases hq : i < xs.length ∧ i < 50
  · have q1 : decide ((i : Int) < (xs.length : Int)) = true := decide_eq_true (by omega)
    have q2 : decide ((i : Int) < 50) = true := decide_eq_true (by omega)
    have z0 : (0 : Int) ≤ (i : Int) := by omega
    have z1 : (i : Int) < (xs.length : Int) := by omega
    have hi1 : IntKind.i64.wrap ((i : Int) + 1) = ((i + 1 : Nat) : Int) := by rw [wr_i64 (by omega) (by omega)]; rfl
    obtain ⟨x, hx⟩ : ∃ x, xs[i]? = some x := ⟨_, List.getElem?_eq_getElem hq.1⟩
    have hel : (xs.map encA)[i]? = some (encA x) := by rw [List.getElem?_map, hx]; rfl
    obtain ⟨hxm, hxu⟩ := has x (List.mem_of_getElem? hx)
    have hll : True := trivial
    cases e3 : (Int.tmod x.w 5 == 3) with
    | true =>
      have c12 := f12 clock L hst.k x.v
      unfold tabV kV at c12
      rcases hst.look x.v with ⟨h1, h2, h3⟩ | ⟨j, y, l1, l2, h1, hj, h2, hy, hL, hk, h3⟩
      · have c13 := f13_no R hR1 x.v h1
        rw [h2, show delV L x.v = L from filterV_off _ L (fun y hy he => h3 (zV y) (hst.rp.mem_iff.2 (List.mem_map.2 ⟨y, hy, rfl⟩)) he)] at c12
        simp only [Option.isSome_none, Bool.false_eq_true, if_false] at c12
        unfold rV kV at c13
        repeat' first
          | with_reducible rfl
          | simp only [q1, q2, z0, z1, hi1, hel, List.length_map, Int.toNat_natCast, encA, g0, g3, g4, g5, pwV, eV_pull, eV_push, push_V, pull_V, rwp1, clo_pull, clo_push, pw16, w16_push, e3, RS_, argsTM, stepE, stBuiltin, stBox, stAlloc, stLoad, stStore, stField, stExtract, stBin, stUn, stConv, stNilCheck, stFieldV, stIndex, stIndexAddr, stLen, stMin, stMax, stBuild, fillI, stBuildSlice, setRows, stMakeSlice, stAppend, srcR, segR, rdCells, stSlice, bnd, stArr, stCopy, stConv2, isIntV, cutR, byteRows, rowByte, binStr, Option.map_some, Option.map_none, eq_self, canTL, canT, canH, canL, patL, gcH, gcT, gcI, get_gcT, pullS, pullI, pushS, push1, pushI, pullHW, roC, ix, List.map_map, Function.comp_def, List.zip_cons_cons, List.zip_nil_left, List.zip_nil_right, List.range'_zero, List.range'_succ, rd, get, put, IV.cells, ofValue, seg, spl, ldIV, binInt, eqI, cellsEq, leafEq, resI, flat, isT, upd, up1, nextM, cR, ptrC, nAl, isAl, ST_, Nat.reduceAdd, Nat.reduceMul, Nat.reduceEqDiff, Nat.reduceLeDiff, ne_eq, reduceCtorEq, reduceIte, forall_const, implies_true, Int.reduceToNat, Int.reduceLE, Int.reduceLT, bne, Int.reduceEq, Int.reduceNe, Int.reduceNeg, Int.reduceAdd, Int.reduceSub, Int.reduceMul, Int.reduceBEq, Int.reduceBNe, Nat.reduceLT, Nat.reduceSub, WLS, Try.underlying4, ty_ag_27, ty_ag_28, ty_ag_30, ty_ag_35, ty_ag_37, ty_ag_42, ty_eg_37, ty_eg_42, ty_lv_37, ty_lv_42, ty_of_30_0, ty_of_30_1, ty_of_30_2, ty_of_30_3, ty_of_37_0, ty_of_37_1, ty_of_37_2, ty_of_42_0, ty_of_42_1, ty_of_42_2, ty_ok_37, ty_ok_42, ty_pl_37_0, ty_pl_37_1, ty_pl_37_2, ty_pl_42_0, ty_pl_42_1, ty_pl_42_2, ty_sl_22, ty_sl_26, ty_sl_45, ty_sz_27, ty_sz_28, ty_sz_30, ty_sz_35, ty_sz_37, ty_sz_42, ty_ze_30, ty_ze_37, ty_ze_42]
          | (with_reducible refine drawK_id ?_); refine drawK_auto hmix (by kernel_rfl) ?_
          | (with_reducible refine draw_fin ?_ ?_); · kernel_rfl
          | (with_reducible refine draw_id ?_); kernel_rfl
          | ((with_reducible refine callK_id (f := 12) ?_); refine callK_funW [] [1, 2] (c12) (by simp [pullHW, roC, Function.comp_def, rows_pull, pullS, ix, push_V, pull_V, rwp1, clo_pull, clo_push, pw16, w16_push, pullI, push1, pushI, pushS, eV_pull]) rfl rfl (by decide) (by simp [ne_V]) (by simp [pullI, pullS, ix, kV, eV_def]) ?_; rintro r Hn ⟨rfl, rfl⟩ -; skip)
          | ((with_reducible refine callK_id (f := 13) ?_); refine callK_funW [3] [] (c13) (by simp [pullHW, roC, Function.comp_def, rows_pull, pullS, ix, push_V, pull_V, rwp1, clo_pull, clo_push, pw16, w16_push, pullI, push1, pushI, pushS, eV_pull]) rfl rfl (by decide) (by simp [ne_V]) (by simp [pullI, pullS, ix, kV, eV_def]) ?_; rintro r Hn ⟨rfl, rfl⟩ -; skip)
          | (with_reducible refine And.intro ?_ ?_; · omega)
        refine ⟨xs.length - (i + 1), _, _, by omega, Wk.gc [0, 1, 2, 3] rfl (by decide), i + 1, clock, L, R, rfl, by omega, hst, ?_, ?_, ?_, ?_, ?_⟩ <;> first | with_reducible rfl | (simp [Function.comp_def, get_gcT, get, put, gcI, pullI, pullS, gcH, patL, canL, canH, canTL, canT, rows_pull, ix, segR, g0, g3, g4, g5]; done) | (simp [Function.comp_def, get_gcT, get, put, gcI, pullI, pullS, gcH, patL, canL, canH, canTL, canT, rows_pull, ix, segR, g0, g3, g4, g5, hll]; done) | (simp [Function.comp_def, get_gcT, get, put, gcI, pullI, pullS, gcH, patL, canL, canH, canTL, canT, rows_pull, ix, segR, H3, tab2, pull_V, pull_acv, eV_pull]; done)
      · have c13 := f13_yes R hR1 x.v j hj h1
        subst hL
        have hst2 := hst.drop hy
        rw [h2, ← hk, delV_hit l1 y l2 (fun z hz => by rw [hk]; exact h3 z hz)] at c12
        simp only [Option.isSome_some, if_true] at c12
        generalize hL2 : l1 ++ l2 = L2 at *
        generalize hR2 : cutE R j = R2 at *
        unfold rV kV at c13
        simp only [hk] at c12 ⊢
        generalize hL1 : l1 ++ y :: l2 = L1 at *
        repeat' first
          | with_reducible rfl
          | simp only [q1, q2, z0, z1, hi1, hel, List.length_map, Int.toNat_natCast, encA, g0, g3, g4, g5, pwV, eV_pull, eV_push, push_V, pull_V, rwp1, clo_pull, clo_push, pw16, w16_push, e3, RS_, argsTM, stepE, stBuiltin, stBox, stAlloc, stLoad, stStore, stField, stExtract, stBin, stUn, stConv, stNilCheck, stFieldV, stIndex, stIndexAddr, stLen, stMin, stMax, stBuild, fillI, stBuildSlice, setRows, stMakeSlice, stAppend, srcR, segR, rdCells, stSlice, bnd, stArr, stCopy, stConv2, isIntV, cutR, byteRows, rowByte, binStr, Option.map_some, Option.map_none, eq_self, canTL, canT, canH, canL, patL, gcH, gcT, gcI, get_gcT, pullS, pullI, pushS, push1, pushI, pullHW, roC, ix, List.map_map, Function.comp_def, List.zip_cons_cons, List.zip_nil_left, List.zip_nil_right, List.range'_zero, List.range'_succ, rd, get, put, IV.cells, ofValue, seg, spl, ldIV, binInt, eqI, cellsEq, leafEq, resI, flat, isT, upd, up1, nextM, cR, ptrC, nAl, isAl, ST_, Nat.reduceAdd, Nat.reduceMul, Nat.reduceEqDiff, Nat.reduceLeDiff, ne_eq, reduceCtorEq, reduceIte, forall_const, implies_true, Int.reduceToNat, Int.reduceLE, Int.reduceLT, bne, Int.reduceEq, Int.reduceNe, Int.reduceNeg, Int.reduceAdd, Int.reduceSub, Int.reduceMul, Int.reduceBEq, Int.reduceBNe, Nat.reduceLT, Nat.reduceSub, WLS, Try.underlying4, ty_ag_27, ty_ag_28, ty_ag_30, ty_ag_35, ty_ag_37, ty_ag_42, ty_eg_37, ty_eg_42, ty_lv_37, ty_lv_42, ty_of_30_0, ty_of_30_1, ty_of_30_2, ty_of_30_3, ty_of_37_0, ty_of_37_1, ty_of_37_2, ty_of_42_0, ty_of_42_1, ty_of_42_2, ty_ok_37, ty_ok_42, ty_pl_37_0, ty_pl_37_1, ty_pl_37_2, ty_pl_42_0, ty_pl_42_1, ty_pl_42_2, ty_sl_22, ty_sl_26, ty_sl_45, ty_sz_27, ty_sz_28, ty_sz_30, ty_sz_35, ty_sz_37, ty_sz_42, ty_ze_30, ty_ze_37, ty_ze_42]
          | (with_reducible refine drawK_id ?_); refine drawK_auto hmix (by kernel_rfl) ?_
          | (with_reducible refine draw_fin ?_ ?_); · kernel_rfl
          | (with_reducible refine draw_id ?_); kernel_rfl
          | ((with_reducible refine callK_id (f := 12) ?_); refine callK_funW [] [1, 2] (c12) (by simp [pullHW, roC, Function.comp_def, rows_pull, pullS, ix, push_V, pull_V, rwp1, clo_pull, clo_push, pw16, w16_push, pullI, push1, pushI, pushS, eV_pull]) rfl rfl (by decide) (by simp [ne_V]) (by simp [pullI, pullS, ix, kV, eV_def]) ?_; rintro r Hn ⟨rfl, rfl⟩ -; skip)
          | ((with_reducible refine callK_id (f := 13) ?_); refine callK_funW [3] [] (c13) (by simp [pullHW, roC, Function.comp_def, rows_pull, pullS, ix, push_V, pull_V, rwp1, clo_pull, clo_push, pw16, w16_push, pullI, push1, pushI, pushS, eV_pull]) rfl rfl (by decide) (by simp [ne_V]) (by simp [pullI, pullS, ix, kV, eV_def]) ?_; rintro r Hn ⟨rfl, rfl⟩ -; skip)
          | (with_reducible refine And.intro ?_ ?_; · omega)
        refine ⟨xs.length - (i + 1), _, _, by omega, Wk.gc [0, 1, 2, 5] rfl (by decide), i + 1, clock, L2, R2, rfl, by omega, hst2, ?_, ?_, ?_, ?_, ?_⟩ <;> first | with_reducible rfl | (simp [Function.comp_def, get_gcT, get, put, gcI, pullI, pullS, gcH, patL, canL, canH, canTL, canT, rows_pull, ix, segR, g0, g3, g4, g5]; done) | (simp [Function.comp_def, get_gcT, get, put, gcI, pullI, pullS, gcH, patL, canL, canH, canTL, canT, rows_pull, ix, segR, g0, g3, g4, g5, hll]; done) | (simp [Function.comp_def, get_gcT, get, put, gcI, pullI, pullS, gcH, patL, canL, canH, canTL, canT, rows_pull, ix, segR, H3, tab2, pull_V, pull_acv, eV_pull]; done)
    | false =>
    cases e4 : (Int.tmod x.w 5 == 4) with
    | true =>
      have c14 := f14 clock L hst.k x.v
      have c15 := f15 R hR1 x.v
      unfold tabV kV at c14
      unfold rV kV at c15
      rcases hst.look x.v with ⟨h1, h2, h3⟩ | ⟨j, y, l1, l2, h1, hj, h2, hy, hL, hk, h3⟩
      · rw [h1] at c15
        rw [h2] at c14
        unfold rowV at c14
        simp only [Option.isSome_none] at c14
        repeat' first
          | with_reducible rfl
          | simp only [q1, q2, z0, z1, hi1, hel, List.length_map, Int.toNat_natCast, encA, g0, g3, g4, g5, pwV, eV_pull, eV_push, push_V, pull_V, rwp1, clo_pull, clo_push, pw16, w16_push, e3, e4, RS_, argsTM, stepE, stBuiltin, stBox, stAlloc, stLoad, stStore, stField, stExtract, stBin, stUn, stConv, stNilCheck, stFieldV, stIndex, stIndexAddr, stLen, stMin, stMax, stBuild, fillI, stBuildSlice, setRows, stMakeSlice, stAppend, srcR, segR, rdCells, stSlice, bnd, stArr, stCopy, stConv2, isIntV, cutR, byteRows, rowByte, binStr, Option.map_some, Option.map_none, eq_self, canTL, canT, canH, canL, patL, gcH, gcT, gcI, get_gcT, pullS, pullI, pushS, push1, pushI, pullHW, roC, ix, List.map_map, Function.comp_def, List.zip_cons_cons, List.zip_nil_left, List.zip_nil_right, List.range'_zero, List.range'_succ, rd, get, put, IV.cells, ofValue, seg, spl, ldIV, binInt, eqI, cellsEq, leafEq, resI, flat, isT, upd, up1, nextM, cR, ptrC, nAl, isAl, ST_, Nat.reduceAdd, Nat.reduceMul, Nat.reduceEqDiff, Nat.reduceLeDiff, ne_eq, reduceCtorEq, reduceIte, forall_const, implies_true, Int.reduceToNat, Int.reduceLE, Int.reduceLT, bne, Int.reduceEq, Int.reduceNe, Int.reduceNeg, Int.reduceAdd, Int.reduceSub, Int.reduceMul, Int.reduceBEq, Int.reduceBNe, Nat.reduceLT, Nat.reduceSub, WLS, Try.underlying4, ty_ag_27, ty_ag_28, ty_ag_30, ty_ag_35, ty_ag_37, ty_ag_42, ty_eg_37, ty_eg_42, ty_lv_37, ty_lv_42, ty_of_30_0, ty_of_30_1, ty_of_30_2, ty_of_30_3, ty_of_37_0, ty_of_37_1, ty_of_37_2, ty_of_42_0, ty_of_42_1, ty_of_42_2, ty_ok_37, ty_ok_42, ty_pl_37_0, ty_pl_37_1, ty_pl_37_2, ty_pl_42_0, ty_pl_42_1, ty_pl_42_2, ty_sl_22, ty_sl_26, ty_sl_45, ty_sz_27, ty_sz_28, ty_sz_30, ty_sz_35, ty_sz_37, ty_sz_42, ty_ze_30, ty_ze_37, ty_ze_42]
          | (with_reducible refine drawK_id ?_); refine drawK_auto hmix (by kernel_rfl) ?_
          | (with_reducible refine draw_fin ?_ ?_); · kernel_rfl
          | (with_reducible refine draw_id ?_); kernel_rfl
          | ((with_reducible refine callK_id (f := 14) ?_); refine callK_funW [] [1, 2] (c14) (by simp [pullHW, roC, Function.comp_def, rows_pull, pullS, ix, push_V, pull_V, rwp1, clo_pull, clo_push, pw16, w16_push, pullI, push1, pushI, pushS, eV_pull]) rfl rfl (by decide) (by simp [ne_V]) (by simp [pullI, pullS, ix, kV, eV_def]) ?_; rintro r Hn ⟨rfl, rfl⟩ -; skip)
          | ((with_reducible refine callK_id (f := 15) ?_); refine callK_funR [3] (r := .s (.raw (.int .i64 (-1)))) (by simp [pullH, roC, pullI, pullS, ix, eV_pull, pwV, Function.comp_def]; exact c15) rfl ?_)
          | (with_reducible refine And.intro ?_ ?_; · omega)
        refine ⟨xs.length - (i + 1), _, _, by omega, Wk.gc [0, 1, 2, 3] rfl (by decide), i + 1, clock, L, R, rfl, by omega, hst, ?_, ?_, ?_, ?_, ?_⟩ <;> first | with_reducible rfl | (simp [Function.comp_def, get_gcT, get, put, gcI, pullI, pullS, gcH, patL, canL, canH, canTL, canT, rows_pull, ix, segR, g0, g3, g4, g5]; done) | (simp [Function.comp_def, get_gcT, get, put, gcI, pullI, pullS, gcH, patL, canL, canH, canTL, canT, rows_pull, ix, segR, g0, g3, g4, g5, hll]; done) | (simp [Function.comp_def, get_gcT, get, put, gcI, pullI, pullS, gcH, patL, canL, canH, canTL, canT, rows_pull, ix, segR, H3, tab2, pull_V, pull_acv, eV_pull]; done)
      · rw [h1] at c15
        rw [h2] at c14
        unfold rowV at c14
        simp only [Option.isSome_some, eV_def] at c14
        have d1 : decide ((0 : Int) ≤ (j : Int)) = true := decide_eq_true (by omega)
        have d2 : (0 : Int) ≤ (j : Int) := by omega
        have d3 : (j : Int) < (R.length : Int) := by omega
        have hyl : (R.map eV)[j]? = some (eV y) := by rw [List.getElem?_map, hy]; rfl
        have hyl2 := hyl
        rw [eV_def] at hyl2
        repeat' first
          | with_reducible rfl
          | simp only [q1, q2, z0, z1, hi1, hel, List.length_map, Int.toNat_natCast, encA, g0, g3, g4, g5, pwV, eV_pull, eV_push, push_V, pull_V, rwp1, clo_pull, clo_push, pw16, w16_push, d1, d2, d3, hyl2, e3, e4, RS_, argsTM, stepE, stBuiltin, stBox, stAlloc, stLoad, stStore, stField, stExtract, stBin, stUn, stConv, stNilCheck, stFieldV, stIndex, stIndexAddr, stLen, stMin, stMax, stBuild, fillI, stBuildSlice, setRows, stMakeSlice, stAppend, srcR, segR, rdCells, stSlice, bnd, stArr, stCopy, stConv2, isIntV, cutR, byteRows, rowByte, binStr, Option.map_some, Option.map_none, eq_self, canTL, canT, canH, canL, patL, gcH, gcT, gcI, get_gcT, pullS, pullI, pushS, push1, pushI, pullHW, roC, ix, List.map_map, Function.comp_def, List.zip_cons_cons, List.zip_nil_left, List.zip_nil_right, List.range'_zero, List.range'_succ, rd, get, put, IV.cells, ofValue, seg, spl, ldIV, binInt, eqI, cellsEq, leafEq, resI, flat, isT, upd, up1, nextM, cR, ptrC, nAl, isAl, ST_, Nat.reduceAdd, Nat.reduceMul, Nat.reduceEqDiff, Nat.reduceLeDiff, ne_eq, reduceCtorEq, reduceIte, forall_const, implies_true, Int.reduceToNat, Int.reduceLE, Int.reduceLT, bne, Int.reduceEq, Int.reduceNe, Int.reduceNeg, Int.reduceAdd, Int.reduceSub, Int.reduceMul, Int.reduceBEq, Int.reduceBNe, Nat.reduceLT, Nat.reduceSub, WLS, Try.underlying4, ty_ag_27, ty_ag_28, ty_ag_30, ty_ag_35, ty_ag_37, ty_ag_42, ty_eg_37, ty_eg_42, ty_lv_37, ty_lv_42, ty_of_30_0, ty_of_30_1, ty_of_30_2, ty_of_30_3, ty_of_37_0, ty_of_37_1, ty_of_37_2, ty_of_42_0, ty_of_42_1, ty_of_42_2, ty_ok_37, ty_ok_42, ty_pl_37_0, ty_pl_37_1, ty_pl_37_2, ty_pl_42_0, ty_pl_42_1, ty_pl_42_2, ty_sl_22, ty_sl_26, ty_sl_45, ty_sz_27, ty_sz_28, ty_sz_30, ty_sz_35, ty_sz_37, ty_sz_42, ty_ze_30, ty_ze_37, ty_ze_42]
          | (with_reducible refine drawK_id ?_); refine drawK_auto hmix (by kernel_rfl) ?_
          | (with_reducible refine draw_fin ?_ ?_); · kernel_rfl
          | (with_reducible refine draw_id ?_); kernel_rfl
          | ((with_reducible refine callK_id (f := 14) ?_); refine callK_funW [] [1, 2] (c14) (by simp [pullHW, roC, Function.comp_def, rows_pull, pullS, ix, push_V, pull_V, rwp1, clo_pull, clo_push, pw16, w16_push, pullI, push1, pushI, pushS, eV_pull]) rfl rfl (by decide) (by simp [ne_V]) (by simp [pullI, pullS, ix, kV, eV_def]) ?_; rintro r Hn ⟨rfl, rfl⟩ -; skip)
          | ((with_reducible refine callK_id (f := 15) ?_); refine callK_funR [3] (r := .s (.raw (.int .i64 (j : Int)))) (by simp [pullH, roC, pullI, pullS, ix, eV_pull, pwV, Function.comp_def]; exact c15) rfl ?_)
          | (with_reducible refine And.intro ?_ ?_; · omega)
        refine ⟨xs.length - (i + 1), _, _, by omega, Wk.gc [0, 1, 2, 3] rfl (by decide), i + 1, clock, L, R, rfl, by omega, hst, ?_, ?_, ?_, ?_, ?_⟩ <;> first | with_reducible rfl | (simp [Function.comp_def, get_gcT, get, put, gcI, pullI, pullS, gcH, patL, canL, canH, canTL, canT, rows_pull, ix, segR, g0, g3, g4, g5]; done) | (simp [Function.comp_def, get_gcT, get, put, gcI, pullI, pullS, gcH, patL, canL, canH, canTL, canT, rows_pull, ix, segR, g0, g3, g4, g5, hll]; done) | (simp [Function.comp_def, get_gcT, get, put, gcI, pullI, pullS, gcH, patL, canL, canH, canTL, canT, rows_pull, ix, segR, H3, tab2, pull_V, pull_acv, eV_pull]; done)
    | false =>
      have c16 := f16 clock L hst.k ⟨x.v, x.m, x.u, 0⟩
      simp only at c16
      unfold tabV at c16
      cases hg : (goodV x.v x.m x.u == 0) with
      | false =>
        have hs : setV clock L x.v x.m x.u = (goodV x.v x.m x.u, clock, L) := by simp only [beq_eq_false_iff_ne, ne_eq] at hg; simp [setV, hg]
        have c17 := f17_bad R ⟨x.v, x.m, x.u, 0⟩ hxm hxu (goodV x.v x.m x.u) rfl hg
        simp only [hs] at c16
        unfold rV at c17
        repeat' first
          | with_reducible rfl
          | simp only [q1, q2, z0, z1, hi1, hel, List.length_map, Int.toNat_natCast, encA, g0, g3, g4, g5, pwV, eV_pull, eV_push, push_V, pull_V, rwp1, clo_pull, clo_push, pw16, w16_push, e3, e4, RS_, argsTM, stepE, stBuiltin, stBox, stAlloc, stLoad, stStore, stField, stExtract, stBin, stUn, stConv, stNilCheck, stFieldV, stIndex, stIndexAddr, stLen, stMin, stMax, stBuild, fillI, stBuildSlice, setRows, stMakeSlice, stAppend, srcR, segR, rdCells, stSlice, bnd, stArr, stCopy, stConv2, isIntV, cutR, byteRows, rowByte, binStr, Option.map_some, Option.map_none, eq_self, canTL, canT, canH, canL, patL, gcH, gcT, gcI, get_gcT, pullS, pullI, pushS, push1, pushI, pullHW, roC, ix, List.map_map, Function.comp_def, List.zip_cons_cons, List.zip_nil_left, List.zip_nil_right, List.range'_zero, List.range'_succ, rd, get, put, IV.cells, ofValue, seg, spl, ldIV, binInt, eqI, cellsEq, leafEq, resI, flat, isT, upd, up1, nextM, cR, ptrC, nAl, isAl, ST_, Nat.reduceAdd, Nat.reduceMul, Nat.reduceEqDiff, Nat.reduceLeDiff, ne_eq, reduceCtorEq, reduceIte, forall_const, implies_true, Int.reduceToNat, Int.reduceLE, Int.reduceLT, bne, Int.reduceEq, Int.reduceNe, Int.reduceNeg, Int.reduceAdd, Int.reduceSub, Int.reduceMul, Int.reduceBEq, Int.reduceBNe, Nat.reduceLT, Nat.reduceSub, WLS, Try.underlying4, ty_ag_27, ty_ag_28, ty_ag_30, ty_ag_35, ty_ag_37, ty_ag_42, ty_eg_37, ty_eg_42, ty_lv_37, ty_lv_42, ty_of_30_0, ty_of_30_1, ty_of_30_2, ty_of_30_3, ty_of_37_0, ty_of_37_1, ty_of_37_2, ty_of_42_0, ty_of_42_1, ty_of_42_2, ty_ok_37, ty_ok_42, ty_pl_37_0, ty_pl_37_1, ty_pl_37_2, ty_pl_42_0, ty_pl_42_1, ty_pl_42_2, ty_sl_22, ty_sl_26, ty_sl_45, ty_sz_27, ty_sz_28, ty_sz_30, ty_sz_35, ty_sz_37, ty_sz_42, ty_ze_30, ty_ze_37, ty_ze_42]
          | (with_reducible refine drawK_id ?_); refine drawK_auto hmix (by kernel_rfl) ?_
          | (with_reducible refine draw_fin ?_ ?_); · kernel_rfl
          | (with_reducible refine draw_id ?_); kernel_rfl
          | ((with_reducible refine callK_id (f := 16) ?_); refine callK_funW [] [1, 2] (c16) (by simp [pullHW, roC, Function.comp_def, rows_pull, pullS, ix, push_V, pull_V, rwp1, clo_pull, clo_push, pw16, w16_push, pullI, push1, pushI, pushS, eV_pull]) rfl rfl (by decide) (by simp [ne_V]) (by simp [pullI, pullS, ix, kV, eV_def]) ?_; rintro r Hn ⟨rfl, rfl⟩ -; skip)
          | ((with_reducible refine callK_id (f := 17) ?_); refine callK_funW [3] [] (c17) (by simp [pullHW, roC, Function.comp_def, rows_pull, pullS, ix, push_V, pull_V, rwp1, clo_pull, clo_push, pw16, w16_push, pullI, push1, pushI, pushS, eV_pull]) rfl rfl (by decide) (by simp [ne_V]) (by simp [pullI, pullS, ix, kV, eV_def]) ?_; rintro r Hn ⟨rfl, rfl⟩ -; skip)
          | (with_reducible refine And.intro ?_ ?_; · omega)
        refine ⟨xs.length - (i + 1), _, _, by omega, Wk.gc [0, 1, 2, 3] rfl (by decide), i + 1, clock, L, R, rfl, by omega, hst, ?_, ?_, ?_, ?_, ?_⟩ <;> first | with_reducible rfl | (simp [Function.comp_def, get_gcT, get, put, gcI, pullI, pullS, gcH, patL, canL, canH, canTL, canT, rows_pull, ix, segR, g0, g3, g4, g5]; done) | (simp [Function.comp_def, get_gcT, get, put, gcI, pullI, pullS, gcH, patL, canL, canH, canTL, canT, rows_pull, ix, segR, g0, g3, g4, g5, hll]; done) | (simp [Function.comp_def, get_gcT, get, put, gcI, pullI, pullS, gcH, patL, canL, canH, canTL, canT, rows_pull, ix, segR, H3, tab2, pull_V, pull_acv, eV_pull]; done)
      | true =>
        have hg2 : goodV x.v x.m x.u = 0 := by simpa using hg
        rcases hst.look x.v with ⟨h1, h2, h3⟩ | ⟨j, y, l1, l2, h1, hj, h2, hy, hL, hk, h3⟩
        · by_cases hl : 16 ≤ L.length
          · have hs : setV clock L x.v x.m x.u = (13, clock, L) := by simp [setV, hg2, h2, hl]
            have c17 := f17_full R hR1 ⟨x.v, x.m, x.u, 0⟩ hxm hxu hg2 h1 (by rw [hst.lenR]; exact hl)
            simp only [hs] at c16
            unfold rV at c17
            repeat' first
              | with_reducible rfl
              | simp only [q1, q2, z0, z1, hi1, hel, List.length_map, Int.toNat_natCast, encA, g0, g3, g4, g5, pwV, eV_pull, eV_push, push_V, pull_V, rwp1, clo_pull, clo_push, pw16, w16_push, e3, e4, RS_, argsTM, stepE, stBuiltin, stBox, stAlloc, stLoad, stStore, stField, stExtract, stBin, stUn, stConv, stNilCheck, stFieldV, stIndex, stIndexAddr, stLen, stMin, stMax, stBuild, fillI, stBuildSlice, setRows, stMakeSlice, stAppend, srcR, segR, rdCells, stSlice, bnd, stArr, stCopy, stConv2, isIntV, cutR, byteRows, rowByte, binStr, Option.map_some, Option.map_none, eq_self, canTL, canT, canH, canL, patL, gcH, gcT, gcI, get_gcT, pullS, pullI, pushS, push1, pushI, pullHW, roC, ix, List.map_map, Function.comp_def, List.zip_cons_cons, List.zip_nil_left, List.zip_nil_right, List.range'_zero, List.range'_succ, rd, get, put, IV.cells, ofValue, seg, spl, ldIV, binInt, eqI, cellsEq, leafEq, resI, flat, isT, upd, up1, nextM, cR, ptrC, nAl, isAl, ST_, Nat.reduceAdd, Nat.reduceMul, Nat.reduceEqDiff, Nat.reduceLeDiff, ne_eq, reduceCtorEq, reduceIte, forall_const, implies_true, Int.reduceToNat, Int.reduceLE, Int.reduceLT, bne, Int.reduceEq, Int.reduceNe, Int.reduceNeg, Int.reduceAdd, Int.reduceSub, Int.reduceMul, Int.reduceBEq, Int.reduceBNe, Nat.reduceLT, Nat.reduceSub, WLS, Try.underlying4, ty_ag_27, ty_ag_28, ty_ag_30, ty_ag_35, ty_ag_37, ty_ag_42, ty_eg_37, ty_eg_42, ty_lv_37, ty_lv_42, ty_of_30_0, ty_of_30_1, ty_of_30_2, ty_of_30_3, ty_of_37_0, ty_of_37_1, ty_of_37_2, ty_of_42_0, ty_of_42_1, ty_of_42_2, ty_ok_37, ty_ok_42, ty_pl_37_0, ty_pl_37_1, ty_pl_37_2, ty_pl_42_0, ty_pl_42_1, ty_pl_42_2, ty_sl_22, ty_sl_26, ty_sl_45, ty_sz_27, ty_sz_28, ty_sz_30, ty_sz_35, ty_sz_37, ty_sz_42, ty_ze_30, ty_ze_37, ty_ze_42]
              | (with_reducible refine drawK_id ?_); refine drawK_auto hmix (by kernel_rfl) ?_
              | (with_reducible refine draw_fin ?_ ?_); · kernel_rfl
              | (with_reducible refine draw_id ?_); kernel_rfl
              | ((with_reducible refine callK_id (f := 16) ?_); refine callK_funW [] [1, 2] (c16) (by simp [pullHW, roC, Function.comp_def, rows_pull, pullS, ix, push_V, pull_V, rwp1, clo_pull, clo_push, pw16, w16_push, pullI, push1, pushI, pushS, eV_pull]) rfl rfl (by decide) (by simp [ne_V]) (by simp [pullI, pullS, ix, kV, eV_def]) ?_; rintro r Hn ⟨rfl, rfl⟩ -; skip)
              | ((with_reducible refine callK_id (f := 17) ?_); refine callK_funW [3] [] (c17) (by simp [pullHW, roC, Function.comp_def, rows_pull, pullS, ix, push_V, pull_V, rwp1, clo_pull, clo_push, pw16, w16_push, pullI, push1, pushI, pushS, eV_pull]) rfl rfl (by decide) (by simp [ne_V]) (by simp [pullI, pullS, ix, kV, eV_def]) ?_; rintro r Hn ⟨rfl, rfl⟩ -; skip)
              | (with_reducible refine And.intro ?_ ?_; · omega)
            refine ⟨xs.length - (i + 1), _, _, by omega, Wk.gc [0, 1, 2, 3] rfl (by decide), i + 1, clock, L, R, rfl, by omega, hst, ?_, ?_, ?_, ?_, ?_⟩ <;> first | with_reducible rfl | (simp [Function.comp_def, get_gcT, get, put, gcI, pullI, pullS, gcH, patL, canL, canH, canTL, canT, rows_pull, ix, segR, g0, g3, g4, g5]; done) | (simp [Function.comp_def, get_gcT, get, put, gcI, pullI, pullS, gcH, patL, canL, canH, canTL, canT, rows_pull, ix, segR, g0, g3, g4, g5, hll]; done) | (simp [Function.comp_def, get_gcT, get, put, gcI, pullI, pullS, gcH, patL, canL, canH, canTL, canT, rows_pull, ix, segR, H3, tab2, pull_V, pull_acv, eV_pull]; done)
          · have hs : setV clock L x.v x.m x.u = (0, clock + 1, L ++ [⟨x.v, x.m, x.u, clock⟩]) := by simp [setV, hg2, h2, hl, putV_miss clock L x.v x.m x.u h2]
            have hst2 := hst.new x.m x.u clock h3 (by omega)
            have c17 := f17_new R hR1 ⟨x.v, x.m, x.u, 0⟩ hxm hxu hg2 h1 (by rw [hst.lenR]; omega)
            simp only [hs] at c16
            generalize hL2 : L ++ [(⟨x.v, x.m, x.u, clock⟩ : VEN)] = L2 at *
            generalize hR2 : insV R ⟨x.v, x.m, x.u, 0⟩ = R2 at *
            unfold rV at c17
            repeat' first
              | with_reducible rfl
              | simp only [q1, q2, z0, z1, hi1, hel, List.length_map, Int.toNat_natCast, encA, g0, g3, g4, g5, pwV, eV_pull, eV_push, push_V, pull_V, rwp1, clo_pull, clo_push, pw16, w16_push, e3, e4, RS_, argsTM, stepE, stBuiltin, stBox, stAlloc, stLoad, stStore, stField, stExtract, stBin, stUn, stConv, stNilCheck, stFieldV, stIndex, stIndexAddr, stLen, stMin, stMax, stBuild, fillI, stBuildSlice, setRows, stMakeSlice, stAppend, srcR, segR, rdCells, stSlice, bnd, stArr, stCopy, stConv2, isIntV, cutR, byteRows, rowByte, binStr, Option.map_some, Option.map_none, eq_self, canTL, canT, canH, canL, patL, gcH, gcT, gcI, get_gcT, pullS, pullI, pushS, push1, pushI, pullHW, roC, ix, List.map_map, Function.comp_def, List.zip_cons_cons, List.zip_nil_left, List.zip_nil_right, List.range'_zero, List.range'_succ, rd, get, put, IV.cells, ofValue, seg, spl, ldIV, binInt, eqI, cellsEq, leafEq, resI, flat, isT, upd, up1, nextM, cR, ptrC, nAl, isAl, ST_, Nat.reduceAdd, Nat.reduceMul, Nat.reduceEqDiff, Nat.reduceLeDiff, ne_eq, reduceCtorEq, reduceIte, forall_const, implies_true, Int.reduceToNat, Int.reduceLE, Int.reduceLT, bne, Int.reduceEq, Int.reduceNe, Int.reduceNeg, Int.reduceAdd, Int.reduceSub, Int.reduceMul, Int.reduceBEq, Int.reduceBNe, Nat.reduceLT, Nat.reduceSub, WLS, Try.underlying4, ty_ag_27, ty_ag_28, ty_ag_30, ty_ag_35, ty_ag_37, ty_ag_42, ty_eg_37, ty_eg_42, ty_lv_37, ty_lv_42, ty_of_30_0, ty_of_30_1, ty_of_30_2, ty_of_30_3, ty_of_37_0, ty_of_37_1, ty_of_37_2, ty_of_42_0, ty_of_42_1, ty_of_42_2, ty_ok_37, ty_ok_42, ty_pl_37_0, ty_pl_37_1, ty_pl_37_2, ty_pl_42_0, ty_pl_42_1, ty_pl_42_2, ty_sl_22, ty_sl_26, ty_sl_45, ty_sz_27, ty_sz_28, ty_sz_30, ty_sz_35, ty_sz_37, ty_sz_42, ty_ze_30, ty_ze_37, ty_ze_42]
              | (with_reducible refine drawK_id ?_); refine drawK_auto hmix (by kernel_rfl) ?_
              | (with_reducible refine draw_fin ?_ ?_); · kernel_rfl
              | (with_reducible refine draw_id ?_); kernel_rfl
              | ((with_reducible refine callK_id (f := 16) ?_); refine callK_funW [] [1, 2] (c16) (by simp [pullHW, roC, Function.comp_def, rows_pull, pullS, ix, push_V, pull_V, rwp1, clo_pull, clo_push, pw16, w16_push, pullI, push1, pushI, pushS, eV_pull]) rfl rfl (by decide) (by simp [ne_V]) (by simp [pullI, pullS, ix, kV, eV_def]) ?_; rintro r Hn ⟨rfl, rfl⟩ -; skip)
              | ((with_reducible refine callK_id (f := 17) ?_); refine callK_funW [3] [] (c17) (by simp [pullHW, roC, Function.comp_def, rows_pull, pullS, ix, push_V, pull_V, rwp1, clo_pull, clo_push, pw16, w16_push, pullI, push1, pushI, pushS, eV_pull]) rfl rfl (by decide) (by simp [ne_V]) (by simp [pullI, pullS, ix, kV, eV_def]) ?_; rintro r Hn ⟨rfl, rfl⟩ -; skip)
              | (with_reducible refine And.intro ?_ ?_; · omega)
            refine ⟨xs.length - (i + 1), _, _, by omega, Wk.gc [0, 1, 2, 5] rfl (by decide), i + 1, clock + 1, L2, R2, rfl, by omega, hst2, ?_, ?_, ?_, ?_, ?_⟩ <;> first | with_reducible rfl | (simp [Function.comp_def, get_gcT, get, put, gcI, pullI, pullS, gcH, patL, canL, canH, canTL, canT, rows_pull, ix, segR, g0, g3, g4, g5]; done) | (simp [Function.comp_def, get_gcT, get, put, gcI, pullI, pullS, gcH, patL, canL, canH, canTL, canT, rows_pull, ix, segR, g0, g3, g4, g5, hll]; done) | (simp [Function.comp_def, get_gcT, get, put, gcI, pullI, pullS, gcH, patL, canL, canH, canTL, canT, rows_pull, ix, segR, H3, tab2, pull_V, pull_acv, eV_pull]; done)
        · subst hL
          have hs : setV clock (l1 ++ y :: l2) x.v x.m x.u = (0, clock, l1 ++ ⟨y.v, x.m, x.u, y.s⟩ :: l2) := by
            have := putV_hit clock l1 y l2 x.m x.u (by rw [hk]; exact h2) (fun z hz => by rw [hk]; exact h3 z hz)
            rw [hk] at this
            simp [setV, hg2, h2, this, hk]
          have hst2 := hst.old hy x.m x.u
          rw [hk] at hst2 hs
          have c17 := f17_old R hR1 ⟨x.v, x.m, x.u, 0⟩ hxm hxu hg2 j hj h1
          have hll : (R.set j ⟨x.v, x.m, x.u, 0⟩).length = R.length := by simp
          simp only [hs] at c16
          generalize hL2 : l1 ++ (⟨x.v, x.m, x.u, y.s⟩ : VEN) :: l2 = L2 at *
          generalize hR2 : R.set j ⟨x.v, x.m, x.u, 0⟩ = R2 at *
          unfold rV at c17
          generalize hL1 : l1 ++ y :: l2 = L1 at *
          repeat' first
            | with_reducible rfl
            | simp only [q1, q2, z0, z1, hi1, hel, List.length_map, Int.toNat_natCast, encA, g0, g3, g4, g5, pwV, eV_pull, eV_push, push_V, pull_V, rwp1, clo_pull, clo_push, pw16, w16_push, e3, e4, RS_, argsTM, stepE, stBuiltin, stBox, stAlloc, stLoad, stStore, stField, stExtract, stBin, stUn, stConv, stNilCheck, stFieldV, stIndex, stIndexAddr, stLen, stMin, stMax, stBuild, fillI, stBuildSlice, setRows, stMakeSlice, stAppend, srcR, segR, rdCells, stSlice, bnd, stArr, stCopy, stConv2, isIntV, cutR, byteRows, rowByte, binStr, Option.map_some, Option.map_none, eq_self, canTL, canT, canH, canL, patL, gcH, gcT, gcI, get_gcT, pullS, pullI, pushS, push1, pushI, pullHW, roC, ix, List.map_map, Function.comp_def, List.zip_cons_cons, List.zip_nil_left, List.zip_nil_right, List.range'_zero, List.range'_succ, rd, get, put, IV.cells, ofValue, seg, spl, ldIV, binInt, eqI, cellsEq, leafEq, resI, flat, isT, upd, up1, nextM, cR, ptrC, nAl, isAl, ST_, Nat.reduceAdd, Nat.reduceMul, Nat.reduceEqDiff, Nat.reduceLeDiff, ne_eq, reduceCtorEq, reduceIte, forall_const, implies_true, Int.reduceToNat, Int.reduceLE, Int.reduceLT, bne, Int.reduceEq, Int.reduceNe, Int.reduceNeg, Int.reduceAdd, Int.reduceSub, Int.reduceMul, Int.reduceBEq, Int.reduceBNe, Nat.reduceLT, Nat.reduceSub, WLS, Try.underlying4, ty_ag_27, ty_ag_28, ty_ag_30, ty_ag_35, ty_ag_37, ty_ag_42, ty_eg_37, ty_eg_42, ty_lv_37, ty_lv_42, ty_of_30_0, ty_of_30_1, ty_of_30_2, ty_of_30_3, ty_of_37_0, ty_of_37_1, ty_of_37_2, ty_of_42_0, ty_of_42_1, ty_of_42_2, ty_ok_37, ty_ok_42, ty_pl_37_0, ty_pl_37_1, ty_pl_37_2, ty_pl_42_0, ty_pl_42_1, ty_pl_42_2, ty_sl_22, ty_sl_26, ty_sl_45, ty_sz_27, ty_sz_28, ty_sz_30, ty_sz_35, ty_sz_37, ty_sz_42, ty_ze_30, ty_ze_37, ty_ze_42]
            | (with_reducible refine drawK_id ?_); refine drawK_auto hmix (by kernel_rfl) ?_
            | (with_reducible refine draw_fin ?_ ?_); · kernel_rfl
            | (with_reducible refine draw_id ?_); kernel_rfl
            | ((with_reducible refine callK_id (f := 16) ?_); refine callK_funW [] [1, 2] (c16) (by simp [pullHW, roC, Function.comp_def, rows_pull, pullS, ix, push_V, pull_V, rwp1, clo_pull, clo_push, pw16, w16_push, pullI, push1, pushI, pushS, eV_pull]) rfl rfl (by decide) (by simp [ne_V]) (by simp [pullI, pullS, ix, kV, eV_def]) ?_; rintro r Hn ⟨rfl, rfl⟩ -; skip)
            | ((with_reducible refine callK_id (f := 17) ?_); refine callK_funW [3] [] (c17) (by simp [pullHW, roC, Function.comp_def, rows_pull, pullS, ix, push_V, pull_V, rwp1, clo_pull, clo_push, pw16, w16_push, pullI, push1, pushI, pushS, eV_pull]) rfl rfl (by decide) (by simp [ne_V]) (by simp [pullI, pullS, ix, kV, eV_def]) ?_; rintro r Hn ⟨rfl, rfl⟩ -; skip)
            | (with_reducible refine And.intro ?_ ?_; · omega)
          refine ⟨xs.length - (i + 1), _, _, by omega, Wk.gc [0, 1, 2, 5] rfl (by decide), i + 1, clock, L2, R2, rfl, by omega, hst2, ?_, ?_, ?_, ?_, ?_⟩ <;> first | with_reducible rfl | (simp [Function.comp_def, get_gcT, get, put, gcI, pullI, pullS, gcH, patL, canL, canH, canTL, canT, rows_pull, ix, segR, g0, g3, g4, g5]; done) | (simp [Function.comp_def, get_gcT, get, put, gcI, pullI, pullS, gcH, patL, canL, canH, canTL, canT, rows_pull, ix, segR, g0, g3, g4, g5, hll]; done) | (simp [Function.comp_def, get_gcT, get, put, gcI, pullI, pullS, gcH, patL, canL, canH, canTL, canT, rows_pull, ix, segR, H3, tab2, pull_V, pull_acv, eV_pull]; done)
  · have c18 := f18S (clock := clock) hst
    unfold tabV at c18
    cases q1 : decide ((i : Int) < (xs.length : Int)) with
    | true =>
      have q2 : decide ((i : Int) < 50) = false := decide_eq_false (by have := of_decide_eq_true q1; omega)
      repeat' first
        | with_reducible rfl
        | simp only [q1, q2, List.length_map, pwV, bne_self_eq_false, g0, g3, g4, g5, push_V, pull_V, rwp1, clo_pull, clo_push, pw16, w16_push, RS_, argsTM, stepE, stBuiltin, stBox, stAlloc, stLoad, stStore, stField, stExtract, stBin, stUn, stConv, stNilCheck, stFieldV, stIndex, stIndexAddr, stLen, stMin, stMax, stBuild, fillI, stBuildSlice, setRows, stMakeSlice, stAppend, srcR, segR, rdCells, stSlice, bnd, stArr, stCopy, stConv2, isIntV, cutR, byteRows, rowByte, binStr, Option.map_some, Option.map_none, eq_self, canTL, canT, canH, canL, patL, gcH, gcT, gcI, get_gcT, pullS, pullI, pushS, push1, pushI, pullHW, roC, ix, List.map_map, Function.comp_def, List.zip_cons_cons, List.zip_nil_left, List.zip_nil_right, List.range'_zero, List.range'_succ, rd, get, put, IV.cells, ofValue, seg, spl, ldIV, binInt, eqI, cellsEq, leafEq, resI, flat, isT, upd, up1, nextM, cR, ptrC, nAl, isAl, ST_, Nat.reduceAdd, Nat.reduceMul, Nat.reduceEqDiff, Nat.reduceLeDiff, ne_eq, reduceCtorEq, reduceIte, forall_const, implies_true, Int.reduceToNat, Int.reduceLE, Int.reduceLT, bne, Int.reduceEq, Int.reduceNe, Int.reduceNeg, Int.reduceAdd, Int.reduceSub, Int.reduceMul, Int.reduceBEq, Int.reduceBNe, Nat.reduceLT, Nat.reduceSub, WLS, Try.underlying4, ty_ag_27, ty_ag_28, ty_ag_30, ty_ag_35, ty_ag_37, ty_ag_42, ty_eg_37, ty_eg_42, ty_lv_37, ty_lv_42, ty_of_30_0, ty_of_30_1, ty_of_30_2, ty_of_30_3, ty_of_37_0, ty_of_37_1, ty_of_37_2, ty_of_42_0, ty_of_42_1, ty_of_42_2, ty_ok_37, ty_ok_42, ty_pl_37_0, ty_pl_37_1, ty_pl_37_2, ty_pl_42_0, ty_pl_42_1, ty_pl_42_2, ty_sl_22, ty_sl_26, ty_sl_45, ty_sz_27, ty_sz_28, ty_sz_30, ty_sz_35, ty_sz_37, ty_sz_42, ty_ze_30, ty_ze_37, ty_ze_42]
        | (with_reducible refine drawK_id ?_); refine drawK_auto hmix (by kernel_rfl) ?_
        | (with_reducible refine draw_fin ?_ ?_); · kernel_rfl
        | (with_reducible refine draw_id ?_); kernel_rfl
        | ((with_reducible refine callK_id (f := 18) (args := [.s (.ptr 1 0 0)]) ?_); refine callK_funW [] [1, 2] (c18) (by simp [pullHW, roC, Function.comp_def, rows_pull, pullS, ix, push_V, pull_V, rwp1, clo_pull, clo_push, pw16, w16_push, pullI, push1, pushI, pushS, eV_pull]) rfl rfl (by decide) (by simp [ne_V]) (by simp [pullI, pullS, ix, kV, eV_def]) ?_; rintro r Hn ⟨rfl, rfl⟩ -; skip)
        | (with_reducible refine And.intro ?_ ?_; · omega)
      refine loopK_wk (by kernel_rfl) (I3b xs clock L R) R.length ⟨_, _, Wk.gc [0, 1, 2, 3, 4] rfl (by decide), 0, by omega, by omega, ?_, ?_, ?_, ?_⟩ ?_ <;> first | (simp [Function.comp_def, get_gcT, get, put, gcI, pullI, pullS, gcH, patL, canL, canH, canTL, canT, rows_pull, ix, segR, g0, g3, g4, g5]; done) | (simp [Function.comp_def, get_gcT, get, put, gcI, pullI, pullS, gcH, patL, canL, canH, canTL, canT, rows_pull, ix, segR, H3, tab2, pull_V, pull_acv, eV_pull]; done) | skip
      rintro mm tm H ⟨j, rfl, hj, g4, g12, g13, rfl⟩
      unfold H3 tab2
      simp only [List.cons_append, List.nil_append]
      by_cases hq2 : j < R.length
      · have p1 : decide ((j : Int) < (R.length : Int)) = true := decide_eq_true (by omega)
        have d2 : (0 : Int) ≤ (j : Int) := by omega
        have d3 : (j : Int) < (R.length : Int) := by omega
        have hj1 : IntKind.i64.wrap ((j : Int) + 1) = ((j + 1 : Nat) : Int) := by rw [wr_i64 (by omega) (by omega)]; rfl
        obtain ⟨y, hy⟩ : ∃ y, R[j]? = some y := ⟨_, List.getElem?_eq_getElem hq2⟩
        have hyl : (R.map eV)[j]? = some (eV y) := by rw [List.getElem?_map, hy]; rfl
        rw [eV_def] at hyl
        repeat' first
          | with_reducible rfl
          | simp only [p1, d2, d3, hj1, hyl, g4, g12, g13, List.length_map, Int.toNat_natCast, push_V, pull_V, rwp1, clo_pull, clo_push, pw16, w16_push, RS_, argsTM, stepE, stBuiltin, stBox, stAlloc, stLoad, stStore, stField, stExtract, stBin, stUn, stConv, stNilCheck, stFieldV, stIndex, stIndexAddr, stLen, stMin, stMax, stBuild, fillI, stBuildSlice, setRows, stMakeSlice, stAppend, srcR, segR, rdCells, stSlice, bnd, stArr, stCopy, stConv2, isIntV, cutR, byteRows, rowByte, binStr, Option.map_some, Option.map_none, eq_self, canTL, canT, canH, canL, patL, gcH, gcT, gcI, get_gcT, pullS, pullI, pushS, push1, pushI, pullHW, roC, ix, List.map_map, Function.comp_def, List.zip_cons_cons, List.zip_nil_left, List.zip_nil_right, List.range'_zero, List.range'_succ, rd, get, put, IV.cells, ofValue, seg, spl, ldIV, binInt, eqI, cellsEq, leafEq, resI, flat, isT, upd, up1, nextM, cR, ptrC, nAl, isAl, ST_, Nat.reduceAdd, Nat.reduceMul, Nat.reduceEqDiff, Nat.reduceLeDiff, ne_eq, reduceCtorEq, reduceIte, forall_const, implies_true, Int.reduceToNat, Int.reduceLE, Int.reduceLT, bne, Int.reduceEq, Int.reduceNe, Int.reduceNeg, Int.reduceAdd, Int.reduceSub, Int.reduceMul, Int.reduceBEq, Int.reduceBNe, Nat.reduceLT, Nat.reduceSub, WLS, Try.underlying4, ty_ag_27, ty_ag_28, ty_ag_30, ty_ag_35, ty_ag_37, ty_ag_42, ty_eg_37, ty_eg_42, ty_lv_37, ty_lv_42, ty_of_30_0, ty_of_30_1, ty_of_30_2, ty_of_30_3, ty_of_37_0, ty_of_37_1, ty_of_37_2, ty_of_42_0, ty_of_42_1, ty_of_42_2, ty_ok_37, ty_ok_42, ty_pl_37_0, ty_pl_37_1, ty_pl_37_2, ty_pl_42_0, ty_pl_42_1, ty_pl_42_2, ty_sl_22, ty_sl_26, ty_sl_45, ty_sz_27, ty_sz_28, ty_sz_30, ty_sz_35, ty_sz_37, ty_sz_42, ty_ze_30, ty_ze_37, ty_ze_42]
          | (with_reducible refine drawK_id ?_); refine drawK_auto hmix (by kernel_rfl) ?_
          | (with_reducible refine draw_fin ?_ ?_); · kernel_rfl
          | (with_reducible refine draw_id ?_); kernel_rfl
          | (with_reducible refine And.intro ?_ ?_; · omega)
        refine ⟨R.length - (j + 1), _, _, by omega, Wk.gc [0, 1, 2, 3, 4] rfl (by decide), j + 1, rfl, by omega, ?_, ?_, ?_, ?_⟩ <;> first | with_reducible rfl | (simp [Function.comp_def, get_gcT, get, put, gcI, pullI, pullS, gcH, patL, canL, canH, canTL, canT, rows_pull, ix, segR, g4, g12, g13]; done) | (simp [Function.comp_def, get_gcT, get, put, gcI, pullI, pullS, gcH, patL, canL, canH, canTL, canT, rows_pull, ix, segR, H3, tab2, pull_V, pull_acv, eV_pull]; done)
      · have p1 : decide ((j : Int) < (R.length : Int)) = false := decide_eq_false (by omega)
        repeat' first
          | with_reducible rfl
          | simp only [p1, g4, g12, g13, List.length_map, push_V, pull_V, rwp1, clo_pull, clo_push, pw16, w16_push, RS_, argsTM, stepE, stBuiltin, stBox, stAlloc, stLoad, stStore, stField, stExtract, stBin, stUn, stConv, stNilCheck, stFieldV, stIndex, stIndexAddr, stLen, stMin, stMax, stBuild, fillI, stBuildSlice, setRows, stMakeSlice, stAppend, srcR, segR, rdCells, stSlice, bnd, stArr, stCopy, stConv2, isIntV, cutR, byteRows, rowByte, binStr, Option.map_some, Option.map_none, eq_self, canTL, canT, canH, canL, patL, gcH, gcT, gcI, get_gcT, pullS, pullI, pushS, push1, pushI, pullHW, roC, ix, List.map_map, Function.comp_def, List.zip_cons_cons, List.zip_nil_left, List.zip_nil_right, List.range'_zero, List.range'_succ, rd, get, put, IV.cells, ofValue, seg, spl, ldIV, binInt, eqI, cellsEq, leafEq, resI, flat, isT, upd, up1, nextM, cR, ptrC, nAl, isAl, ST_, Nat.reduceAdd, Nat.reduceMul, Nat.reduceEqDiff, Nat.reduceLeDiff, ne_eq, reduceCtorEq, reduceIte, forall_const, implies_true, Int.reduceToNat, Int.reduceLE, Int.reduceLT, bne, Int.reduceEq, Int.reduceNe, Int.reduceNeg, Int.reduceAdd, Int.reduceSub, Int.reduceMul, Int.reduceBEq, Int.reduceBNe, Nat.reduceLT, Nat.reduceSub, WLS, Try.underlying4, ty_ag_27, ty_ag_28, ty_ag_30, ty_ag_35, ty_ag_37, ty_ag_42, ty_eg_37, ty_eg_42, ty_lv_37, ty_lv_42, ty_of_30_0, ty_of_30_1, ty_of_30_2, ty_of_30_3, ty_of_37_0, ty_of_37_1, ty_of_37_2, ty_of_42_0, ty_of_42_1, ty_of_42_2, ty_ok_37, ty_ok_42, ty_pl_37_0, ty_pl_37_1, ty_pl_37_2, ty_pl_42_0, ty_pl_42_1, ty_pl_42_2, ty_sl_22, ty_sl_26, ty_sl_45, ty_sz_27, ty_sz_28, ty_sz_30, ty_sz_35, ty_sz_37, ty_sz_42, ty_ze_30, ty_ze_37, ty_ze_42]
          | (with_reducible refine drawK_id ?_); refine drawK_auto hmix (by kernel_rfl) ?_
          | (with_reducible refine draw_fin ?_ ?_); · kernel_rfl
          | (with_reducible refine draw_id ?_); kernel_rfl
          | (with_reducible refine callK_id (f := 14) ?_); refine callK_fun (n14) rfl rfl ?_
          | (with_reducible refine callK_id (f := 16) ?_); refine callK_fun (n16) rfl rfl ?_
          | (with_reducible refine callK_id (f := 12) ?_); refine callK_fun (n12) rfl rfl ?_
          | (with_reducible refine callK_id (f := 18) ?_); refine callK_fun (n18) rfl rfl ?_
          | (with_reducible refine And.intro ?_ ?_; · omega)
    | false =>
      repeat' first
        | with_reducible rfl
        | simp only [q1, List.length_map, pwV, bne_self_eq_false, g0, g3, g4, g5, push_V, pull_V, rwp1, clo_pull, clo_push, pw16, w16_push, RS_, argsTM, stepE, stBuiltin, stBox, stAlloc, stLoad, stStore, stField, stExtract, stBin, stUn, stConv, stNilCheck, stFieldV, stIndex, stIndexAddr, stLen, stMin, stMax, stBuild, fillI, stBuildSlice, setRows, stMakeSlice, stAppend, srcR, segR, rdCells, stSlice, bnd, stArr, stCopy, stConv2, isIntV, cutR, byteRows, rowByte, binStr, Option.map_some, Option.map_none, eq_self, canTL, canT, canH, canL, patL, gcH, gcT, gcI, get_gcT, pullS, pullI, pushS, push1, pushI, pullHW, roC, ix, List.map_map, Function.comp_def, List.zip_cons_cons, List.zip_nil_left, List.zip_nil_right, List.range'_zero, List.range'_succ, rd, get, put, IV.cells, ofValue, seg, spl, ldIV, binInt, eqI, cellsEq, leafEq, resI, flat, isT, upd, up1, nextM, cR, ptrC, nAl, isAl, ST_, Nat.reduceAdd, Nat.reduceMul, Nat.reduceEqDiff, Nat.reduceLeDiff, ne_eq, reduceCtorEq, reduceIte, forall_const, implies_true, Int.reduceToNat, Int.reduceLE, Int.reduceLT, bne, Int.reduceEq, Int.reduceNe, Int.reduceNeg, Int.reduceAdd, Int.reduceSub, Int.reduceMul, Int.reduceBEq, Int.reduceBNe, Nat.reduceLT, Nat.reduceSub, WLS, Try.underlying4, ty_ag_27, ty_ag_28, ty_ag_30, ty_ag_35, ty_ag_37, ty_ag_42, ty_eg_37, ty_eg_42, ty_lv_37, ty_lv_42, ty_of_30_0, ty_of_30_1, ty_of_30_2, ty_of_30_3, ty_of_37_0, ty_of_37_1, ty_of_37_2, ty_of_42_0, ty_of_42_1, ty_of_42_2, ty_ok_37, ty_ok_42, ty_pl_37_0, ty_pl_37_1, ty_pl_37_2, ty_pl_42_0, ty_pl_42_1, ty_pl_42_2, ty_sl_22, ty_sl_26, ty_sl_45, ty_sz_27, ty_sz_28, ty_sz_30, ty_sz_35, ty_sz_37, ty_sz_42, ty_ze_30, ty_ze_37, ty_ze_42]
        | (with_reducible refine drawK_id ?_); refine drawK_auto hmix (by kernel_rfl) ?_
        | (with_reducible refine draw_fin ?_ ?_); · kernel_rfl
        | (with_reducible refine draw_id ?_); kernel_rfl
        | ((with_reducible refine callK_id (f := 18) (args := [.s (.ptr 1 0 0)]) ?_); refine callK_funW [] [1, 2] (c18) (by simp [pullHW, roC, Function.comp_def, rows_pull, pullS, ix, push_V, pull_V, rwp1, clo_pull, clo_push, pw16, w16_push, pullI, push1, pushI, pushS, eV_pull]) rfl rfl (by decide) (by simp [ne_V]) (by simp [pullI, pullS, ix, kV, eV_def]) ?_; rintro r Hn ⟨rfl, rfl⟩ -; skip)
        | (with_reducible refine And.intro ?_ ?_; · omega)
      refine loopK_wk (by kernel_rfl) (I3b xs clock L R) R.length ⟨_, _, Wk.gc [0, 1, 2, 3, 4] rfl (by decide), 0, by omega, by omega, ?_, ?_, ?_, ?_⟩ ?_ <;> first | (simp [Function.comp_def, get_gcT, get, put, gcI, pullI, pullS, gcH, patL, canL, canH, canTL, canT, rows_pull, ix, segR, g0, g3, g4, g5]; done) | (simp [Function.comp_def, get_gcT, get, put, gcI, pullI, pullS, gcH, patL, canL, canH, canTL, canT, rows_pull, ix, segR, H3, tab2, pull_V, pull_acv, eV_pull]; done) | skip
      rintro mm tm H ⟨j, rfl, hj, g4, g12, g13, rfl⟩
      unfold H3 tab2
      simp only [List.cons_append, List.nil_append]
      by_cases hq2 : j < R.length
      · have p1 : decide ((j : Int) < (R.length : Int)) = true := decide_eq_true (by omega)
        have d2 : (0 : Int) ≤ (j : Int) := by omega
        have d3 : (j : Int) < (R.length : Int) := by omega
        have hj1 : IntKind.i64.wrap ((j : Int) + 1) = ((j + 1 : Nat) : Int) := by rw [wr_i64 (by omega) (by omega)]; rfl
        obtain ⟨y, hy⟩ : ∃ y, R[j]? = some y := ⟨_, List.getElem?_eq_getElem hq2⟩
        have hyl : (R.map eV)[j]? = some (eV y) := by rw [List.getElem?_map, hy]; rfl
        rw [eV_def] at hyl
        repeat' first
          | with_reducible rfl
          | simp only [p1, d2, d3, hj1, hyl, g4, g12, g13, List.length_map, Int.toNat_natCast, push_V, pull_V, rwp1, clo_pull, clo_push, pw16, w16_push, RS_, argsTM, stepE, stBuiltin, stBox, stAlloc, stLoad, stStore, stField, stExtract, stBin, stUn, stConv, stNilCheck, stFieldV, stIndex, stIndexAddr, stLen, stMin, stMax, stBuild, fillI, stBuildSlice, setRows, stMakeSlice, stAppend, srcR, segR, rdCells, stSlice, bnd, stArr, stCopy, stConv2, isIntV, cutR, byteRows, rowByte, binStr, Option.map_some, Option.map_none, eq_self, canTL, canT, canH, canL, patL, gcH, gcT, gcI, get_gcT, pullS, pullI, pushS, push1, pushI, pullHW, roC, ix, List.map_map, Function.comp_def, List.zip_cons_cons, List.zip_nil_left, List.zip_nil_right, List.range'_zero, List.range'_succ, rd, get, put, IV.cells, ofValue, seg, spl, ldIV, binInt, eqI, cellsEq, leafEq, resI, flat, isT, upd, up1, nextM, cR, ptrC, nAl, isAl, ST_, Nat.reduceAdd, Nat.reduceMul, Nat.reduceEqDiff, Nat.reduceLeDiff, ne_eq, reduceCtorEq, reduceIte, forall_const, implies_true, Int.reduceToNat, Int.reduceLE, Int.reduceLT, bne, Int.reduceEq, Int.reduceNe, Int.reduceNeg, Int.reduceAdd, Int.reduceSub, Int.reduceMul, Int.reduceBEq, Int.reduceBNe, Nat.reduceLT, Nat.reduceSub, WLS, Try.underlying4, ty_ag_27, ty_ag_28, ty_ag_30, ty_ag_35, ty_ag_37, ty_ag_42, ty_eg_37, ty_eg_42, ty_lv_37, ty_lv_42, ty_of_30_0, ty_of_30_1, ty_of_30_2, ty_of_30_3, ty_of_37_0, ty_of_37_1, ty_of_37_2, ty_of_42_0, ty_of_42_1, ty_of_42_2, ty_ok_37, ty_ok_42, ty_pl_37_0, ty_pl_37_1, ty_pl_37_2, ty_pl_42_0, ty_pl_42_1, ty_pl_42_2, ty_sl_22, ty_sl_26, ty_sl_45, ty_sz_27, ty_sz_28, ty_sz_30, ty_sz_35, ty_sz_37, ty_sz_42, ty_ze_30, ty_ze_37, ty_ze_42]
          | (with_reducible refine drawK_id ?_); refine drawK_auto hmix (by kernel_rfl) ?_
          | (with_reducible refine draw_fin ?_ ?_); · kernel_rfl
          | (with_reducible refine draw_id ?_); kernel_rfl
          | (with_reducible refine And.intro ?_ ?_; · omega)
        refine ⟨R.length - (j + 1), _, _, by omega, Wk.gc [0, 1, 2, 3, 4] rfl (by decide), j + 1, rfl, by omega, ?_, ?_, ?_, ?_⟩ <;> first | with_reducible rfl | (simp [Function.comp_def, get_gcT, get, put, gcI, pullI, pullS, gcH, patL, canL, canH, canTL, canT, rows_pull, ix, segR, g4, g12, g13]; done) | (simp [Function.comp_def, get_gcT, get, put, gcI, pullI, pullS, gcH, patL, canL, canH, canTL, canT, rows_pull, ix, segR, H3, tab2, pull_V, pull_acv, eV_pull]; done)
      · have p1 : decide ((j : Int) < (R.length : Int)) = false := decide_eq_false (by omega)
        repeat' first
          | with_reducible rfl
          | simp only [p1, g4, g12, g13, List.length_map, push_V, pull_V, rwp1, clo_pull, clo_push, pw16, w16_push, RS_, argsTM, stepE, stBuiltin, stBox, stAlloc, stLoad, stStore, stField, stExtract, stBin, stUn, stConv, stNilCheck, stFieldV, stIndex, stIndexAddr, stLen, stMin, stMax, stBuild, fillI, stBuildSlice, setRows, stMakeSlice, stAppend, srcR, segR, rdCells, stSlice, bnd, stArr, stCopy, stConv2, isIntV, cutR, byteRows, rowByte, binStr, Option.map_some, Option.map_none, eq_self, canTL, canT, canH, canL, patL, gcH, gcT, gcI, get_gcT, pullS, pullI, pushS, push1, pushI, pullHW, roC, ix, List.map_map, Function.comp_def, List.zip_cons_cons, List.zip_nil_left, List.zip_nil_right, List.range'_zero, List.range'_succ, rd, get, put, IV.cells, ofValue, seg, spl, ldIV, binInt, eqI, cellsEq, leafEq, resI, flat, isT, upd, up1, nextM, cR, ptrC, nAl, isAl, ST_, Nat.reduceAdd, Nat.reduceMul, Nat.reduceEqDiff, Nat.reduceLeDiff, ne_eq, reduceCtorEq, reduceIte, forall_const, implies_true, Int.reduceToNat, Int.reduceLE, Int.reduceLT, bne, Int.reduceEq, Int.reduceNe, Int.reduceNeg, Int.reduceAdd, Int.reduceSub, Int.reduceMul, Int.reduceBEq, Int.reduceBNe, Nat.reduceLT, Nat.reduceSub, WLS, Try.underlying4, ty_ag_27, ty_ag_28, ty_ag_30, ty_ag_35, ty_ag_37, ty_ag_42, ty_eg_37, ty_eg_42, ty_lv_37, ty_lv_42, ty_of_30_0, ty_of_30_1, ty_of_30_2, ty_of_30_3, ty_of_37_0, ty_of_37_1, ty_of_37_2, ty_of_42_0, ty_of_42_1, ty_of_42_2, ty_ok_37, ty_ok_42, ty_pl_37_0, ty_pl_37_1, ty_pl_37_2, ty_pl_42_0, ty_pl_42_1, ty_pl_42_2, ty_sl_22, ty_sl_26, ty_sl_45, ty_sz_27, ty_sz_28, ty_sz_30, ty_sz_35, ty_sz_37, ty_sz_42, ty_ze_30, ty_ze_37, ty_ze_42]
          | (with_reducible refine drawK_id ?_); refine drawK_auto hmix (by kernel_rfl) ?_
          | (with_reducible refine draw_fin ?_ ?_); · kernel_rfl
          | (with_reducible refine draw_id ?_); kernel_rfl
          | (with_reducible refine callK_id (f := 14) ?_); refine callK_fun (n14) rfl rfl ?_
          | (with_reducible refine callK_id (f := 16) ?_); refine callK_fun (n16) rfl rfl ?_
          | (with_reducible refine callK_id (f := 12) ?_); refine callK_fun (n12) rfl rfl ?_
          | (with_reducible refine callK_id (f := 18) ?_); refine callK_fun (n18) rfl rfl ?_
          | (with_reducible refine And.intro ?_ ?_; · omega)
end Go.Ev
