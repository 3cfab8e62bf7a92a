/- A part of the proof: contracts of the functions that the statement reaches. -/
import Derived.Test.YtpjgbfddlagcaaaE3
namespace Go.Ev
open Go.Proofs
set_option maxRecDepth 100000
set_option linter.unusedSimpArgs false
set_option linter.unusedVariables false
set_option maxHeartbeats 4000000
open Srt
theorem within0 (m : Int) : withinP 0 m = true := by
  unfold withinP
  have : bAnd .u32 0 65535 = 0 := rfl
  rw [this, beq_iff_eq, andNot_zero]
  have h0 : tB 0 = 0#32 := rfl
  rw [h0]
  exact BitVec.zero_and
def kx : KEY := ⟨9, fromC 10⟩
theorem kx_ne : (⟨9, fromC 12⟩ : KEY) ≠ kx := by decide +kernel
theorem law3 (m o a b : Int) (m0 : 0 ≤ m) (m1 : m ≤ 65535) (o0 : 0 ≤ o) (o1 : o ≤ 65535) (a0 : 0 ≤ a) (a1 : a ≤ 255) (b0 : 0 ≤ b) (b1 : b ≤ 255) : Fun Try.prog 3 [.a [.raw (.int .u16 m), .raw (.int .u16 o)], .s (.raw (.int .u8 a)), .s (.raw (.int .u8 b))] (.s (.raw (.bool true))) := by
  refine fun_of rfl fun X => ?_
  have rem : ∀ x : Int, 0 ≤ x → x ≤ 255 → ∃ r, IntKind.i64.wrap (Int.tmod x 16) = r ∧ IntKind.i64.wrap (1 + r) = 1 + r ∧ 0 ≤ r ∧ r ≤ 15 := fun x h0 h1 => by
    refine ⟨Int.tmod x 16, ?_, ?_, ?_, ?_⟩ <;> rw [Int.tmod_eq_emod_of_nonneg h0] <;> first | omega | (rw [wr_i64 (by omega) (by omega)])
  obtain ⟨ra, wa1, wa2, ra0, ra1⟩ := rem a a0 a1
  obtain ⟨rb, wb1, wb2, rb0, rb1⟩ := rem b b0 b1
  obtain ⟨fr, hfr, fr1, fr2⟩ : ∃ fr, 1 + ra = fr ∧ 1 ≤ fr ∧ fr ≤ 16 := ⟨_, rfl, by omega, by omega⟩
  obtain ⟨p, hp, p1, p2⟩ : ∃ p, 1 + rb = p ∧ 1 ≤ p ∧ p ≤ 16 := ⟨_, rfl, by omega, by omega⟩
  rw [hfr] at wa2
  rw [hp] at wb2
  have wm : IntKind.u32.wrap m = m := by simp [IntKind.wrap, IntKind.signed, IntKind.bits]; omega
  have wo : IntKind.u32.wrap o = o := by simp [IntKind.wrap, IntKind.signed, IntKind.bits]; omega
  have hgood : goodV 9 m 0 = 0 := by
    have h1 : badV 9 = false := rfl
    have h2 : decide (m < 65536) = true := decide_eq_true (by omega)
    have h3 : decide ((0 : Int) < 65536) = true := rfl
    simp [goodV, h1, h2, h3, within0]
  have e1 : setV 0 [] 9 m 0 = (0, 1, [⟨9, m, 0, 0⟩]) := by simp [setV, hgood, lookV, putV]
  have hgb : goodB kx p = true := by
    have h1 : (bAnd .u8 kx.m.m0 1 == 1) = false := by kernel_rfl
    simp [goodB, h1, p1, p2]
  have e2 : learnK 64 0 [] kx p = ((1, [⟨kx, p, 0, 0⟩]), zEN, false) := by simp [learnK, hgb, fullB, look, putE]
  have r10 : resS (fromC 10).m0 (fromC 10).m1 (fromC 10).m2 (fromC 10).m3 (fromC 10).m4 (fromC 10).m5 = false := by kernel_rfl
  have r12 : resS (fromC 12).m0 (fromC 12).m1 (fromC 12).m2 (fromC 12).m3 (fromC 12).m4 (fromC 12).m5 = false := by kernel_rfl
  have kxd : (⟨9, fromC 10⟩ : KEY) = kx := rfl
  obtain ⟨A, hA⟩ : ∃ A, bAnd .u32 (woP m fr) o = A := ⟨_, rfl⟩
  obtain ⟨B, hB⟩ : ∃ B, bAnd .u32 A (withP 0 p) = B := ⟨_, rfl⟩
  have q1 : portsC [⟨9, m, 0, 0⟩] [] [] fr 9 (fromC 10) o = A := by simp [portsC, lookV, lookS, look, r10, hA]
  have q2 : portsC [⟨9, m, 0, 0⟩] [] [⟨kx, p, 0, 0⟩] fr 9 (fromC 10) o = B := by simp [portsC, lookV, lookS, look, r10, kxd, hA, hB]
  have q3 : portsC [⟨9, m, 0, 0⟩] [] [⟨kx, p, 0, 0⟩] fr 9 (fromC 12) o = A := by simp [portsC, lookV, lookS, look, r12, kx_ne.symm, hA]
  have g1 : hasP A fr = false := by rw [← hA]; exact F1 m o fr
  have g2 : withinP A m = true := by rw [← hA]; exact F2 m o fr
  have g3 : withinP A o = true := by rw [← hA]; exact F3 m o fr
  have g4 : withinP B A = true := by rw [← hB]; exact F4 A _
  have g5 := count1 B (by rw [← hB]; exact F5 A p1 p2)
  have g5b : decide ((if B = 0 then (0 : Int) else 1) ≤ 1) = true := decide_eq_true (by split <;> omega)
  have g6 : (B == withP 0 p) = hasP A p := by rw [← hB]; exact F6 A p1 p2
  have c0 := tablesW
  have c1 := f16 0 [] List.nodup_nil ⟨9, m, 0, 0⟩
  have c2 := portsW 1 [⟨9, m, 0, 0⟩] 0 [] 64 1000 0 [] (by simp [NDkV]) List.nodup_nil List.nodup_nil fr 9 (fromC 10) o
  have c3 := f34 64 1000 0 [] List.nodup_nil List.nodup_nil (by simp) (by omega) (by simp) (sort_small [] (by simp)) kx p
  have c4 := portsW 1 [⟨9, m, 0, 0⟩] 0 [] 64 1000 1 [⟨kx, p, 0, 0⟩] (by simp [NDkV]) List.nodup_nil (by simp [NDk]) fr 9 (fromC 10) o
  have c5 := portsW 1 [⟨9, m, 0, 0⟩] 0 [] 64 1000 1 [⟨kx, p, 0, 0⟩] (by simp [NDkV]) List.nodup_nil (by simp [NDk]) fr 9 (fromC 12) o
  have c6 := f19 p
  simp only [e1] at c1
  rw [q1] at c2
  rw [e2] at c3
  rw [q2] at c4
  rw [q3] at c5
  unfold tabV at c1
  unfold fdbC at c3
  unfold tabsI HT at c0 c2 c4 c5
  refine callK_inline (rs := [.tmp 6]) (n := 103) Try.func3 rfl rfl rfl (by kernel_rfl) (by kernel_rfl) (by simp only [List.length_cons, List.length_nil]; decide) ?_
  repeat' first
    | with_reducible rfl
    | simp only [wa1, wa2, wb1, wb2, wm, wo, hfr, hp, g1, g2, g3, g4, g5b, g6, kxd, kC_fold, encM_len, encM_pull, encM_push, push_mV, push_mS, push_mE, rows_push1, push_one, pull_one, kC_push, kC_pull, kC_len, eR_len, eV_len, eV_pull, eV_push, e_nil, e_cons, e_gd, e_gdt, e_gdf, e_g0, e_g1, e_op, e_step, e_stepG, e_stepN, e_clo, e_cloF, e_ret, e_put, e_junk, e_skip, e_reg, e_draw, e_seq, e_cond, e_block, e_exit, e_r, e_label, e_loop, q_sn, q_sr, q_se, q_bn, q_br, q_be, q_rr, q_rn, e_res0, e_res1, e_res2, e_b, d_nil, d_cons, d_op, d_step, d_stepG, d_stepN, d_clo, d_cloF, d_ret, d_put, d_junk, d_inf, d_fin, g_not, g_and, argsTM, stepE, stBuiltin, stBox, stAlloc, stLoad, stStore, stField, stExtract, stBin, stUn, stConv, stNilCheck, stFieldV, stIndex, stIndexAddr, stLen, stMin, stMax, stBuild, fillI, stBuildSlice, setRows, stMakeSlice, stAppend, srcR, segR, rdCells, stSlice, bnd, stArr, stCopy, stConv2, isIntV, cutR, byteRows, rowByte, binStr, Option.map_some, Option.map_none, eq_self, canTL, canT, canH, canL, patL, gcH, gcT, gcI, get_gcT, pullS, pullI, pushS, push1, pushI, pullHW, roC, ix, List.map_map, Function.comp_def, List.zip_cons_cons, List.zip_nil_left, List.zip_nil_right, List.range'_zero, List.range'_succ, rd, get, put, IV.cells, ofValue, seg, spl, ldIV, binInt, eqI, cellsEq, leafEq, resI, flat, isT, upd, up1, nextM, cR, ptrC, nAl, isAl, List.length_cons, List.length_nil, List.length_append, List.length_replicate, List.length_set, Nat.reduceAdd, Nat.reduceMul, Nat.reduceEqDiff, Nat.reduceLeDiff, Nat.zero_add, Nat.add_zero, ne_eq, reduceCtorEq, not_false_eq_true, not_true_eq_false, reduceIte, true_and, and_true, and_false, false_and, and_self, List.nil_append, List.cons_append, List.append_nil, List.getElem?_cons_zero, List.getElem?_cons_succ, List.drop_succ_cons, List.drop_zero, List.take_succ_cons, List.take_zero, List.set_cons_zero, List.set_cons_succ, List.getElem?_toArray, Option.bind_some, Bool.false_eq_true, Nat.add_one_ne_zero, Nat.succ_ne_self, List.map_cons, List.map_nil, Bool.not_true, Bool.not_false, List.replicate_succ, List.replicate_zero, List.mem_cons, List.not_mem_nil, or_false, false_or, or_true, true_or, forall_const, false_implies, implies_true, true_implies, Int.reduceToNat, Int.reduceLE, Int.reduceLT, Int.cast_ofNat_Int, bne, Int.reduceEq, Int.reduceNe, Int.reduceNeg, Int.reduceAdd, Int.reduceSub, Int.reduceMul, beq_self_eq_true, Int.reduceBEq, Int.reduceBNe, Bool.true_and, Bool.false_and, Bool.and_true, Bool.and_false, Bool.true_or, Bool.false_or, Bool.or_true, Bool.or_false, Nat.reduceLT, Nat.reduceSub, Nat.zero_min, Nat.min_zero, Nat.min_self, List.flatMap_cons, List.flatMap_nil, Int.toNat_natCast, strEq_self, Bool.not_eq_true', decide_true, decide_false, WLS, Try.underlying22, Try.underlying3, Try.underlying34, Try.underlying4, Try.underlying5, ty_ag_22, ty_ag_25, ty_ag_27, ty_ag_29, ty_ar_23, ty_of_29_0, ty_of_29_2, ty_ok_36, ty_ok_43, ty_pl_36_0, ty_pl_36_1, ty_pl_43_0, ty_pl_43_1, ty_sz_22, ty_sz_25, ty_sz_27, ty_sz_29, ty_ze_29, ty_ze_36, ty_ze_43, ty_zs_96]
    | (with_reducible refine drawK_id ?_); refine drawK_auto hmix (by kernel_rfl) ?_
    | (with_reducible refine draw_fin ?_ ?_); · kernel_rfl
    | (with_reducible refine draw_id ?_); kernel_rfl
    | (with_reducible refine callD_id (f := 10) (args := [.s (.raw (.int .u64 10))]) ?_); refine callD_of (f32 10) rfl rfl ?_
    | (with_reducible refine callD_id (f := 10) (args := [.s (.raw (.int .u64 12))]) ?_); refine callD_of (f32 12) rfl rfl ?_
    | (with_reducible refine callK_id (f := 12) (args := [.s (.raw (.int .u32 A)), .s (.raw (.int .i64 fr))]) ?_); refine callK_fun (has A fr) rfl rfl ?_
    | (with_reducible refine callK_id (f := 12) ?_); refine callK_fun (has A p) rfl rfl ?_
    | (with_reducible refine callK_id (f := 13) ?_); refine callK_fun (f76 _ _) rfl rfl ?_
    | (with_reducible refine callK_id (f := 6) ?_); refine callK_fun (speaksF) rfl rfl ?_
    | ((with_reducible refine callK_id (f := 7) ?_); refine callK_funW [] [] (c0) (by simp [pullHW, roC, Function.comp_def, rows_pull, pullS, ix, pull_mV, pull_mS, pull_mE]) rfl rfl (by decide) (by simp [ne_mV, ne_mS, ne_mE]) (by simp [pullI, pullS, ix, kC_pull, kV, kC, encM]) ?_; rintro r Hn ⟨rfl, rfl⟩ -; skip)
    | ((with_reducible refine callK_id (f := 8) ?_); refine callK_funW [] [3, 4] (c1) (by simp [pullHW, roC, Function.comp_def, rows_pull, pullS, ix, pull_mV, pull_mS, pull_mE]) rfl rfl (by decide) (by simp [ne_mV, ne_mS, ne_mE]) (by simp [pullI, pullS, ix, kC_pull, kV, kC, encM, eV]) ?_; rintro r Hn ⟨rfl, rfl⟩ -; skip)
    | ((refine callD_idM (f := 9) (c := 8) (ch := mpC 0 []) rfl ?_); refine callD_new (Hw' := [.rows true 1 [[.ref 1]], mpV 1 ([⟨9, m, 0, 0⟩]), .rows true 1 [[.ref 3]], mpS 0 ([]), .rows true 3 [[.raw (.int .i64 64), .raw (.int .i64 1000), .ref 5]], mpC 0 ([])]) (Nw := []) [] [3, 4, 5, 6, 7, 8] (FunW_eq c2) (by simp [pullHW, roC, Function.comp_def, rows_pull, pullS, ix, pull_mV, pull_mS, pull_mE]) rfl rfl (by decide) (by simp [ne_mV, ne_mS, ne_mE]) (by simp [pullI, pullS, ix, kC_pull, kV, encM_pull]) (by simp) ?_)
    | ((with_reducible refine callD_id (f := 11) ?_); refine callD_new (Hw' := [.rows true 3 [[.raw (.int .i64 64), .raw (.int .i64 1000), .ref 1]], mpC 1 [⟨kx, p, 0, 0⟩]]) (Nw := []) [] [7, 8] (FunW_eq c3) (by simp [pullHW, roC, Function.comp_def, rows_pull, pullS, ix, pull_mV, pull_mS, pull_mE]) rfl rfl (by decide) (by simp [ne_mV, ne_mS, ne_mE]) (by simp [pullI, pullS, ix, kC_pull, kV, encM_pull]) (by simp) ?_)
    | ((with_reducible refine callD_id (f := 9) (args := [_, _, _, .a (encM (fromC 12)), _]) ?_); refine callD_new (Hw' := [.rows true 1 [[.ref 1]], mpV 1 ([⟨9, m, 0, 0⟩]), .rows true 1 [[.ref 3]], mpS 0 ([]), .rows true 3 [[.raw (.int .i64 64), .raw (.int .i64 1000), .ref 5]], mpC 1 ([⟨kx, p, 0, 0⟩])]) (Nw := []) [] [3, 4, 5, 6, 7, 8] (FunW_eq c5) (by simp [pullHW, roC, Function.comp_def, rows_pull, pullS, ix, pull_mV, pull_mS, pull_mE]) rfl rfl (by decide) (by simp [ne_mV, ne_mS, ne_mE]) (by simp [pullI, pullS, ix, kC_pull, kV, encM_pull]) (by simp) ?_)
    | ((with_reducible refine callD_id (f := 9) ?_); refine callD_new (Hw' := [.rows true 1 [[.ref 1]], mpV 1 ([⟨9, m, 0, 0⟩]), .rows true 1 [[.ref 3]], mpS 0 ([]), .rows true 3 [[.raw (.int .i64 64), .raw (.int .i64 1000), .ref 5]], mpC 1 ([⟨kx, p, 0, 0⟩])]) (Nw := []) [] [3, 4, 5, 6, 7, 8] (FunW_eq c4) (by simp [pullHW, roC, Function.comp_def, rows_pull, pullS, ix, pull_mV, pull_mS, pull_mE]) rfl rfl (by decide) (by simp [ne_mV, ne_mS, ne_mE]) (by simp [pullI, pullS, ix, kC_pull, kV, encM_pull]) (by simp) ?_)
    | ((with_reducible refine callK_id (f := 14) ?_); refine callK_fun g5 rfl rfl ?_)
    | ((with_reducible refine callK_id (f := 15) ?_); refine callK_funR [10] (r := .s (.raw (.int .u32 (withP 0 p)))) (by simp [pullH, roC, pullI, pullS, ix]; exact c6) rfl ?_)
    | ((with_reducible refine callK_id (f := 15) ?_); refine callK_funR [8] (r := .s (.raw (.int .u32 (withP 0 p)))) (by simp [pullH, roC, pullI, pullS, ix]; exact c6) rfl ?_)
    | (with_reducible refine And.intro ?_ ?_; · omega)
end Go.Ev
