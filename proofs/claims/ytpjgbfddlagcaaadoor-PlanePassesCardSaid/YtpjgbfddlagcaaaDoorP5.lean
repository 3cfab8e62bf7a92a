/- A part of the proof: contracts of the functions that the statement reaches. -/
import Derived.Test.YtpjgbfddlagcaaaDoorEvC
import Derived.Test.YtpjgbfddlagcaaaDoorP4
namespace Go.Ev
open Go.Proofs
set_option maxRecDepth 100000
set_option linter.unusedSimpArgs false
set_option linter.unusedVariables false
set_option maxHeartbeats 4000000
open Srt Go.RowKit
theorem ing_what (Lv : List VEN) (pv ac : Int) (fi : Bool) (n : Int) (f : FRM) : (ingC Lv pv ac fi n f).2 = 0 ∨ (ingC Lv pv ac fi n f).2 = 1 ∨ (ingC Lv pv ac fi n f).2 = 2 ∨ (ingC Lv pv ac fi n f).2 = 3 := by
  unfold ingC
  split
  · simp
  · split
    · simp
    · split <;> simp
theorem _root_.Go.Ev.Wk.fin {N : Nat} {tm tm1 tm2 : TM} {H H1 H2 : Heap} (h : Wk N tm H tm1 H1) (ht : ∀ q ∈ tm2, get tm1 q.1 = q.2) (hH : H1 = H2) : Wk N tm H tm2 H2 := by
  subst hH
  intro X n ρ a w ha hi
  obtain ⟨ρ1, h1, h2, h3⟩ := h X n ρ a w ha hi
  refine ⟨ρ1, h1, ⟨h2.size, h2.defers, fun t => ?_⟩, h3⟩
  have key : ∀ tm2 : TM, (∀ q ∈ tm2, get tm1 q.1 = q.2) → relI ρ1 (get tm2 t) (a.tmps.getD t undef) := by
    intro tm2
    induction tm2 with
    | nil => intro _; exact trivial
    | cons q tm2 ih =>
      intro hq
      obtain ⟨s, v⟩ := q
      simp only [get]
      split
      · rename_i e
        subst e
        have := hq (s, v) (by simp)
        simp only at this
        rw [← this]; exact h2.rel s
      · exact ih fun q hm => hq q (List.mem_cons_of_mem _ hm)
  exact key tm2 ht
theorem sentC_len (v u : Int) (f : FRM) (l : List Int) (h : l.length ≤ 16) : (sentC v u f l).length ≤ 16 := by
  unfold sentC
  exact Nat.le_trans (List.length_filterMap_le _ _) h
theorem upN_len (h : Int → Bool) : ∀ n, (upN h n).length ≤ n
  | 0 => Nat.le_refl _
  | n + 1 => by
    have := upN_len h n
    simp only [upN, List.length_append]
    split <;> simp <;> omega
theorem clo_pull (σ : List Nat) (fn : Fn) (f c : List IV) : mapC (pullS σ) (pullI σ) (.clo fn f c) = .clo fn (f.map (pullI σ)) (c.map (pullI σ)) := rfl
theorem clo_push (σ : List Nat) (fn : Fn) (f c : List IV) : pushC σ (.clo fn f c) = .clo fn (f.map (push1 σ)) (c.map (push1 σ)) := rfl
theorem rowV_eq (o : Option VEN) : ∃ a m u, rowV o = [.raw (.int .u16 a), .raw (.int .u32 m), .raw (.int .u32 u)] ∧ rowE o = (a, u) := by
  cases o with
  | none => exact ⟨0, 0, 0, rfl, rfl⟩
  | some e => exact ⟨e.v, e.m, e.u, rfl, rfl⟩
def HJ (l : List PRT) (cv : Nat) (Lv : List VEN) (cs : Nat) (Ls : List SEN) (n T : Int) (cf : Nat) (Lf : List EN) (f : FRM) (p : PRT) (nb gb : Bool) (a m u to : Int) (S : List (Int × FRM)) : Heap := [.rows false 21 (l.map prC), .rows true 1 [[.ref 2]], mpV cv Lv, .rows true 1 [[.ref 4]], mpS cs Ls, .rows true 3 [[.raw (.int .i64 n), .raw (.int .i64 T), .ref 6]], mpC cf Lf,
  .rows true 3 [[.ptr 1 0 0, .ptr 3 0 0, .ptr 5 0 0]], .rows true 18 [frC f], .rows true 4 [rC (.raw (.slice none 0 0)) 0 false false], .rows true 21 [prC p], .rows true 4 [rC (.slice 15 0 S.length) 7 nb gb], .rows true 3 [[.raw (.int .u16 a), .raw (.int .u32 m), .raw (.int .u32 u)]], .rows true 1 [[.raw (.int .u32 to)]], .clo (.func 44) [] [.s (.ptr 13 0 0)], .rows true 19 (S.map stC)]
theorem HJ_ro {l : List PRT} {cv : Nat} {Lv : List VEN} {cs : Nat} {Ls : List SEN} {n T : Int} {cf : Nat} {Lf : List EN} {f : FRM} {p : PRT} {nb gb : Bool} {a m u to : Int} {S S2 : List (Int × FRM)} {c sz : Nat} {els : List (List SV)}
    (h : (HJ l cv Lv cs Ls n T cf Lf f p nb gb a m u to S2)[c]? = some (.rows false sz els)) : c < 15 ∧ ∃ sz els, (HJ l cv Lv cs Ls n T cf Lf f p nb gb a m u to S)[c]? = some (.rows false sz els) := by
  unfold HJ mpV mpS mpC at h
  rcases c with _|_|_|_|_|_|_|_|_|_|_|_|_|_|_|_|c
  · exact ⟨by decide, _, _, rfl⟩
  all_goals simp at h
theorem passW (cv : Nat) (Lv : List VEN) (cs : Nat) (Ls : List SEN) (n T : Int) (cf : Nat) (Lf : List EN) (hv : NDkV Lv) (hs : NDkS Ls) (h : OKF n T cf Lf) (hn : 1 ≤ n) (hn2 : n ≤ 100000) (hT : 1 ≤ T) (l : List PRT) (hl : l.length ≤ 1000000000) (fr : Int) (f : FRM) (hx : f.x.size ≤ 100000)
    (hk : ∀ vid, KOK ⟨vid, f.s⟩) (o : Obj) (ho : ∃ t z, o = .cells #[.int .i64 0, .int .i64 3, .int .i64 4, .int .i64 5] t z) :
    FunG 0 o Tryd.prog 8 [.rows false 21 (l.map prC)] (HP l cv Lv cs Ls n T cf Lf) [.a [.ptr 1 0 0, .ptr 3 0 0, .ptr 5 0 0], .s (.slice 0 0 l.length), .s (.raw (.int .i64 fr)), .a (frC f)]
    fun r Hn => r = resP (passC Lv Ls n cf Lf l fr f).2 ∧ Hn = HP l cv Lv cs Ls n T (passC Lv Ls n cf Lf l fr f).1.1 (passC Lv Ls n cf Lf l fr f).1.2 ++ [.rows true 19 ((passC Lv Ls n cf Lf l fr f).2.sent.map stC)] := by
  obtain ⟨to_, zo_, rfl⟩ := ho
  refine funG_of rfl fun X hG => ?_
  by_cases hr : fr < 1 ∨ (l.length : Int) < fr
  · have hC : passC Lv Ls n cf Lf l fr f = ((cf, Lf), ⟨6, false, false, []⟩) := by simp only [passC]; rw [if_pos hr]
    rw [hC]
    unfold resP HP rC
    cases q1 : decide (fr < 1) with
    | true =>
      refine callK_inlineM (rs := [.cell 8 48]) (n := 115) Tryd.func8 rfl rfl rfl (by kernel_rfl) (by simp only [List.length_cons, List.length_nil]; decide) ?_
      refine evS_sound 11 _ (by kernel_rfl) _ _ _ ?_
      repeat' first
        | with_reducible rfl
        | simp only [frC, prC, encM, List.length_map, s_1, s_2, s_3, s_4, s_5, s_6, s_7, s_8, s_9, s_10, s_11, push_mV, push_mS, push_mE, rows_push1, push_one, pull_one, kC_push, kC_pull, kC_len, eR_len, eV_len, eV_pull, eV_push, q1, RS_, argsTM, stepE, stBuiltin, stBox, stAlloc, stLoad, stStore, stField, stExtract, stBin, stUn, stConv, stNilCheck, stFieldV, stIndex, stIndexAddr, stLen, stMin, stMax, stBuild, fillI, stBuildSlice, setRows, stMakeSlice, stAppend, srcR, segR, rdCells, stSlice, bnd, stArr, stCopy, stConv2, isIntV, cutR, byteRows, rowByte, binStr, Option.map_some, Option.map_none, eq_self, canTL, canT, canH, canL, patL, gcH, gcT, gcI, get_gcT, pullS, pullI, pushS, push1, pushI, pullHW, roC, ix, List.map_map, Function.comp_def, List.zip_cons_cons, List.zip_nil_left, List.zip_nil_right, List.range'_zero, List.range'_succ, rd, get, put, IV.cells, ofValue, seg, spl, ldIV, binInt, eqI, cellsEq, leafEq, resI, flat, isT, upd, up1, nextM, cR, ptrC, nAl, isAl, ST_, Nat.reduceAdd, Nat.reduceMul, Nat.reduceEqDiff, Nat.reduceLeDiff, ne_eq, reduceCtorEq, reduceIte, forall_const, implies_true, Int.reduceToNat, Int.reduceLE, Int.reduceLT, bne, Int.reduceEq, Int.reduceNe, Int.reduceNeg, Int.reduceAdd, Int.reduceSub, Int.reduceMul, Int.reduceBEq, Int.reduceBNe, Nat.reduceLT, Nat.reduceSub, WLS, ty_ag_3, ty_ag_31, ty_ag_35, ty_ag_40, ty_ag_42, ty_ag_46, ty_ag_48, ty_ag_51, ty_ag_58, ty_ag_73, ty_ar_61, ty_by_46, ty_of_35_0, ty_of_42_0, ty_of_48_0, ty_of_48_1, ty_of_58_0, ty_of_58_9, ty_ok_48, ty_ok_81, ty_pl_48_1, ty_pl_81_0, ty_pl_81_1, ty_sl_36, ty_sr_46, ty_sz_3, ty_sz_31, ty_sz_35, ty_sz_40, ty_sz_42, ty_sz_46, ty_sz_48, ty_sz_51, ty_sz_58, ty_sz_73, ty_ze_42, ty_ze_48, ty_ze_58, ty_ze_73, ty_ze_81, ty_zs_46]
        | (with_reducible refine drawK_id ?_); refine drawK_auto hmix (by kernel_rfl) ?_
        | (with_reducible refine draw_fin ?_ ?_); · kernel_rfl
        | (with_reducible refine draw_id ?_); kernel_rfl
        | (refine ⟨_, [.rows true 1 [[.ref 2]], mpV cv Lv, .rows true 1 [[.ref 4]], mpS cs Ls, .rows true 3 [[.raw (.int .i64 n), .raw (.int .i64 T), .ref 6]], mpC cf Lf] ++ [.rows true 19 []], ((WkR.nilR 0 0 19 rfl).trans (WkR.gc [0, 1, 2, 3, 4, 5, 6, 10] rfl (by decide))).to rfl ?_, by simp, rfl, rfl⟩; (simp [gcH, rows_pull, pullS, ix, prC_pull, frC, prC, pull_mV, pull_mS, pull_mE]; done))
        | (with_reducible refine And.intro ?_ ?_; · omega)
    | false =>
      have q2 : decide ((l.length : Int) < fr) = true := decide_eq_true (by have := of_decide_eq_false q1; omega)
      refine callK_inlineM (rs := [.cell 8 48]) (n := 115) Tryd.func8 rfl rfl rfl (by kernel_rfl) (by simp only [List.length_cons, List.length_nil]; decide) ?_
      refine evS_sound 11 _ (by kernel_rfl) _ _ _ ?_
      repeat' first
        | with_reducible rfl
        | simp only [frC, prC, encM, List.length_map, s_1, s_2, s_3, s_4, s_5, s_6, s_7, s_8, s_9, s_10, s_11, push_mV, push_mS, push_mE, rows_push1, push_one, pull_one, kC_push, kC_pull, kC_len, eR_len, eV_len, eV_pull, eV_push, q1, q2, RS_, argsTM, stepE, stBuiltin, stBox, stAlloc, stLoad, stStore, stField, stExtract, stBin, stUn, stConv, stNilCheck, stFieldV, stIndex, stIndexAddr, stLen, stMin, stMax, stBuild, fillI, stBuildSlice, setRows, stMakeSlice, stAppend, srcR, segR, rdCells, stSlice, bnd, stArr, stCopy, stConv2, isIntV, cutR, byteRows, rowByte, binStr, Option.map_some, Option.map_none, eq_self, canTL, canT, canH, canL, patL, gcH, gcT, gcI, get_gcT, pullS, pullI, pushS, push1, pushI, pullHW, roC, ix, List.map_map, Function.comp_def, List.zip_cons_cons, List.zip_nil_left, List.zip_nil_right, List.range'_zero, List.range'_succ, rd, get, put, IV.cells, ofValue, seg, spl, ldIV, binInt, eqI, cellsEq, leafEq, resI, flat, isT, upd, up1, nextM, cR, ptrC, nAl, isAl, ST_, Nat.reduceAdd, Nat.reduceMul, Nat.reduceEqDiff, Nat.reduceLeDiff, ne_eq, reduceCtorEq, reduceIte, forall_const, implies_true, Int.reduceToNat, Int.reduceLE, Int.reduceLT, bne, Int.reduceEq, Int.reduceNe, Int.reduceNeg, Int.reduceAdd, Int.reduceSub, Int.reduceMul, Int.reduceBEq, Int.reduceBNe, Nat.reduceLT, Nat.reduceSub, WLS, ty_ag_3, ty_ag_31, ty_ag_35, ty_ag_40, ty_ag_42, ty_ag_46, ty_ag_48, ty_ag_51, ty_ag_58, ty_ag_73, ty_ar_61, ty_by_46, ty_of_35_0, ty_of_42_0, ty_of_48_0, ty_of_48_1, ty_of_58_0, ty_of_58_9, ty_ok_48, ty_ok_81, ty_pl_48_1, ty_pl_81_0, ty_pl_81_1, ty_sl_36, ty_sr_46, ty_sz_3, ty_sz_31, ty_sz_35, ty_sz_40, ty_sz_42, ty_sz_46, ty_sz_48, ty_sz_51, ty_sz_58, ty_sz_73, ty_ze_42, ty_ze_48, ty_ze_58, ty_ze_73, ty_ze_81, ty_zs_46]
        | (with_reducible refine drawK_id ?_); refine drawK_auto hmix (by kernel_rfl) ?_
        | (with_reducible refine draw_fin ?_ ?_); · kernel_rfl
        | (with_reducible refine draw_id ?_); kernel_rfl
        | (refine ⟨_, [.rows true 1 [[.ref 2]], mpV cv Lv, .rows true 1 [[.ref 4]], mpS cs Ls, .rows true 3 [[.raw (.int .i64 n), .raw (.int .i64 T), .ref 6]], mpC cf Lf] ++ [.rows true 19 []], ((WkR.nilR 0 0 19 rfl).trans (WkR.gc [0, 1, 2, 3, 4, 5, 6, 10] rfl (by decide))).to rfl ?_, by simp, rfl, rfl⟩; (simp [gcH, rows_pull, pullS, ix, prC_pull, frC, prC, pull_mV, pull_mS, pull_mE]; done))
        | (with_reducible refine And.intro ?_ ?_; · omega)
  · have q1 : decide (fr < 1) = false := decide_eq_false (by omega)
    have q2 : decide ((l.length : Int) < fr) = false := decide_eq_false (by omega)
    obtain ⟨j, hj, hj2, hj3⟩ : ∃ j : Nat, IntKind.i64.wrap (fr - 1) = (j : Int) ∧ (fr - 1).toNat = j ∧ j < l.length := ⟨(fr - 1).toNat, by rw [wr_i64 (by omega) (by omega)]; omega, rfl, by omega⟩
    have z0 : (0 : Int) ≤ (j : Int) := by omega
    have z1 : (j : Int) < (l.length : Int) := by omega
    obtain ⟨p, hp⟩ : ∃ p, l[j]? = some p := ⟨_, List.getElem?_eq_getElem hj3⟩
    have hel : (l.map prC)[j]? = some (prC p) := by rw [List.getElem?_map, hp]; rfl
    have c9 := onW p
    have c10 := f81 f.d.m0 f.d.m1 f.d.m2 f.d.m3 f.d.m4 f.d.m5
    have hC : passC Lv Ls n cf Lf l fr f = if !onP p || p.st == 0 then ((cf, Lf), ⟨6, false, false, []⟩) else if resS f.d.m0 f.d.m1 f.d.m2 f.d.m3 f.d.m4 f.d.m5 then ((cf, Lf), ⟨2, false, false, []⟩)
      else if (ingC Lv p.pv p.ac p.fi fr f).2 = 0 then passT Lv Ls n cf Lf l fr f p (ingC Lv p.pv p.ac p.fi fr f).1 else ((cf, Lf), ⟨whyN (ingC Lv p.pv p.ac p.fi fr f).2, false, false, []⟩) := by
      simp only [passC]; rw [if_neg hr, hj2, hp]
    cases e1 : onP p with
    | false =>
      rw [e1] at c9 hC
      simp only [Bool.not_false, Bool.true_or, if_true] at hC
      rw [hC]
      unfold resP HP rC
      refine callK_inlineM (rs := [.cell 8 48]) (n := 115) Tryd.func8 rfl rfl rfl (by kernel_rfl) (by simp only [List.length_cons, List.length_nil]; decide) ?_
      refine evS_sound 11 _ (by kernel_rfl) _ _ _ ?_
      repeat' first
        | with_reducible rfl
        | simp only [frC, prC, encM, List.length_map, s_1, s_2, s_3, s_4, s_5, s_6, s_7, s_8, s_9, s_10, s_11, push_mV, push_mS, push_mE, rows_push1, push_one, pull_one, kC_push, kC_pull, kC_len, eR_len, eV_len, eV_pull, eV_push, q1, q2, z0, z1, hj, hel, Int.toNat_natCast, RS_, argsTM, stepE, stBuiltin, stBox, stAlloc, stLoad, stStore, stField, stExtract, stBin, stUn, stConv, stNilCheck, stFieldV, stIndex, stIndexAddr, stLen, stMin, stMax, stBuild, fillI, stBuildSlice, setRows, stMakeSlice, stAppend, srcR, segR, rdCells, stSlice, bnd, stArr, stCopy, stConv2, isIntV, cutR, byteRows, rowByte, binStr, Option.map_some, Option.map_none, eq_self, canTL, canT, canH, canL, patL, gcH, gcT, gcI, get_gcT, pullS, pullI, pushS, push1, pushI, pullHW, roC, ix, List.map_map, Function.comp_def, List.zip_cons_cons, List.zip_nil_left, List.zip_nil_right, List.range'_zero, List.range'_succ, rd, get, put, IV.cells, ofValue, seg, spl, ldIV, binInt, eqI, cellsEq, leafEq, resI, flat, isT, upd, up1, nextM, cR, ptrC, nAl, isAl, ST_, Nat.reduceAdd, Nat.reduceMul, Nat.reduceEqDiff, Nat.reduceLeDiff, ne_eq, reduceCtorEq, reduceIte, forall_const, implies_true, Int.reduceToNat, Int.reduceLE, Int.reduceLT, bne, Int.reduceEq, Int.reduceNe, Int.reduceNeg, Int.reduceAdd, Int.reduceSub, Int.reduceMul, Int.reduceBEq, Int.reduceBNe, Nat.reduceLT, Nat.reduceSub, WLS, ty_ag_3, ty_ag_31, ty_ag_35, ty_ag_40, ty_ag_42, ty_ag_46, ty_ag_48, ty_ag_51, ty_ag_58, ty_ag_73, ty_ar_61, ty_by_46, ty_of_35_0, ty_of_42_0, ty_of_48_0, ty_of_48_1, ty_of_58_0, ty_of_58_9, ty_ok_48, ty_ok_81, ty_pl_48_1, ty_pl_81_0, ty_pl_81_1, ty_sl_36, ty_sr_46, ty_sz_3, ty_sz_31, ty_sz_35, ty_sz_40, ty_sz_42, ty_sz_46, ty_sz_48, ty_sz_51, ty_sz_58, ty_sz_73, ty_ze_42, ty_ze_48, ty_ze_58, ty_ze_73, ty_ze_81, ty_zs_46]
        | (with_reducible refine drawK_id ?_); refine drawK_auto hmix (by kernel_rfl) ?_
        | (with_reducible refine draw_fin ?_ ?_); · kernel_rfl
        | (with_reducible refine draw_id ?_); kernel_rfl
        | ((with_reducible refine callK_id (f := 9) ?_); refine callK_fun c9 rfl rfl ?_)
        | (refine ⟨_, [.rows true 1 [[.ref 2]], mpV cv Lv, .rows true 1 [[.ref 4]], mpS cs Ls, .rows true 3 [[.raw (.int .i64 n), .raw (.int .i64 T), .ref 6]], mpC cf Lf] ++ [.rows true 19 []], ((WkR.nilR 0 0 19 rfl).trans (WkR.gc [0, 1, 2, 3, 4, 5, 6, 10] rfl (by decide))).to rfl ?_, by simp, rfl, rfl⟩; (simp [gcH, rows_pull, pullS, ix, prC_pull, frC, prC, pull_mV, pull_mS, pull_mE]; done))
        | (with_reducible refine And.intro ?_ ?_; · omega)
    | true =>
      rw [e1] at c9 hC
      cases e2 : (p.st == 0) with
      | true =>
        rw [e2] at hC
        simp only [Bool.or_true, if_true] at hC
        rw [hC]
        unfold resP HP rC
        refine callK_inlineM (rs := [.cell 8 48]) (n := 115) Tryd.func8 rfl rfl rfl (by kernel_rfl) (by simp only [List.length_cons, List.length_nil]; decide) ?_
        refine evS_sound 11 _ (by kernel_rfl) _ _ _ ?_
        repeat' first
          | with_reducible rfl
          | simp only [frC, prC, encM, List.length_map, s_1, s_2, s_3, s_4, s_5, s_6, s_7, s_8, s_9, s_10, s_11, push_mV, push_mS, push_mE, rows_push1, push_one, pull_one, kC_push, kC_pull, kC_len, eR_len, eV_len, eV_pull, eV_push, q1, q2, z0, z1, hj, hel, Int.toNat_natCast, e2, RS_, argsTM, stepE, stBuiltin, stBox, stAlloc, stLoad, stStore, stField, stExtract, stBin, stUn, stConv, stNilCheck, stFieldV, stIndex, stIndexAddr, stLen, stMin, stMax, stBuild, fillI, stBuildSlice, setRows, stMakeSlice, stAppend, srcR, segR, rdCells, stSlice, bnd, stArr, stCopy, stConv2, isIntV, cutR, byteRows, rowByte, binStr, Option.map_some, Option.map_none, eq_self, canTL, canT, canH, canL, patL, gcH, gcT, gcI, get_gcT, pullS, pullI, pushS, push1, pushI, pullHW, roC, ix, List.map_map, Function.comp_def, List.zip_cons_cons, List.zip_nil_left, List.zip_nil_right, List.range'_zero, List.range'_succ, rd, get, put, IV.cells, ofValue, seg, spl, ldIV, binInt, eqI, cellsEq, leafEq, resI, flat, isT, upd, up1, nextM, cR, ptrC, nAl, isAl, ST_, Nat.reduceAdd, Nat.reduceMul, Nat.reduceEqDiff, Nat.reduceLeDiff, ne_eq, reduceCtorEq, reduceIte, forall_const, implies_true, Int.reduceToNat, Int.reduceLE, Int.reduceLT, bne, Int.reduceEq, Int.reduceNe, Int.reduceNeg, Int.reduceAdd, Int.reduceSub, Int.reduceMul, Int.reduceBEq, Int.reduceBNe, Nat.reduceLT, Nat.reduceSub, WLS, ty_ag_3, ty_ag_31, ty_ag_35, ty_ag_40, ty_ag_42, ty_ag_46, ty_ag_48, ty_ag_51, ty_ag_58, ty_ag_73, ty_ar_61, ty_by_46, ty_of_35_0, ty_of_42_0, ty_of_48_0, ty_of_48_1, ty_of_58_0, ty_of_58_9, ty_ok_48, ty_ok_81, ty_pl_48_1, ty_pl_81_0, ty_pl_81_1, ty_sl_36, ty_sr_46, ty_sz_3, ty_sz_31, ty_sz_35, ty_sz_40, ty_sz_42, ty_sz_46, ty_sz_48, ty_sz_51, ty_sz_58, ty_sz_73, ty_ze_42, ty_ze_48, ty_ze_58, ty_ze_73, ty_ze_81, ty_zs_46]
          | (with_reducible refine drawK_id ?_); refine drawK_auto hmix (by kernel_rfl) ?_
          | (with_reducible refine draw_fin ?_ ?_); · kernel_rfl
          | (with_reducible refine draw_id ?_); kernel_rfl
          | ((with_reducible refine callK_id (f := 9) ?_); refine callK_fun c9 rfl rfl ?_)
          | (refine ⟨_, [.rows true 1 [[.ref 2]], mpV cv Lv, .rows true 1 [[.ref 4]], mpS cs Ls, .rows true 3 [[.raw (.int .i64 n), .raw (.int .i64 T), .ref 6]], mpC cf Lf] ++ [.rows true 19 []], ((WkR.nilR 0 0 19 rfl).trans (WkR.gc [0, 1, 2, 3, 4, 5, 6, 10] rfl (by decide))).to rfl ?_, by simp, rfl, rfl⟩; (simp [gcH, rows_pull, pullS, ix, prC_pull, frC, prC, pull_mV, pull_mS, pull_mE]; done))
          | (with_reducible refine And.intro ?_ ?_; · omega)
      | false =>
        rw [e2] at hC
        simp only [Bool.not_true, Bool.or_false, Bool.false_eq_true, if_false] at hC
        cases e3 : resS f.d.m0 f.d.m1 f.d.m2 f.d.m3 f.d.m4 f.d.m5 with
        | true =>
          rw [e3] at c10 hC
          simp only [if_true] at hC
          rw [hC]
          unfold resP HP rC
          refine callK_inlineM (rs := [.cell 8 48]) (n := 115) Tryd.func8 rfl rfl rfl (by kernel_rfl) (by simp only [List.length_cons, List.length_nil]; decide) ?_
          refine evS_sound 11 _ (by kernel_rfl) _ _ _ ?_
          repeat' first
            | with_reducible rfl
            | simp only [frC, prC, encM, List.length_map, s_1, s_2, s_3, s_4, s_5, s_6, s_7, s_8, s_9, s_10, s_11, push_mV, push_mS, push_mE, rows_push1, push_one, pull_one, kC_push, kC_pull, kC_len, eR_len, eV_len, eV_pull, eV_push, q1, q2, z0, z1, hj, hel, Int.toNat_natCast, e2, RS_, argsTM, stepE, stBuiltin, stBox, stAlloc, stLoad, stStore, stField, stExtract, stBin, stUn, stConv, stNilCheck, stFieldV, stIndex, stIndexAddr, stLen, stMin, stMax, stBuild, fillI, stBuildSlice, setRows, stMakeSlice, stAppend, srcR, segR, rdCells, stSlice, bnd, stArr, stCopy, stConv2, isIntV, cutR, byteRows, rowByte, binStr, Option.map_some, Option.map_none, eq_self, canTL, canT, canH, canL, patL, gcH, gcT, gcI, get_gcT, pullS, pullI, pushS, push1, pushI, pullHW, roC, ix, List.map_map, Function.comp_def, List.zip_cons_cons, List.zip_nil_left, List.zip_nil_right, List.range'_zero, List.range'_succ, rd, get, put, IV.cells, ofValue, seg, spl, ldIV, binInt, eqI, cellsEq, leafEq, resI, flat, isT, upd, up1, nextM, cR, ptrC, nAl, isAl, ST_, Nat.reduceAdd, Nat.reduceMul, Nat.reduceEqDiff, Nat.reduceLeDiff, ne_eq, reduceCtorEq, reduceIte, forall_const, implies_true, Int.reduceToNat, Int.reduceLE, Int.reduceLT, bne, Int.reduceEq, Int.reduceNe, Int.reduceNeg, Int.reduceAdd, Int.reduceSub, Int.reduceMul, Int.reduceBEq, Int.reduceBNe, Nat.reduceLT, Nat.reduceSub, WLS, ty_ag_3, ty_ag_31, ty_ag_35, ty_ag_40, ty_ag_42, ty_ag_46, ty_ag_48, ty_ag_51, ty_ag_58, ty_ag_73, ty_ar_61, ty_by_46, ty_of_35_0, ty_of_42_0, ty_of_48_0, ty_of_48_1, ty_of_58_0, ty_of_58_9, ty_ok_48, ty_ok_81, ty_pl_48_1, ty_pl_81_0, ty_pl_81_1, ty_sl_36, ty_sr_46, ty_sz_3, ty_sz_31, ty_sz_35, ty_sz_40, ty_sz_42, ty_sz_46, ty_sz_48, ty_sz_51, ty_sz_58, ty_sz_73, ty_ze_42, ty_ze_48, ty_ze_58, ty_ze_73, ty_ze_81, ty_zs_46]
            | (with_reducible refine drawK_id ?_); refine drawK_auto hmix (by kernel_rfl) ?_
            | (with_reducible refine draw_fin ?_ ?_); · kernel_rfl
            | (with_reducible refine draw_id ?_); kernel_rfl
            | ((with_reducible refine callK_id (f := 9) ?_); refine callK_fun c9 rfl rfl ?_)
            | ((with_reducible refine callK_id (f := 10) ?_); refine callK_fun c10 rfl rfl ?_)
            | (refine ⟨_, [.rows true 1 [[.ref 2]], mpV cv Lv, .rows true 1 [[.ref 4]], mpS cs Ls, .rows true 3 [[.raw (.int .i64 n), .raw (.int .i64 T), .ref 6]], mpC cf Lf] ++ [.rows true 19 []], ((WkR.nilR 0 0 19 rfl).trans (WkR.gc [0, 1, 2, 3, 4, 5, 6, 11] rfl (by decide))).to rfl ?_, by simp, rfl, rfl⟩; (simp [gcH, rows_pull, pullS, ix, prC_pull, frC, prC, pull_mV, pull_mS, pull_mE]; done))
            | (with_reducible refine And.intro ?_ ?_; · omega)
        | false =>
          rw [e3] at c10 hC
          simp only [Bool.false_eq_true, if_false] at hC
          have c11 := ingW cv Lv hv p.pv p.ac p.fi fr f
          unfold tabV at c11
          have hwh := ing_what Lv p.pv p.ac p.fi fr f
          generalize ingC Lv p.pv p.ac p.fi fr f = I at c11 hC hwh
          obtain ⟨vid, what⟩ := I
          simp only at c11 hC hwh
          rcases hwh with rfl | rfl | rfl | rfl
          · rw [if_pos rfl] at hC
            have hkv := hk vid
            have hOK := learn_okF h hn hT hkv fr
            have c27 := learnW n T cf Lf h hn hn2 vid f hkv fr hOK.k
            simp only [passT, toC] at hC
            generalize newB n cf Lf ⟨vid, f.s⟩ fr = nb at c27 hC
            generalize learnK n cf Lf ⟨vid, f.s⟩ fr = K at c27 hC hOK
            obtain ⟨⟨c2, L2⟩, ge, gb⟩ := K
            simp only at c27 hC hOK
            unfold rC at c27
            cases e4 : (p.st == 1) with
            | true =>
              rw [e4] at hC
              simp only [if_true] at hC
              rw [hC]
              unfold resP HP rC
              refine callK_inlineM (rs := [.cell 8 48]) (n := 115) Tryd.func8 rfl rfl rfl (by kernel_rfl) (by simp only [List.length_cons, List.length_nil]; decide) ?_
              refine evS_sound 11 _ (by kernel_rfl) _ _ _ ?_
              repeat' first
                | with_reducible rfl
                | simp only [frC, prC, encM, List.length_map, s_1, s_2, s_3, s_4, s_5, s_6, s_7, s_8, s_9, s_10, s_11, push_mV, push_mS, push_mE, rows_push1, push_one, pull_one, kC_push, kC_pull, kC_len, eR_len, eV_len, eV_pull, eV_push, q1, q2, z0, z1, hj, hel, Int.toNat_natCast, e2, e4, RS_, argsTM, stepE, stBuiltin, stBox, stAlloc, stLoad, stStore, stField, stExtract, stBin, stUn, stConv, stNilCheck, stFieldV, stIndex, stIndexAddr, stLen, stMin, stMax, stBuild, fillI, stBuildSlice, setRows, stMakeSlice, stAppend, srcR, segR, rdCells, stSlice, bnd, stArr, stCopy, stConv2, isIntV, cutR, byteRows, rowByte, binStr, Option.map_some, Option.map_none, eq_self, canTL, canT, canH, canL, patL, gcH, gcT, gcI, get_gcT, pullS, pullI, pushS, push1, pushI, pullHW, roC, ix, List.map_map, Function.comp_def, List.zip_cons_cons, List.zip_nil_left, List.zip_nil_right, List.range'_zero, List.range'_succ, rd, get, put, IV.cells, ofValue, seg, spl, ldIV, binInt, eqI, cellsEq, leafEq, resI, flat, isT, upd, up1, nextM, cR, ptrC, nAl, isAl, ST_, Nat.reduceAdd, Nat.reduceMul, Nat.reduceEqDiff, Nat.reduceLeDiff, ne_eq, reduceCtorEq, reduceIte, forall_const, implies_true, Int.reduceToNat, Int.reduceLE, Int.reduceLT, bne, Int.reduceEq, Int.reduceNe, Int.reduceNeg, Int.reduceAdd, Int.reduceSub, Int.reduceMul, Int.reduceBEq, Int.reduceBNe, Nat.reduceLT, Nat.reduceSub, WLS, ty_ag_3, ty_ag_31, ty_ag_35, ty_ag_40, ty_ag_42, ty_ag_46, ty_ag_48, ty_ag_51, ty_ag_58, ty_ag_73, ty_ar_61, ty_by_46, ty_of_35_0, ty_of_42_0, ty_of_48_0, ty_of_48_1, ty_of_58_0, ty_of_58_9, ty_ok_48, ty_ok_81, ty_pl_48_1, ty_pl_81_0, ty_pl_81_1, ty_sl_36, ty_sr_46, ty_sz_3, ty_sz_31, ty_sz_35, ty_sz_40, ty_sz_42, ty_sz_46, ty_sz_48, ty_sz_51, ty_sz_58, ty_sz_73, ty_ze_42, ty_ze_48, ty_ze_58, ty_ze_73, ty_ze_81, ty_zs_46]
                | (with_reducible refine drawK_id ?_); refine drawK_auto hmix (by kernel_rfl) ?_
                | (with_reducible refine draw_fin ?_ ?_); · kernel_rfl
                | (with_reducible refine draw_id ?_); kernel_rfl
                | ((with_reducible refine callK_id (f := 9) ?_); refine callK_fun c9 rfl rfl ?_)
                | ((with_reducible refine callK_id (f := 10) ?_); refine callK_fun c10 rfl rfl ?_)
                | ((with_reducible refine callK_id (f := 11) ?_); refine callK_funW [] [1, 2] (c11) (by simp [pullHW, roC, Function.comp_def, rows_pull, pullS, ix, pull_mV, pull_mS, pull_mE]) rfl rfl (by decide) (by simp [ne_mV, ne_mS, ne_mE]) (by simp [pullI, pullS, ix, kC_pull, kV, kC, encM, frC]) ?_; rintro r Hn ⟨rfl, rfl⟩ -; skip)
                | ((with_reducible refine callK_id (f := 27) ?_); refine callK_funW [] [11, 5, 6] (c27) (by simp [pullHW, roC, Function.comp_def, rows_pull, pullS, ix, pull_mV, pull_mS, pull_mE]) rfl rfl (by decide) (by simp [ne_mV, ne_mS, ne_mE]) (by simp [pullI, pullS, ix, kC_pull, kV, kC, encM, frC]) ?_; rintro r Hn ⟨rfl, rfl⟩ -; skip)
                | (refine ⟨_, [.rows true 1 [[.ref 2]], mpV cv Lv, .rows true 1 [[.ref 4]], mpS cs Ls, .rows true 3 [[.raw (.int .i64 n), .raw (.int .i64 T), .ref 6]], mpC c2 L2] ++ [.rows true 19 []], ((WkR.nilR 0 0 19 rfl).trans (WkR.gc [0, 1, 2, 3, 4, 5, 6, 12] rfl (by decide))).to rfl ?_, by simp, rfl, rfl⟩; (simp [gcH, rows_pull, pullS, ix, prC_pull, frC, prC, pull_mV, pull_mS, pull_mE]; done))
                | (with_reducible refine And.intro ?_ ?_; · omega)
            | false =>
              rw [e4] at hC
              simp only [Bool.false_eq_true, if_false] at hC
              obtain ⟨a, m, u, hrow, hre⟩ := rowV_eq (lookV Lv vid)
              have c16 := f14 cv Lv hv vid
              rw [hrow] at c16
              unfold tabV at c16
              rw [hre] at hC
              generalize (lookV Lv vid).isSome = lks at c16
              have c17 := portsW cv Lv cs Ls n T c2 L2 hv hs hOK.k fr vid f.d (openC l)
              obtain ⟨to, hto⟩ : ∃ to, portsC Lv Ls L2 fr vid f.d (openC l) = to := ⟨_, rfl⟩
              rw [hto] at c17 hC
              unfold tabsI HT at c17
              have c29 := allW to
              rw [hC]
              unfold resP HP rC
              refine callK_inlineM (rs := [.cell 8 48]) (n := 115) Tryd.func8 rfl rfl rfl (by kernel_rfl) (by simp only [List.length_cons, List.length_nil]; decide) ?_
              refine evS_sound 11 _ (by kernel_rfl) _ _ _ ?_
              repeat' first
                | with_reducible rfl
                | simp only [frC, prC, encM, kV, List.length_map, s_1, s_2, s_3, s_4, s_5, s_6, s_7, s_8, s_9, s_10, s_11, push_mV, push_mS, push_mE, rows_push1, push_one, pull_one, kC_push, kC_pull, kC_len, eR_len, eV_len, eV_pull, eV_push, q1, q2, z0, z1, hj, hel, Int.toNat_natCast, e2, e4, s_0, RS_, argsTM, stepE, stBuiltin, stBox, stAlloc, stLoad, stStore, stField, stExtract, stBin, stUn, stConv, stNilCheck, stFieldV, stIndex, stIndexAddr, stLen, stMin, stMax, stBuild, fillI, stBuildSlice, setRows, stMakeSlice, stAppend, srcR, segR, rdCells, stSlice, bnd, stArr, stCopy, stConv2, isIntV, cutR, byteRows, rowByte, binStr, Option.map_some, Option.map_none, eq_self, canTL, canT, canH, canL, patL, gcH, gcT, gcI, get_gcT, pullS, pullI, pushS, push1, pushI, pullHW, roC, ix, List.map_map, Function.comp_def, List.zip_cons_cons, List.zip_nil_left, List.zip_nil_right, List.range'_zero, List.range'_succ, rd, get, put, IV.cells, ofValue, seg, spl, ldIV, binInt, eqI, cellsEq, leafEq, resI, flat, isT, upd, up1, nextM, cR, ptrC, nAl, isAl, ST_, Nat.reduceAdd, Nat.reduceMul, Nat.reduceEqDiff, Nat.reduceLeDiff, ne_eq, reduceCtorEq, reduceIte, forall_const, implies_true, Int.reduceToNat, Int.reduceLE, Int.reduceLT, bne, Int.reduceEq, Int.reduceNe, Int.reduceNeg, Int.reduceAdd, Int.reduceSub, Int.reduceMul, Int.reduceBEq, Int.reduceBNe, Nat.reduceLT, Nat.reduceSub, WLS, ty_ag_3, ty_ag_31, ty_ag_35, ty_ag_40, ty_ag_42, ty_ag_46, ty_ag_48, ty_ag_51, ty_ag_58, ty_ag_73, ty_ar_61, ty_by_46, ty_of_35_0, ty_of_42_0, ty_of_48_0, ty_of_48_1, ty_of_58_0, ty_of_58_9, ty_ok_48, ty_ok_81, ty_pl_48_1, ty_pl_81_0, ty_pl_81_1, ty_sl_36, ty_sr_46, ty_sz_3, ty_sz_31, ty_sz_35, ty_sz_40, ty_sz_42, ty_sz_46, ty_sz_48, ty_sz_51, ty_sz_58, ty_sz_73, ty_ze_42, ty_ze_48, ty_ze_58, ty_ze_73, ty_ze_81, ty_zs_46]
                | (with_reducible refine draw_fin ?_ ?_); · kernel_rfl
                | (with_reducible refine draw_id ?_); kernel_rfl
                | ((with_reducible refine callK_id (f := 9) ?_); refine callK_fun c9 rfl rfl ?_)
                | ((with_reducible refine callK_id (f := 10) ?_); refine callK_fun c10 rfl rfl ?_)
                | ((with_reducible refine callK_id (f := 11) ?_); refine callK_funW [] [1, 2] (c11) (by simp [pullHW, roC, Function.comp_def, rows_pull, pullS, ix, pull_mV, pull_mS, pull_mE]) rfl rfl (by decide) (by simp [ne_mV, ne_mS, ne_mE]) (by simp [pullI, pullS, ix, kC_pull, kV, kC, encM, frC]) ?_; rintro r Hn ⟨rfl, rfl⟩ -; skip)
                | ((with_reducible refine callK_id (f := 27) ?_); refine callK_funW [] [11, 5, 6] (c27) (by simp [pullHW, roC, Function.comp_def, rows_pull, pullS, ix, pull_mV, pull_mS, pull_mE]) rfl rfl (by decide) (by simp [ne_mV, ne_mS, ne_mE]) (by simp [pullI, pullS, ix, kC_pull, kV, kC, encM, frC]) ?_; rintro r Hn ⟨rfl, rfl⟩ -; skip)
                | ((with_reducible refine callK_id (f := 16) ?_); refine callK_funW [] [1, 2] (c16) (by simp [pullHW, roC, Function.comp_def, rows_pull, pullS, ix, pull_mV, pull_mS, pull_mE]) rfl rfl (by decide) (by simp [ne_mV, ne_mS, ne_mE]) (by simp [pullI, pullS, ix, kC_pull, kV, kC, encM]) ?_; rintro r Hn ⟨rfl, rfl⟩ -; skip)
                | (with_reducible refine And.intro ?_ ?_; · omega)
              refine IW_part (N := 15) [(96, .s (.ref 14)), (7, .s (.ptr 8 0 0)), (8, .s (.ptr 9 0 0)), (12, .s (.ptr 11 0 0)), (13, .s (.ptr 12 0 0))] (HJ l cv Lv cs Ls n T c2 L2 f p nb gb a m u to []) (by show (7 : Nat) ≤ 15; decide) (by simp [HJ]) rfl (by kernel_rfl) ?hr ?hB
              case hr =>
                repeat' first
                  | with_reducible rfl
                  | simp only [frC, prC, encM, kV, List.length_map, s_1, s_2, s_3, s_4, s_5, s_6, s_7, s_8, s_9, s_10, s_11, push_mV, push_mS, push_mE, rows_push1, push_one, pull_one, kC_push, kC_pull, kC_len, eR_len, eV_len, eV_pull, eV_push, q1, q2, z0, z1, hj, hel, Int.toNat_natCast, e2, e4, RS_, argsTM, stepE, stBuiltin, stBox, stAlloc, stLoad, stStore, stField, stExtract, stBin, stUn, stConv, stNilCheck, stFieldV, stIndex, stIndexAddr, stLen, stMin, stMax, stBuild, fillI, stBuildSlice, setRows, stMakeSlice, stAppend, srcR, segR, rdCells, stSlice, bnd, stArr, stCopy, stConv2, isIntV, cutR, byteRows, rowByte, binStr, Option.map_some, Option.map_none, eq_self, canTL, canT, canH, canL, patL, gcH, gcT, gcI, get_gcT, pullS, pullI, pushS, push1, pushI, pullHW, roC, ix, List.map_map, Function.comp_def, List.zip_cons_cons, List.zip_nil_left, List.zip_nil_right, List.range'_zero, List.range'_succ, rd, get, put, IV.cells, ofValue, seg, spl, ldIV, binInt, eqI, cellsEq, leafEq, resI, flat, isT, upd, up1, nextM, cR, ptrC, nAl, isAl, ST_, Nat.reduceAdd, Nat.reduceMul, Nat.reduceEqDiff, Nat.reduceLeDiff, ne_eq, reduceCtorEq, reduceIte, forall_const, implies_true, Int.reduceToNat, Int.reduceLE, Int.reduceLT, bne, Int.reduceEq, Int.reduceNe, Int.reduceNeg, Int.reduceAdd, Int.reduceSub, Int.reduceMul, Int.reduceBEq, Int.reduceBNe, Nat.reduceLT, Nat.reduceSub, WLS, ty_ag_3, ty_ag_31, ty_ag_35, ty_ag_40, ty_ag_42, ty_ag_46, ty_ag_48, ty_ag_51, ty_ag_58, ty_ag_73, ty_ar_61, ty_by_46, ty_of_35_0, ty_of_42_0, ty_of_48_0, ty_of_48_1, ty_of_58_0, ty_of_58_9, ty_ok_48, ty_ok_81, ty_pl_48_1, ty_pl_81_0, ty_pl_81_1, ty_sl_36, ty_sr_46, ty_sz_3, ty_sz_31, ty_sz_35, ty_sz_40, ty_sz_42, ty_sz_46, ty_sz_48, ty_sz_51, ty_sz_58, ty_sz_73, ty_ze_42, ty_ze_48, ty_ze_58, ty_ze_73, ty_ze_81, ty_zs_46]
                  | (with_reducible refine drawK_id (id := 16) ?_); refine drawK_of 2 hmix (by kernel_rfl) ?_
                  | (with_reducible refine drawK_id ?_); refine drawK_auto hmix (by kernel_rfl) ?_
                  | (with_reducible refine draw_fin ?_ ?_); · kernel_rfl
                  | (with_reducible refine draw_id ?_); kernel_rfl
                  | ((with_reducible refine callD_id (f := 28) ?_); refine callD_read [0] (openW l hl) (by simp [pullH, roC, Function.comp_def, rows_pull, prC_pull, prC, pullS]) (by simp [pullI, pullS, ix]) rfl ?_)
                  | ((with_reducible refine callD_id (f := 17) ?_); refine callD_new (Hw' := [.rows true 1 [[.ref 1]], mpV cv Lv, .rows true 1 [[.ref 3]], mpS cs Ls, .rows true 3 [[.raw (.int .i64 n), .raw (.int .i64 T), .ref 5]], mpC c2 L2]) (Nw := []) [] [1, 2, 3, 4, 5, 6] (FunW_eq c17) (by simp [pullHW, roC, Function.comp_def, rows_pull, pullS, ix, pull_mV, pull_mS, pull_mE]) rfl rfl (by decide) (by simp [ne_mV, ne_mS, ne_mE]) (by simp [pullI, pullS, ix, kC_pull, kV, kC, encM]) (by simp) ?_)
                  | ((with_reducible refine callD_id (f := 29) ?_); refine callD_new (Hw' := []) (Nw := [.rows true 1 [[.raw (.int .u32 to)]], .clo (.func 44) [] [.s (.ptr 0 0 0)]]) [] [] (FunW_eq c29) (by simp [pullHW, roC, Function.comp_def, rows_pull, pullS, ix, pull_mV, pull_mS, pull_mE]) rfl rfl (by decide) (by simp [ne_mV, ne_mS, ne_mE]) (by simp [pullI, pullS, ix, kC_pull, kV, kC, encM]) (by simp) ?_)
                  | (with_reducible refine And.intro ?_ ?_; · omega)
                refine (Wk.can [(19, 11, 0, 0)] [.inl 0, .inl 1, .inl 2, .inl 3, .inl 4, .inl 5, .inl 6, .inl 7, .inl 8, .inl 9, .inl 10, .inl 11, .inl 12, .inl 13, .inl 14, .inr 0] rfl (by simp [patL])).fin ?_ ?_
                · simp [Function.comp_def, get_gcT, get, put, gcI, pullI, pullS, gcH, patL, canL, canH, canTL, canT, rows_pull, ix]
                · simp [Function.comp_def, get_gcT, get, put, gcI, pullI, pullS, gcH, patL, canL, canH, canTL, canT, rows_pull, ix, HJ, rC, prC_pull, prC, frC, clo_pull, clo_push, pushI, pushS, push1, stC_pull, pull_mV, pull_mS, pull_mE]
              case hB =>
                intro ρ a_ w ha hi
                obtain ⟨b, base, sz, lim, hd, hg⟩ := clo_at (c := 14) (d := 13) (t := 96) ha hi rfl rfl
                refine range_tail (N := 15) (v := fun x : Int => .int .i64 x) (gf := 44) (X := X) (k := _) rfl rfl rfl rfl (by show (7 : Nat) ≤ 15; decide) (by simp [HJ]) rfl (upN (hasP to) 16) (fun W => W.cell? ⟨b, base, none⟩ = some (.int .u32 to)) (fun xs H => H = HJ l cv Lv cs Ls n T c2 L2 f p nb gb a m u to (sentC a u f xs)) ha hi hg (by kernel_rfl) (all1_iter (hasP to) to (has to) b base) (tm_holds rfl ha) (fun _ _ => ⟨rfl, rfl⟩) (by decide) (by decide) rfl ?ro ?ic ?body ?tail
                case ro =>
                  rintro pre pre2 _ _ rfl rfl c sz els hc
                  exact HJ_ro hc
                case ic =>
                  rintro pre _ ρ1 W rfl hle hi1
                  exact cell_at (d := 13) hi1 rfl (hle.get 13 _ (by decide) hd (by simp))
                case body =>
                  rintro pre x hpre _ rfl X1 hN1 hdl1
                  have hlen := sentC_len a u f pre (by have := hpre.length_le; have h16 := upN_len (hasP to) 16; simp at this; omega)
                  rw [sentC_add]
                  have c18 := formW f hx a m u x
                  generalize formR f a u x = G at c18
                  generalize sentC a u f pre = SS at hlen
                  obtain ⟨g, gok⟩ := G
                  simp only at c18
                  have hbig : (SS.length + 1) * 48 ≤ 140737488355328 := by omega
                  refine ev_sound _ (by kernel_rfl) _ _ _ ?_
                  unfold HJ rC
                  cases gok with
                  | true =>
                    repeat' first
                      | with_reducible rfl
                      | simp only [frC, encM, kV, stC, List.length_map, hbig, push_mV, push_mS, push_mE, rows_push1, push_one, pull_one, kC_push, kC_pull, kC_len, eR_len, eV_len, eV_pull, eV_push, RS_, argsTM, stepE, stBuiltin, stBox, stAlloc, stLoad, stStore, stField, stExtract, stBin, stUn, stConv, stNilCheck, stFieldV, stIndex, stIndexAddr, stLen, stMin, stMax, stBuild, fillI, stBuildSlice, setRows, stMakeSlice, stAppend, srcR, segR, rdCells, stSlice, bnd, stArr, stCopy, stConv2, isIntV, cutR, byteRows, rowByte, binStr, Option.map_some, Option.map_none, eq_self, canTL, canT, canH, canL, patL, gcH, gcT, gcI, get_gcT, pullS, pullI, pushS, push1, pushI, pullHW, roC, ix, List.map_map, Function.comp_def, List.zip_cons_cons, List.zip_nil_left, List.zip_nil_right, List.range'_zero, List.range'_succ, rd, get, put, IV.cells, ofValue, seg, spl, ldIV, binInt, eqI, cellsEq, leafEq, resI, flat, isT, upd, up1, nextM, cR, ptrC, nAl, isAl, ST_, Nat.reduceAdd, Nat.reduceMul, Nat.reduceEqDiff, Nat.reduceLeDiff, ne_eq, reduceCtorEq, reduceIte, forall_const, implies_true, Int.reduceToNat, Int.reduceLE, Int.reduceLT, bne, Int.reduceEq, Int.reduceNe, Int.reduceNeg, Int.reduceAdd, Int.reduceSub, Int.reduceMul, Int.reduceBEq, Int.reduceBNe, Nat.reduceLT, Nat.reduceSub, WLS, ty_ag_3, ty_ag_31, ty_ag_35, ty_ag_40, ty_ag_42, ty_ag_46, ty_ag_48, ty_ag_51, ty_ag_58, ty_ag_73, ty_ar_61, ty_by_46, ty_of_35_0, ty_of_42_0, ty_of_48_0, ty_of_48_1, ty_of_58_0, ty_of_58_9, ty_ok_48, ty_ok_81, ty_pl_48_1, ty_pl_81_0, ty_pl_81_1, ty_sl_36, ty_sr_46, ty_sz_3, ty_sz_31, ty_sz_35, ty_sz_40, ty_sz_42, ty_sz_46, ty_sz_48, ty_sz_51, ty_sz_58, ty_sz_73, ty_ze_42, ty_ze_48, ty_ze_58, ty_ze_73, ty_ze_81, ty_zs_46]
                      | (with_reducible refine drawK_id ?_); refine drawK_auto hmix (by kernel_rfl) ?_
                      | (with_reducible refine draw_fin ?_ ?_); · kernel_rfl
                      | (with_reducible refine draw_id ?_); kernel_rfl
                      | ((with_reducible refine callK_id (f := 18) ?_); refine callK_fun c18 rfl rfl ?_)
                      | (with_reducible refine And.intro ?_ ?_; · omega)
                    refine ⟨_, _, Wk.gc [0, 1, 2, 3, 4, 5, 6, 7, 8, 9, 10, 11, 12, 13, 14, 18] rfl (by decide), ?_⟩
                    simp [Function.comp_def, get_gcT, get, put, gcI, pullI, pullS, gcH, patL, canL, canH, canTL, canT, rows_pull, ix, HJ, rC, prC_pull, prC, frC, stC, clo_pull, clo_push, pushI, pushS, push1, stC_pull, pull_mV, pull_mS, pull_mE]
                  | false =>
                    repeat' first
                      | with_reducible rfl
                      | simp only [frC, encM, kV, stC, List.length_map, hbig, push_mV, push_mS, push_mE, rows_push1, push_one, pull_one, kC_push, kC_pull, kC_len, eR_len, eV_len, eV_pull, eV_push, RS_, argsTM, stepE, stBuiltin, stBox, stAlloc, stLoad, stStore, stField, stExtract, stBin, stUn, stConv, stNilCheck, stFieldV, stIndex, stIndexAddr, stLen, stMin, stMax, stBuild, fillI, stBuildSlice, setRows, stMakeSlice, stAppend, srcR, segR, rdCells, stSlice, bnd, stArr, stCopy, stConv2, isIntV, cutR, byteRows, rowByte, binStr, Option.map_some, Option.map_none, eq_self, canTL, canT, canH, canL, patL, gcH, gcT, gcI, get_gcT, pullS, pullI, pushS, push1, pushI, pullHW, roC, ix, List.map_map, Function.comp_def, List.zip_cons_cons, List.zip_nil_left, List.zip_nil_right, List.range'_zero, List.range'_succ, rd, get, put, IV.cells, ofValue, seg, spl, ldIV, binInt, eqI, cellsEq, leafEq, resI, flat, isT, upd, up1, nextM, cR, ptrC, nAl, isAl, ST_, Nat.reduceAdd, Nat.reduceMul, Nat.reduceEqDiff, Nat.reduceLeDiff, ne_eq, reduceCtorEq, reduceIte, forall_const, implies_true, Int.reduceToNat, Int.reduceLE, Int.reduceLT, bne, Int.reduceEq, Int.reduceNe, Int.reduceNeg, Int.reduceAdd, Int.reduceSub, Int.reduceMul, Int.reduceBEq, Int.reduceBNe, Nat.reduceLT, Nat.reduceSub, WLS, ty_ag_3, ty_ag_31, ty_ag_35, ty_ag_40, ty_ag_42, ty_ag_46, ty_ag_48, ty_ag_51, ty_ag_58, ty_ag_73, ty_ar_61, ty_by_46, ty_of_35_0, ty_of_42_0, ty_of_48_0, ty_of_48_1, ty_of_58_0, ty_of_58_9, ty_ok_48, ty_ok_81, ty_pl_48_1, ty_pl_81_0, ty_pl_81_1, ty_sl_36, ty_sr_46, ty_sz_3, ty_sz_31, ty_sz_35, ty_sz_40, ty_sz_42, ty_sz_46, ty_sz_48, ty_sz_51, ty_sz_58, ty_sz_73, ty_ze_42, ty_ze_48, ty_ze_58, ty_ze_73, ty_ze_81, ty_zs_46]
                      | (with_reducible refine drawK_id ?_); refine drawK_auto hmix (by kernel_rfl) ?_
                      | (with_reducible refine draw_fin ?_ ?_); · kernel_rfl
                      | (with_reducible refine draw_id ?_); kernel_rfl
                      | ((with_reducible refine callK_id (f := 18) ?_); refine callK_fun c18 rfl rfl ?_)
                      | (with_reducible refine And.intro ?_ ?_; · omega)
                    refine ⟨_, _, Wk.gc [0, 1, 2, 3, 4, 5, 6, 7, 8, 9, 10, 11, 12, 13, 14, 15] rfl (by decide), ?_⟩
                    simp [Function.comp_def, get_gcT, get, put, gcI, pullI, pullS, gcH, patL, canL, canH, canTL, canT, rows_pull, ix, HJ, rC, prC_pull, prC, frC, stC, clo_pull, clo_push, pushI, pushS, push1, stC_pull, pull_mV, pull_mS, pull_mE]
                case tail =>
                  rintro _ rfl X1 hN1 hro1
                  generalize sentC a u f (upN (hasP to) 16) = SS
                  refine ev_sound _ (by kernel_rfl) _ _ _ ?_
                  unfold HJ rC
                  repeat' first
                    | with_reducible rfl
                    | simp only [frC, encM, kV, stC, List.length_map, push_mV, push_mS, push_mE, rows_push1, push_one, pull_one, kC_push, kC_pull, kC_len, eR_len, eV_len, eV_pull, eV_push, RS_, argsTM, stepE, stBuiltin, stBox, stAlloc, stLoad, stStore, stField, stExtract, stBin, stUn, stConv, stNilCheck, stFieldV, stIndex, stIndexAddr, stLen, stMin, stMax, stBuild, fillI, stBuildSlice, setRows, stMakeSlice, stAppend, srcR, segR, rdCells, stSlice, bnd, stArr, stCopy, stConv2, isIntV, cutR, byteRows, rowByte, binStr, Option.map_some, Option.map_none, eq_self, canTL, canT, canH, canL, patL, gcH, gcT, gcI, get_gcT, pullS, pullI, pushS, push1, pushI, pullHW, roC, ix, List.map_map, Function.comp_def, List.zip_cons_cons, List.zip_nil_left, List.zip_nil_right, List.range'_zero, List.range'_succ, rd, get, put, IV.cells, ofValue, seg, spl, ldIV, binInt, eqI, cellsEq, leafEq, resI, flat, isT, upd, up1, nextM, cR, ptrC, nAl, isAl, ST_, Nat.reduceAdd, Nat.reduceMul, Nat.reduceEqDiff, Nat.reduceLeDiff, ne_eq, reduceCtorEq, reduceIte, forall_const, implies_true, Int.reduceToNat, Int.reduceLE, Int.reduceLT, bne, Int.reduceEq, Int.reduceNe, Int.reduceNeg, Int.reduceAdd, Int.reduceSub, Int.reduceMul, Int.reduceBEq, Int.reduceBNe, Nat.reduceLT, Nat.reduceSub, WLS, ty_ag_3, ty_ag_31, ty_ag_35, ty_ag_40, ty_ag_42, ty_ag_46, ty_ag_48, ty_ag_51, ty_ag_58, ty_ag_73, ty_ar_61, ty_by_46, ty_of_35_0, ty_of_42_0, ty_of_48_0, ty_of_48_1, ty_of_58_0, ty_of_58_9, ty_ok_48, ty_ok_81, ty_pl_48_1, ty_pl_81_0, ty_pl_81_1, ty_sl_36, ty_sr_46, ty_sz_3, ty_sz_31, ty_sz_35, ty_sz_40, ty_sz_42, ty_sz_46, ty_sz_48, ty_sz_51, ty_sz_58, ty_sz_73, ty_ze_42, ty_ze_48, ty_ze_58, ty_ze_73, ty_ze_81, ty_zs_46]
                    | (with_reducible refine drawK_id ?_); refine drawK_auto hmix (by kernel_rfl) ?_
                    | (with_reducible refine draw_fin ?_ ?_); · kernel_rfl
                    | (with_reducible refine draw_id ?_); kernel_rfl
                    | (with_reducible refine And.intro ?_ ?_; · omega)
                  refine ⟨_, _, Wk.refl, ?_, ?_⟩
                  · skip
                    repeat' first
                      | with_reducible rfl
                      | simp only [frC, encM, kV, stC, List.length_map, push_mV, push_mS, push_mE, rows_push1, push_one, pull_one, kC_push, kC_pull, kC_len, eR_len, eV_len, eV_pull, eV_push, RS_, argsTM, stepE, stBuiltin, stBox, stAlloc, stLoad, stStore, stField, stExtract, stBin, stUn, stConv, stNilCheck, stFieldV, stIndex, stIndexAddr, stLen, stMin, stMax, stBuild, fillI, stBuildSlice, setRows, stMakeSlice, stAppend, srcR, segR, rdCells, stSlice, bnd, stArr, stCopy, stConv2, isIntV, cutR, byteRows, rowByte, binStr, Option.map_some, Option.map_none, eq_self, canTL, canT, canH, canL, patL, gcH, gcT, gcI, get_gcT, pullS, pullI, pushS, push1, pushI, pullHW, roC, ix, List.map_map, Function.comp_def, List.zip_cons_cons, List.zip_nil_left, List.zip_nil_right, List.range'_zero, List.range'_succ, rd, get, put, IV.cells, ofValue, seg, spl, ldIV, binInt, eqI, cellsEq, leafEq, resI, flat, isT, upd, up1, nextM, cR, ptrC, nAl, isAl, ST_, Nat.reduceAdd, Nat.reduceMul, Nat.reduceEqDiff, Nat.reduceLeDiff, ne_eq, reduceCtorEq, reduceIte, forall_const, implies_true, Int.reduceToNat, Int.reduceLE, Int.reduceLT, bne, Int.reduceEq, Int.reduceNe, Int.reduceNeg, Int.reduceAdd, Int.reduceSub, Int.reduceMul, Int.reduceBEq, Int.reduceBNe, Nat.reduceLT, Nat.reduceSub, WLS, ty_ag_3, ty_ag_31, ty_ag_35, ty_ag_40, ty_ag_42, ty_ag_46, ty_ag_48, ty_ag_51, ty_ag_58, ty_ag_73, ty_ar_61, ty_by_46, ty_of_35_0, ty_of_42_0, ty_of_48_0, ty_of_48_1, ty_of_58_0, ty_of_58_9, ty_ok_48, ty_ok_81, ty_pl_48_1, ty_pl_81_0, ty_pl_81_1, ty_sl_36, ty_sr_46, ty_sz_3, ty_sz_31, ty_sz_35, ty_sz_40, ty_sz_42, ty_sz_46, ty_sz_48, ty_sz_51, ty_sz_58, ty_sz_73, ty_ze_42, ty_ze_48, ty_ze_58, ty_ze_73, ty_ze_81, ty_zs_46]
                      | (with_reducible refine drawK_id ?_); refine drawK_auto hmix (by kernel_rfl) ?_
                      | (with_reducible refine draw_fin ?_ ?_); · kernel_rfl
                      | (with_reducible refine draw_id ?_); kernel_rfl
                      | (with_reducible refine And.intro ?_ ?_; · omega)
                    refine ⟨_, [.rows true 1 [[.ref 2]], mpV cv Lv, .rows true 1 [[.ref 4]], mpS cs Ls, .rows true 3 [[.raw (.int .i64 n), .raw (.int .i64 T), .ref 6]], mpC c2 L2] ++ [.rows true 19 (SS.map stC)], (WkR.gc [0, 1, 2, 3, 4, 5, 6, 15] rfl (by decide)).to ?_ ?_, by simp, rfl, rfl⟩
                    · simp [gcI, pullI, pullS, ix]
                    · simp [Function.comp_def, get_gcT, get, put, gcI, pullI, pullS, gcH, patL, canL, canH, canTL, canT, rows_pull, ix, prC_pull, prC, frC, stC_pull, pull_mV, pull_mS, pull_mE]
                  · rintro c sz els hc
                    rcases c with _|_|_|_|_|_|_|_|_|_|_|_|_|_|_|_|c
                    · exact ⟨by decide, _, _, rfl⟩
                    all_goals simp [mpV, mpS, mpC] at hc
          · rw [if_neg (by decide), show whyN 1 = 3 by decide] at hC
            rw [hC]
            unfold resP HP rC
            refine callK_inlineM (rs := [.cell 8 48]) (n := 115) Tryd.func8 rfl rfl rfl (by kernel_rfl) (by simp only [List.length_cons, List.length_nil]; decide) ?_
            refine evS_sound 11 _ (by kernel_rfl) _ _ _ ?_
            repeat' first
              | with_reducible rfl
              | simp only [frC, prC, encM, List.length_map, s_1, s_2, s_3, s_4, s_5, s_6, s_7, s_8, s_9, s_10, s_11, push_mV, push_mS, push_mE, rows_push1, push_one, pull_one, kC_push, kC_pull, kC_len, eR_len, eV_len, eV_pull, eV_push, q1, q2, z0, z1, hj, hel, Int.toNat_natCast, e2, RS_, argsTM, stepE, stBuiltin, stBox, stAlloc, stLoad, stStore, stField, stExtract, stBin, stUn, stConv, stNilCheck, stFieldV, stIndex, stIndexAddr, stLen, stMin, stMax, stBuild, fillI, stBuildSlice, setRows, stMakeSlice, stAppend, srcR, segR, rdCells, stSlice, bnd, stArr, stCopy, stConv2, isIntV, cutR, byteRows, rowByte, binStr, Option.map_some, Option.map_none, eq_self, canTL, canT, canH, canL, patL, gcH, gcT, gcI, get_gcT, pullS, pullI, pushS, push1, pushI, pullHW, roC, ix, List.map_map, Function.comp_def, List.zip_cons_cons, List.zip_nil_left, List.zip_nil_right, List.range'_zero, List.range'_succ, rd, get, put, IV.cells, ofValue, seg, spl, ldIV, binInt, eqI, cellsEq, leafEq, resI, flat, isT, upd, up1, nextM, cR, ptrC, nAl, isAl, ST_, Nat.reduceAdd, Nat.reduceMul, Nat.reduceEqDiff, Nat.reduceLeDiff, ne_eq, reduceCtorEq, reduceIte, forall_const, implies_true, Int.reduceToNat, Int.reduceLE, Int.reduceLT, bne, Int.reduceEq, Int.reduceNe, Int.reduceNeg, Int.reduceAdd, Int.reduceSub, Int.reduceMul, Int.reduceBEq, Int.reduceBNe, Nat.reduceLT, Nat.reduceSub, WLS, ty_ag_3, ty_ag_31, ty_ag_35, ty_ag_40, ty_ag_42, ty_ag_46, ty_ag_48, ty_ag_51, ty_ag_58, ty_ag_73, ty_ar_61, ty_by_46, ty_of_35_0, ty_of_42_0, ty_of_48_0, ty_of_48_1, ty_of_58_0, ty_of_58_9, ty_ok_48, ty_ok_81, ty_pl_48_1, ty_pl_81_0, ty_pl_81_1, ty_sl_36, ty_sr_46, ty_sz_3, ty_sz_31, ty_sz_35, ty_sz_40, ty_sz_42, ty_sz_46, ty_sz_48, ty_sz_51, ty_sz_58, ty_sz_73, ty_ze_42, ty_ze_48, ty_ze_58, ty_ze_73, ty_ze_81, ty_zs_46]
              | (with_reducible refine drawK_id ?_); refine drawK_auto hmix (by kernel_rfl) ?_
              | (with_reducible refine draw_fin ?_ ?_); · kernel_rfl
              | (with_reducible refine draw_id ?_); kernel_rfl
              | ((with_reducible refine callK_id (f := 9) ?_); refine callK_fun c9 rfl rfl ?_)
              | ((with_reducible refine callK_id (f := 10) ?_); refine callK_fun c10 rfl rfl ?_)
              | ((with_reducible refine callK_id (f := 11) ?_); refine callK_funW [] [1, 2] (c11) (by simp [pullHW, roC, Function.comp_def, rows_pull, pullS, ix, pull_mV, pull_mS, pull_mE]) rfl rfl (by decide) (by simp [ne_mV, ne_mS, ne_mE]) (by simp [pullI, pullS, ix, kC_pull, kV, kC, encM, frC]) ?_; rintro r Hn ⟨rfl, rfl⟩ -; skip)
              | (refine ixg_gen (j := 1) (kd := .i64) rfl ty_ar_61 rfl (by decide) (by decide) ?_)
              | (refine ldg_gen (v := .int .i64 3) rfl ty_ag_3 (fun _ => ⟨rfl, rfl⟩) (fun ρ w hi => by have := hG.has (hi.ctx rfl rfl); simp [World.cell?, this]) ?_)
              | (refine ⟨_, [.rows true 1 [[.ref 2]], mpV cv Lv, .rows true 1 [[.ref 4]], mpS cs Ls, .rows true 3 [[.raw (.int .i64 n), .raw (.int .i64 T), .ref 6]], mpC cf Lf] ++ [.rows true 19 []], ((WkR.nilR 0 0 19 rfl).trans (WkR.gc [0, 1, 2, 3, 4, 5, 6, 11] rfl (by decide))).to rfl ?_, by simp, rfl, rfl⟩; (simp [gcH, rows_pull, pullS, ix, prC_pull, frC, prC, pull_mV, pull_mS, pull_mE]; done))
              | (with_reducible refine And.intro ?_ ?_; · omega)
          · rw [if_neg (by decide), show whyN 2 = 4 by decide] at hC
            rw [hC]
            unfold resP HP rC
            refine callK_inlineM (rs := [.cell 8 48]) (n := 115) Tryd.func8 rfl rfl rfl (by kernel_rfl) (by simp only [List.length_cons, List.length_nil]; decide) ?_
            refine evS_sound 11 _ (by kernel_rfl) _ _ _ ?_
            repeat' first
              | with_reducible rfl
              | simp only [frC, prC, encM, List.length_map, s_1, s_2, s_3, s_4, s_5, s_6, s_7, s_8, s_9, s_10, s_11, push_mV, push_mS, push_mE, rows_push1, push_one, pull_one, kC_push, kC_pull, kC_len, eR_len, eV_len, eV_pull, eV_push, q1, q2, z0, z1, hj, hel, Int.toNat_natCast, e2, RS_, argsTM, stepE, stBuiltin, stBox, stAlloc, stLoad, stStore, stField, stExtract, stBin, stUn, stConv, stNilCheck, stFieldV, stIndex, stIndexAddr, stLen, stMin, stMax, stBuild, fillI, stBuildSlice, setRows, stMakeSlice, stAppend, srcR, segR, rdCells, stSlice, bnd, stArr, stCopy, stConv2, isIntV, cutR, byteRows, rowByte, binStr, Option.map_some, Option.map_none, eq_self, canTL, canT, canH, canL, patL, gcH, gcT, gcI, get_gcT, pullS, pullI, pushS, push1, pushI, pullHW, roC, ix, List.map_map, Function.comp_def, List.zip_cons_cons, List.zip_nil_left, List.zip_nil_right, List.range'_zero, List.range'_succ, rd, get, put, IV.cells, ofValue, seg, spl, ldIV, binInt, eqI, cellsEq, leafEq, resI, flat, isT, upd, up1, nextM, cR, ptrC, nAl, isAl, ST_, Nat.reduceAdd, Nat.reduceMul, Nat.reduceEqDiff, Nat.reduceLeDiff, ne_eq, reduceCtorEq, reduceIte, forall_const, implies_true, Int.reduceToNat, Int.reduceLE, Int.reduceLT, bne, Int.reduceEq, Int.reduceNe, Int.reduceNeg, Int.reduceAdd, Int.reduceSub, Int.reduceMul, Int.reduceBEq, Int.reduceBNe, Nat.reduceLT, Nat.reduceSub, WLS, ty_ag_3, ty_ag_31, ty_ag_35, ty_ag_40, ty_ag_42, ty_ag_46, ty_ag_48, ty_ag_51, ty_ag_58, ty_ag_73, ty_ar_61, ty_by_46, ty_of_35_0, ty_of_42_0, ty_of_48_0, ty_of_48_1, ty_of_58_0, ty_of_58_9, ty_ok_48, ty_ok_81, ty_pl_48_1, ty_pl_81_0, ty_pl_81_1, ty_sl_36, ty_sr_46, ty_sz_3, ty_sz_31, ty_sz_35, ty_sz_40, ty_sz_42, ty_sz_46, ty_sz_48, ty_sz_51, ty_sz_58, ty_sz_73, ty_ze_42, ty_ze_48, ty_ze_58, ty_ze_73, ty_ze_81, ty_zs_46]
              | (with_reducible refine drawK_id ?_); refine drawK_auto hmix (by kernel_rfl) ?_
              | (with_reducible refine draw_fin ?_ ?_); · kernel_rfl
              | (with_reducible refine draw_id ?_); kernel_rfl
              | ((with_reducible refine callK_id (f := 9) ?_); refine callK_fun c9 rfl rfl ?_)
              | ((with_reducible refine callK_id (f := 10) ?_); refine callK_fun c10 rfl rfl ?_)
              | ((with_reducible refine callK_id (f := 11) ?_); refine callK_funW [] [1, 2] (c11) (by simp [pullHW, roC, Function.comp_def, rows_pull, pullS, ix, pull_mV, pull_mS, pull_mE]) rfl rfl (by decide) (by simp [ne_mV, ne_mS, ne_mE]) (by simp [pullI, pullS, ix, kC_pull, kV, kC, encM, frC]) ?_; rintro r Hn ⟨rfl, rfl⟩ -; skip)
              | (refine ixg_gen (j := 2) (kd := .i64) rfl ty_ar_61 rfl (by decide) (by decide) ?_)
              | (refine ldg_gen (v := .int .i64 4) rfl ty_ag_3 (fun _ => ⟨rfl, rfl⟩) (fun ρ w hi => by have := hG.has (hi.ctx rfl rfl); simp [World.cell?, this]) ?_)
              | (refine ⟨_, [.rows true 1 [[.ref 2]], mpV cv Lv, .rows true 1 [[.ref 4]], mpS cs Ls, .rows true 3 [[.raw (.int .i64 n), .raw (.int .i64 T), .ref 6]], mpC cf Lf] ++ [.rows true 19 []], ((WkR.nilR 0 0 19 rfl).trans (WkR.gc [0, 1, 2, 3, 4, 5, 6, 11] rfl (by decide))).to rfl ?_, by simp, rfl, rfl⟩; (simp [gcH, rows_pull, pullS, ix, prC_pull, frC, prC, pull_mV, pull_mS, pull_mE]; done))
              | (with_reducible refine And.intro ?_ ?_; · omega)
          · rw [if_neg (by decide), show whyN 3 = 5 by decide] at hC
            rw [hC]
            unfold resP HP rC
            refine callK_inlineM (rs := [.cell 8 48]) (n := 115) Tryd.func8 rfl rfl rfl (by kernel_rfl) (by simp only [List.length_cons, List.length_nil]; decide) ?_
            refine evS_sound 11 _ (by kernel_rfl) _ _ _ ?_
            repeat' first
              | with_reducible rfl
              | simp only [frC, prC, encM, List.length_map, s_1, s_2, s_3, s_4, s_5, s_6, s_7, s_8, s_9, s_10, s_11, push_mV, push_mS, push_mE, rows_push1, push_one, pull_one, kC_push, kC_pull, kC_len, eR_len, eV_len, eV_pull, eV_push, q1, q2, z0, z1, hj, hel, Int.toNat_natCast, e2, RS_, argsTM, stepE, stBuiltin, stBox, stAlloc, stLoad, stStore, stField, stExtract, stBin, stUn, stConv, stNilCheck, stFieldV, stIndex, stIndexAddr, stLen, stMin, stMax, stBuild, fillI, stBuildSlice, setRows, stMakeSlice, stAppend, srcR, segR, rdCells, stSlice, bnd, stArr, stCopy, stConv2, isIntV, cutR, byteRows, rowByte, binStr, Option.map_some, Option.map_none, eq_self, canTL, canT, canH, canL, patL, gcH, gcT, gcI, get_gcT, pullS, pullI, pushS, push1, pushI, pullHW, roC, ix, List.map_map, Function.comp_def, List.zip_cons_cons, List.zip_nil_left, List.zip_nil_right, List.range'_zero, List.range'_succ, rd, get, put, IV.cells, ofValue, seg, spl, ldIV, binInt, eqI, cellsEq, leafEq, resI, flat, isT, upd, up1, nextM, cR, ptrC, nAl, isAl, ST_, Nat.reduceAdd, Nat.reduceMul, Nat.reduceEqDiff, Nat.reduceLeDiff, ne_eq, reduceCtorEq, reduceIte, forall_const, implies_true, Int.reduceToNat, Int.reduceLE, Int.reduceLT, bne, Int.reduceEq, Int.reduceNe, Int.reduceNeg, Int.reduceAdd, Int.reduceSub, Int.reduceMul, Int.reduceBEq, Int.reduceBNe, Nat.reduceLT, Nat.reduceSub, WLS, ty_ag_3, ty_ag_31, ty_ag_35, ty_ag_40, ty_ag_42, ty_ag_46, ty_ag_48, ty_ag_51, ty_ag_58, ty_ag_73, ty_ar_61, ty_by_46, ty_of_35_0, ty_of_42_0, ty_of_48_0, ty_of_48_1, ty_of_58_0, ty_of_58_9, ty_ok_48, ty_ok_81, ty_pl_48_1, ty_pl_81_0, ty_pl_81_1, ty_sl_36, ty_sr_46, ty_sz_3, ty_sz_31, ty_sz_35, ty_sz_40, ty_sz_42, ty_sz_46, ty_sz_48, ty_sz_51, ty_sz_58, ty_sz_73, ty_ze_42, ty_ze_48, ty_ze_58, ty_ze_73, ty_ze_81, ty_zs_46]
              | (with_reducible refine drawK_id ?_); refine drawK_auto hmix (by kernel_rfl) ?_
              | (with_reducible refine draw_fin ?_ ?_); · kernel_rfl
              | (with_reducible refine draw_id ?_); kernel_rfl
              | ((with_reducible refine callK_id (f := 9) ?_); refine callK_fun c9 rfl rfl ?_)
              | ((with_reducible refine callK_id (f := 10) ?_); refine callK_fun c10 rfl rfl ?_)
              | ((with_reducible refine callK_id (f := 11) ?_); refine callK_funW [] [1, 2] (c11) (by simp [pullHW, roC, Function.comp_def, rows_pull, pullS, ix, pull_mV, pull_mS, pull_mE]) rfl rfl (by decide) (by simp [ne_mV, ne_mS, ne_mE]) (by simp [pullI, pullS, ix, kC_pull, kV, kC, encM, frC]) ?_; rintro r Hn ⟨rfl, rfl⟩ -; skip)
              | (refine ixg_gen (j := 3) (kd := .i64) rfl ty_ar_61 rfl (by decide) (by decide) ?_)
              | (refine ldg_gen (v := .int .i64 5) rfl ty_ag_3 (fun _ => ⟨rfl, rfl⟩) (fun ρ w hi => by have := hG.has (hi.ctx rfl rfl); simp [World.cell?, this]) ?_)
              | (refine ⟨_, [.rows true 1 [[.ref 2]], mpV cv Lv, .rows true 1 [[.ref 4]], mpS cs Ls, .rows true 3 [[.raw (.int .i64 n), .raw (.int .i64 T), .ref 6]], mpC cf Lf] ++ [.rows true 19 []], ((WkR.nilR 0 0 19 rfl).trans (WkR.gc [0, 1, 2, 3, 4, 5, 6, 11] rfl (by decide))).to rfl ?_, by simp, rfl, rfl⟩; (simp [gcH, rows_pull, pullS, ix, prC_pull, frC, prC, pull_mV, pull_mS, pull_mE]; done))
              | (with_reducible refine And.intro ?_ ?_; · omega)
end Go.Ev
