/- A part of the proof: contracts of the functions that the statement reaches. -/
import Derived.Test.YtpjgbfddlagcaaaDoorP9
namespace Go.Ev
open Go.Proofs
set_option maxRecDepth 100000
set_option linter.unusedSimpArgs false
set_option linter.unusedVariables false
set_option maxHeartbeats 4000000
open Srt Go.RowKit
structure PLY where
  ps : List POQ
  ss : List STQ
  fs : List FRQ
  v : VLQ
  room : Int
/-- What stays of the law's tables and ports. -/
structure TBL where
  cv : Nat
  Lv : List VEN
  cs : Nat
  Ls : List SEN
  rm : Int
  L : List PRT
structure TOK (B : TBL) : Prop where
  v : NDkV B.Lv
  s : NDkS B.Ls
  r1 : 1 ≤ B.rm
  r2 : B.rm ≤ 6
  l : B.L.length ≤ 8
  st : ∀ y ∈ B.L, y.st = 0 ∨ y.st = 1 ∨ y.st = 2
def HX (x : PLY) : Heap := [.rows false 5 (x.ps.map poC), .rows false 2 (x.ss.map stQ), .rows false 6 (x.fs.map fqC), .rows true 10 [playC (.slice 0 0 x.ps.length) x.v (.slice 1 0 x.ss.length) x.room (.slice 2 0 x.fs.length)]]
def HB (B : TBL) (cf : Nat) (Lf : List EN) : Heap := [.rows true 1 [[.ref 5]], mpV B.cv B.Lv, .rows true 1 [[.ref 7]], mpS B.cs B.Ls, .rows true 3 [[.raw (.int .i64 B.rm), .raw (.int .i64 20), .ref 9]], mpC cf Lf, .rows true 21 (B.L.map prC), .rows true 3 [[.ptr 4 0 0, .ptr 6 0 0, .ptr 8 0 0]]]
def IQ (x : PLY) (B : TBL) (mm : Nat) (tm : TM) (H : Heap) : Prop := ∃ (i cf : Nat) (Lf : List EN), mm = x.fs.length - i ∧ i ≤ x.fs.length ∧ OKF B.rm 20 cf Lf ∧ get tm 1 = .s (.ptr 3 0 0) ∧ get tm 3 = .s (.ptr 11 0 0) ∧ get tm 4 = .s (.slice 10 0 B.L.length) ∧ get tm 5 = .s (.raw (.int .i64 (i : Int))) ∧ H = HX x ++ HB B cf Lf
def IS (x : PLY) (B : TBL) (cf : Nat) (Lf : List EN) (i : Nat) (f : FRM) (fr : Int) (S : List (Int × FRM)) (w : Int) (a b : Bool) (mm : Nat) (tm : TM) (H : Heap) : Prop := ∃ k : Nat, mm = S.length - k ∧ k ≤ S.length ∧ get tm 1 = .s (.ptr 3 0 0) ∧ get tm 3 = .s (.ptr 11 0 0) ∧ get tm 4 = .s (.slice 10 0 B.L.length) ∧ get tm 5 = .s (.raw (.int .i64 (i : Int))) ∧ get tm 6 = .s (.ptr 12 0 0) ∧ get tm 7 = .s (.raw (.int .i64 fr)) ∧ get tm 9 = .s (.ptr 13 0 0) ∧ get tm 10 = .s (.raw (.bool false)) ∧ get tm 11 = .s (.raw (.int .i64 (k : Int))) ∧
  H = HX x ++ HB B cf Lf ++ [.rows true 18 [frC f], .rows true 4 [rC (.slice 14 0 S.length) w a b], .rows true 19 (S.map stC)]
theorem setSs_nd (cv : Nat) (Lv : List VEN) : ∀ (l : List STQ) (P : Nat × List SEN), EGT cv Lv P.1 P.2 0 [] → EGT cv Lv (setSs P l).1 (setSs P l).2 0 []
  | [], _, h => h
  | x :: l, P, h => setSs_nd cv Lv l _ (h.setS _ _)
def tblC (x : PLY) : TBL := ⟨(setV3 x.v).1, (setV3 x.v).2, (madeS x.ss).1, (madeS x.ss).2, roomC x.room, madeP x.ps⟩
theorem room_b {room : Int} (r0 : 0 ≤ room) : 1 ≤ roomC room ∧ roomC room ≤ 6 := by
  unfold roomC
  rw [Int.tmod_eq_emod_of_nonneg r0, wr_i64 (n := room % 6) (by omega) (by omega), wr_i64 (by omega) (by omega)]; omega
theorem tbl_ok (x : PLY) (r0 : 0 ≤ x.room) (hps : ∀ y ∈ x.ps, 0 ≤ y.st) : TOK (tblC x) := by
  have e1 := EGT.init.setV 1 (IntKind.u32.wrap x.v.a0) (IntKind.u32.wrap (bAnd .u16 x.v.a0 x.v.b0)) (wrap32_pos _)
  have e2 := e1.setV 2 (IntKind.u32.wrap x.v.a1) (IntKind.u32.wrap (bAnd .u16 x.v.a1 x.v.b1)) (wrap32_pos _)
  have e3 := e2.setV 3 (IntKind.u32.wrap x.v.a2) (IntKind.u32.wrap (bAnd .u16 x.v.a2 x.v.b2)) (wrap32_pos _)
  have e4 := setSs_nd _ _ (x.ss.take 6) (0, []) e3
  refine ⟨e3.v, e4.s, (room_b r0).1, (room_b r0).2, ?_, ?_⟩
  · simp [tblC, madeP]; omega
  · intro y hy
    simp only [tblC, madeP, List.mem_map] at hy
    obtain ⟨q, hq, rfl⟩ := hy
    have h0 := hps q (List.mem_of_mem_take hq)
    simp only [portC]
    rw [Int.tmod_eq_emod_of_nonneg h0, wr_i64 (by omega) (by omega)]
    omega
def shutB (L : List PRT) (fr : Int) : Bool := decide (fr < 1 ∨ (L.length : Int) < fr) || match L[(fr - 1).toNat]? with
  | none => true
  | some p => !onP p || p.st == 0
theorem shut_pass (Lv : List VEN) (Ls : List SEN) (n : Int) (cf : Nat) (Lf : List EN) (L : List PRT) (fr : Int) (f : FRM) (h : shutB L fr = true) : passC Lv Ls n cf Lf L fr f = ((cf, Lf), ⟨6, false, false, []⟩) := by
  unfold shutB at h
  unfold passC
  by_cases hr : fr < 1 ∨ (L.length : Int) < fr
  · rw [if_pos hr]
  · rw [if_neg hr]
    rw [decide_eq_false hr, Bool.false_or] at h
    cases hp : L[(fr - 1).toNat]? with
    | none => rfl
    | some p =>
      rw [hp] at h
      simp only at h ⊢
      rw [if_pos h]
theorem pass_okF (B : TBL) (hB : TOK B) {cf : Nat} {Lf : List EN} (h : OKF B.rm 20 cf Lf) (fr : Int) (f : FRM) (hk : ∀ vid, KOK ⟨vid, f.s⟩) : OKF B.rm 20 (passC B.Lv B.Ls B.rm cf Lf B.L fr f).1.1 (passC B.Lv B.Ls B.rm cf Lf B.L fr f).1.2 := by
  unfold passC
  by_cases hr : fr < 1 ∨ (B.L.length : Int) < fr
  · rw [if_pos hr]; exact h
  rw [if_neg hr]
  cases hp : B.L[(fr - 1).toNat]? with
  | none => exact h
  | some p =>
    simp only
    split
    · exact h
    · split
      · exact h
      · split
        · exact learn_okF h hB.r1 (by decide) (hk _) fr
        · exact h
theorem sent_len (Lv : List VEN) (Ls : List SEN) (n : Int) (cf : Nat) (Lf : List EN) (l : List PRT) (fr : Int) (f : FRM) : (passC Lv Ls n cf Lf l fr f).2.sent.length ≤ 16 := by
  unfold passC
  by_cases hr : fr < 1 ∨ (l.length : Int) < fr
  · rw [if_pos hr]; simp
  rw [if_neg hr]
  cases hp : l[(fr - 1).toNat]? with
  | none => simp
  | some p =>
    simp only
    split
    · simp
    · split
      · simp
      · split
        · unfold passT
          cases h1 : (p.st == 1) with
          | true => simp
          | false =>
            simp only [Bool.false_eq_true, if_false]
            exact sentC_len _ _ _ _ (upN_len _ 16)
        · simp
theorem law4 (o : Obj) (ho : ∃ t z, o = .cells #[.int .i64 0, .int .i64 3, .int .i64 4, .int .i64 5] t z) (x : PLY) (r0 : 0 ≤ x.room) (r1 : x.room ≤ 255) (hps : ∀ y ∈ x.ps, 0 ≤ y.st) (hfs : ∀ y ∈ x.fs, 0 ≤ y.lo ∧ y.lo ≤ 65535 ∧ 0 ≤ y.po) :
    FunRG 0 o Tryd.prog 4 [.rows false 5 (x.ps.map poC), .rows false 2 (x.ss.map stQ), .rows false 6 (x.fs.map fqC)] [.a (playC (.slice 0 0 x.ps.length) x.v (.slice 1 0 x.ss.length) x.room (.slice 2 0 x.fs.length))] (.s (.raw (.bool true))) := by
  refine funRG_of rfl rfl fun X hG => ?_
  have hB := tbl_ok x r0 hps
  have cS := speaksG o ho
  have cM := madeW x.ps x.ss x.v x.room r0 r1
  have h0 : OKF (tblC x).rm 20 0 [] := ⟨List.nodup_nil, List.nodup_nil, by simp, by simp, by have := hB.r1; simp; omega, by simp, by simp⟩
  obtain ⟨B, hBe⟩ : ∃ B, tblC x = B := ⟨_, rfl⟩
  rw [hBe] at hB h0
  have b1 : (setV3 x.v).1 = B.cv := by rw [← hBe]; rfl
  have b2 : (setV3 x.v).2 = B.Lv := by rw [← hBe]; rfl
  have b3 : (madeS x.ss).1 = B.cs := by rw [← hBe]; rfl
  have b4 : (madeS x.ss).2 = B.Ls := by rw [← hBe]; rfl
  have b5 : roomC x.room = B.rm := by rw [← hBe]; rfl
  have b6 : madeP x.ps = B.L := by rw [← hBe]; rfl
  rw [b1, b2, b3, b4, b5, b6] at cM
  clear hBe b1 b2 b3 b4 b5 b6
  unfold playC at cM ⊢
  refine callK_inline (rs := [.tmp 2]) (n := 184) Tryd.func4 rfl rfl rfl (by kernel_rfl) (by kernel_rfl) (by simp only [List.length_cons, List.length_nil]; decide) ?_
  repeat' first
    | with_reducible rfl
    | simp only [playC, prC_push, List.length_map, push_mV, push_mS, push_mE, rows_push1, push_one, pull_one, kC_push, kC_pull, kC_len, eR_len, eV_len, eV_pull, eV_push, e_nil, e_cons, e_gd, e_gdt, e_gdf, e_g0, e_g1, e_op, e_step, e_stepG, e_stepN, e_clo, e_cloF, e_ret, e_put, e_junk, e_skip, e_reg, e_draw, e_seq, e_cond, e_block, e_exit, e_r, e_label, e_loop, q_sn, q_sr, q_se, q_bn, q_br, q_be, q_rr, q_rn, e_res0, e_res1, e_res2, e_b, d_nil, d_cons, d_op, d_step, d_stepG, d_stepN, d_clo, d_cloF, d_ret, d_put, d_junk, d_inf, d_fin, g_not, g_and, argsTM, stepE, stBuiltin, stBox, stAlloc, stLoad, stStore, stField, stExtract, stBin, stUn, stConv, stNilCheck, stFieldV, stIndex, stIndexAddr, stLen, stMin, stMax, stBuild, fillI, stBuildSlice, setRows, stMakeSlice, stAppend, srcR, segR, rdCells, stSlice, bnd, stArr, stCopy, stConv2, isIntV, cutR, byteRows, rowByte, binStr, Option.map_some, Option.map_none, eq_self, canTL, canT, canH, canL, patL, gcH, gcT, gcI, get_gcT, pullS, pullI, pushS, push1, pushI, pullHW, roC, ix, List.map_map, Function.comp_def, List.zip_cons_cons, List.zip_nil_left, List.zip_nil_right, List.range'_zero, List.range'_succ, rd, get, put, IV.cells, ofValue, seg, spl, ldIV, binInt, eqI, cellsEq, leafEq, resI, flat, isT, upd, up1, nextM, cR, ptrC, nAl, isAl, List.length_cons, List.length_nil, List.length_append, List.length_replicate, List.length_set, Nat.reduceAdd, Nat.reduceMul, Nat.reduceEqDiff, Nat.reduceLeDiff, Nat.zero_add, Nat.add_zero, ne_eq, reduceCtorEq, not_false_eq_true, not_true_eq_false, reduceIte, true_and, and_true, and_false, false_and, and_self, List.nil_append, List.cons_append, List.append_nil, List.getElem?_cons_zero, List.getElem?_cons_succ, List.drop_succ_cons, List.drop_zero, List.take_succ_cons, List.take_zero, List.set_cons_zero, List.set_cons_succ, List.getElem?_toArray, Option.bind_some, Bool.false_eq_true, Nat.add_one_ne_zero, Nat.succ_ne_self, List.map_cons, List.map_nil, Bool.not_true, Bool.not_false, List.replicate_succ, List.replicate_zero, List.mem_cons, List.not_mem_nil, or_false, false_or, or_true, true_or, forall_const, false_implies, implies_true, true_implies, Int.reduceToNat, Int.reduceLE, Int.reduceLT, Int.cast_ofNat_Int, bne, Int.reduceEq, Int.reduceNe, Int.reduceNeg, Int.reduceAdd, Int.reduceSub, Int.reduceMul, beq_self_eq_true, Int.reduceBEq, Int.reduceBNe, Bool.true_and, Bool.false_and, Bool.and_true, Bool.and_false, Bool.true_or, Bool.false_or, Bool.or_true, Bool.or_false, Nat.reduceLT, Nat.reduceSub, Nat.zero_min, Nat.min_zero, Nat.min_self, List.flatMap_cons, List.flatMap_nil, Int.toNat_natCast, strEq_self, Bool.not_eq_true', decide_true, decide_false, WLS, Tryd.underlying3, Tryd.underlying5, ty_ag_27, ty_ag_29, ty_ag_3, ty_ag_33, ty_ag_35, ty_ag_4, ty_ag_40, ty_ag_42, ty_ag_45, ty_ag_46, ty_ag_5, ty_ag_58, ty_ag_9, ty_eg_40, ty_lv_40, ty_of_29_4, ty_of_35_2, ty_of_42_1, ty_of_42_7, ty_of_45_0, ty_of_48_0, ty_of_48_1, ty_of_48_2, ty_of_58_9, ty_of_81_0, ty_of_81_1, ty_sl_27, ty_sl_36, ty_sl_46, ty_sl_82, ty_sz_27, ty_sz_29, ty_sz_3, ty_sz_33, ty_sz_35, ty_sz_4, ty_sz_40, ty_sz_42, ty_sz_45, ty_sz_46, ty_sz_48, ty_sz_5, ty_sz_58, ty_sz_9, ty_ze_35, ty_ze_42, ty_ze_48]
    | (with_reducible refine drawK_id ?_); refine drawK_auto hmix (by kernel_rfl) ?_
    | (with_reducible refine draw_fin ?_ ?_); · kernel_rfl
    | (with_reducible refine draw_id ?_); kernel_rfl
    | ((with_reducible refine callK_id (f := 5) ?_); refine callK_funG (hG.at _) [] [] cS (by simp [pullHW]) rfl rfl (by decide) (by simp) rfl ?_; rintro r Hn ⟨rfl, rfl⟩ -; skip)
    | ((with_reducible refine callK_id (f := 6) ?_); refine callK_funW [0, 1] [] cM (by simp [pullHW, roC, Function.comp_def, rows_pull, poC_pull, stQ_pull]) rfl rfl (by decide) (by simp) (by simp [pullI, pullS, ix]) ?_; rintro r Hn ⟨rfl, rfl⟩ -; skip)
    | (with_reducible refine And.intro ?_ ?_; · omega)
  refine loopK_wk (by kernel_rfl) (IQ x B) x.fs.length ⟨_, _, Wk.gc [0, 1, 2, 3, 4, 5, 6, 7, 8, 9, 10, 11] rfl (by decide), 0, 0, [], by omega, by omega, h0, ?_, ?_, ?_, ?_, ?_⟩ ?_
  · simp [Function.comp_def, get_gcT, get, put, gcI, pullI, pullS, gcH, patL, canL, canH, canTL, canT, rows_pull, ix]
  · simp [Function.comp_def, get_gcT, get, put, gcI, pullI, pullS, gcH, patL, canL, canH, canTL, canT, rows_pull, ix]
  · simp [Function.comp_def, get_gcT, get, put, gcI, pullI, pullS, gcH, patL, canL, canH, canTL, canT, rows_pull, ix]
  · simp [Function.comp_def, get_gcT, get, put, gcI, pullI, pullS, gcH, patL, canL, canH, canTL, canT, rows_pull, ix]
  · simp [Function.comp_def, get_gcT, get, put, gcI, pullI, pullS, gcH, patL, canL, canH, canTL, canT, rows_pull, ix, HX, HB, playC, poC_pull, stQ_pull, fqC_pull, prC_pull, pull_mV, pull_mS, pull_mE]
  rintro mm tm H ⟨i, cf, Lf, rfl, hi, hF, g1, g3, g4, g5, rfl⟩
  unfold HX HB playC
  simp only [List.cons_append, List.nil_append]
  by_cases hq : i < x.fs.length ∧ i < 40
  · have q1 : decide ((i : Int) < (x.fs.length : Int)) = true := decide_eq_true (by omega)
    have q2 : decide ((i : Int) < 40) = true := decide_eq_true (by omega)
    have z0 : (0 : Int) ≤ (i : Int) := by omega
    have z1 : (i : Int) < (x.fs.length : Int) := by omega
    have hi1 : IntKind.i64.wrap ((i : Int) + 1) = ((i + 1 : Nat) : Int) := by rw [wr_i64 (by omega) (by omega)]; rfl
    obtain ⟨y, hy⟩ : ∃ y, x.fs[i]? = some y := ⟨_, List.getElem?_eq_getElem hq.1⟩
    have hel : (x.fs.map fqC)[i]? = some (fqC y) := by rw [List.getElem?_map, hy]; rfl
    have hy2 := hfs y (List.mem_of_getElem? hy)
    have c7 := ofW y hy2.1 hy2.2.1
    have hfx : (ofC y).x.size ≤ 100000 := by simp only [ofC, zS_size]; rw [Int.tmod_eq_emod_of_nonneg hy2.1]; omega
    have hfk : ∀ vid, KOK ⟨vid, (ofC y).s⟩ := fun vid => from_ok _ vid
    obtain ⟨f, hf⟩ : ∃ f, ofC y = f := ⟨_, rfl⟩
    rw [hf] at c7 hfx hfk
    obtain ⟨fr, hfr, hfr0⟩ : ∃ fr, IntKind.i64.wrap (Int.tmod y.po 10) = fr ∧ 0 ≤ fr ∧ fr ≤ 9 := ⟨_, rfl, by rw [Int.tmod_eq_emod_of_nonneg hy2.2.2, wr_i64 (by omega) (by omega)]; omega, by rw [Int.tmod_eq_emod_of_nonneg hy2.2.2, wr_i64 (by omega) (by omega)]; omega⟩
    have hL1 : Lf.length ≤ 100000 := by have := hF.len; have := hB.r2; omega
    have c20 := f37 B.rm 20 cf Lf hF.s hF.c hL1 (sort_ok Lf hF.k hF.v hL1)
    have cP := passW B.cv B.Lv B.cs B.Ls B.rm 20 cf Lf hB.v hB.s hF hB.r1 (by have := hB.r2; omega) (by decide) B.L (by have := hB.l; omega) fr f hfx hfk o ho
    have hF2 := pass_okF B hB hF fr f hfk
    have hSh := shut_pass B.Lv B.Ls B.rm cf Lf B.L fr f
    have hSo := fun e he => sent_ok (Lv := B.Lv) (Ls := B.Ls) (n := B.rm) (cf := cf) (Lf := Lf) (l := B.L) (fr := fr) (f := f) (e := e) he
    have hLl := hB.l
    unfold fdbC at c20
    unfold HP resP rC at cP
    by_cases hr : fr < 1 ∨ (B.L.length : Int) < fr
    · rw [hSh (by simp [shutB, hr])] at cP
      simp only [List.length_nil, List.map_nil] at cP
      cases q3 : decide (fr < 1) with
      | true =>
        repeat' first
          | with_reducible rfl
          | simp only [e_loopN, stC_push, q1, q2, z0, z1, hi1, hel, fqC, frC, hfr, List.length_map, Int.toNat_natCast, g1, g3, g4, g5, push_mV, push_mS, push_mE, rows_push1, push_one, pull_one, kC_push, kC_pull, kC_len, eR_len, eV_len, eV_pull, eV_push, q3, e_nil, e_cons, e_gd, e_gdt, e_gdf, e_g0, e_g1, e_op, e_step, e_stepG, e_stepN, e_clo, e_cloF, e_ret, e_put, e_junk, e_skip, e_reg, e_draw, e_seq, e_cond, e_block, e_exit, e_r, e_label, e_loop, q_sn, q_sr, q_se, q_bn, q_br, q_be, q_rr, q_rn, e_res0, e_res1, e_res2, e_b, d_nil, d_cons, d_op, d_step, d_stepG, d_stepN, d_clo, d_cloF, d_ret, d_put, d_junk, d_inf, d_fin, g_not, g_and, argsTM, stepE, stBuiltin, stBox, stAlloc, stLoad, stStore, stField, stExtract, stBin, stUn, stConv, stNilCheck, stFieldV, stIndex, stIndexAddr, stLen, stMin, stMax, stBuild, fillI, stBuildSlice, setRows, stMakeSlice, stAppend, srcR, segR, rdCells, stSlice, bnd, stArr, stCopy, stConv2, isIntV, cutR, byteRows, rowByte, binStr, Option.map_some, Option.map_none, eq_self, canTL, canT, canH, canL, patL, gcH, gcT, gcI, get_gcT, pullS, pullI, pushS, push1, pushI, pullHW, roC, ix, List.map_map, Function.comp_def, List.zip_cons_cons, List.zip_nil_left, List.zip_nil_right, List.range'_zero, List.range'_succ, rd, get, put, IV.cells, ofValue, seg, spl, ldIV, binInt, eqI, cellsEq, leafEq, resI, flat, isT, upd, up1, nextM, cR, ptrC, nAl, isAl, List.length_cons, List.length_nil, List.length_append, List.length_replicate, List.length_set, Nat.reduceAdd, Nat.reduceMul, Nat.reduceEqDiff, Nat.reduceLeDiff, Nat.zero_add, Nat.add_zero, ne_eq, reduceCtorEq, not_false_eq_true, not_true_eq_false, reduceIte, true_and, and_true, and_false, false_and, and_self, List.nil_append, List.cons_append, List.append_nil, List.getElem?_cons_zero, List.getElem?_cons_succ, List.drop_succ_cons, List.drop_zero, List.take_succ_cons, List.take_zero, List.set_cons_zero, List.set_cons_succ, List.getElem?_toArray, Option.bind_some, Bool.false_eq_true, Nat.add_one_ne_zero, Nat.succ_ne_self, List.map_cons, List.map_nil, Bool.not_true, Bool.not_false, List.replicate_succ, List.replicate_zero, List.mem_cons, List.not_mem_nil, or_false, false_or, or_true, true_or, forall_const, false_implies, implies_true, true_implies, Int.reduceToNat, Int.reduceLE, Int.reduceLT, Int.cast_ofNat_Int, bne, Int.reduceEq, Int.reduceNe, Int.reduceNeg, Int.reduceAdd, Int.reduceSub, Int.reduceMul, beq_self_eq_true, Int.reduceBEq, Int.reduceBNe, Bool.true_and, Bool.false_and, Bool.and_true, Bool.and_false, Bool.true_or, Bool.false_or, Bool.or_true, Bool.or_false, Nat.reduceLT, Nat.reduceSub, Nat.zero_min, Nat.min_zero, Nat.min_self, List.flatMap_cons, List.flatMap_nil, Int.toNat_natCast, strEq_self, Bool.not_eq_true', decide_true, decide_false, WLS, Tryd.underlying3, Tryd.underlying5, ty_ag_27, ty_ag_29, ty_ag_3, ty_ag_33, ty_ag_35, ty_ag_4, ty_ag_40, ty_ag_42, ty_ag_45, ty_ag_46, ty_ag_5, ty_ag_58, ty_ag_9, ty_eg_40, ty_lv_40, ty_of_29_4, ty_of_35_2, ty_of_42_1, ty_of_42_7, ty_of_45_0, ty_of_48_0, ty_of_48_1, ty_of_48_2, ty_of_58_9, ty_of_81_0, ty_of_81_1, ty_sl_27, ty_sl_36, ty_sl_46, ty_sl_82, ty_sz_27, ty_sz_29, ty_sz_3, ty_sz_33, ty_sz_35, ty_sz_4, ty_sz_40, ty_sz_42, ty_sz_45, ty_sz_46, ty_sz_48, ty_sz_5, ty_sz_58, ty_sz_9, ty_ze_35, ty_ze_42, ty_ze_48]
          | (with_reducible refine drawK_id ?_); refine drawK_auto hmix (by kernel_rfl) ?_
          | (with_reducible refine draw_fin ?_ ?_); · kernel_rfl
          | (with_reducible refine draw_id ?_); kernel_rfl
          | (with_reducible refine loopK_id ?_); refine loopK_n 1 (by kernel_rfl) ?_
          | ((with_reducible refine callK_id (f := 7) ?_); refine callK_fun c7 rfl rfl ?_)
          | ((with_reducible refine callK_id (f := 9) ?_); refine callK_fun c9 rfl rfl ?_)
          | ((with_reducible refine callK_id (f := 20) ?_); refine callK_funW [] [8, 9] (c20) (by simp [pullHW, roC, Function.comp_def, rows_pull, pullS, ix, pull_mV, pull_mS, pull_mE]) rfl rfl (by decide) (by simp [ne_mV, ne_mS, ne_mE]) (by simp [pullI, pullS, ix, kC_pull, kV, kC, encM]) ?_; rintro r Hn ⟨rfl, rfl⟩ -; skip)
          | ((with_reducible refine callK_id (f := 8) ?_); refine callK_funG (hG.at _) [10] [4, 5, 6, 7, 8, 9] cP (by simp [pullHW, roC, Function.comp_def, rows_pull, pullS, ix, prC_pull, pull_mV, pull_mS, pull_mE]) rfl rfl (by decide) (by simp [ne_mV, ne_mS, ne_mE]) (by simp [pullI, pullS, ix, frC]) ?_; rintro r Hn ⟨rfl, rfl⟩ -; skip)
          | (with_reducible refine And.intro ?_ ?_; · omega)
        refine ⟨x.fs.length - (i + 1), _, _, by omega, Wk.gc [0, 1, 2, 3, 4, 5, 6, 7, 8, 9, 10, 11] rfl (by decide), i + 1, cf, Lf, rfl, by omega, hF, ?_, ?_, ?_, ?_, ?_⟩
        · simp [Function.comp_def, get_gcT, get, put, gcI, pullI, pullS, gcH, patL, canL, canH, canTL, canT, rows_pull, ix, g1, g3, g4, g5]
        · simp [Function.comp_def, get_gcT, get, put, gcI, pullI, pullS, gcH, patL, canL, canH, canTL, canT, rows_pull, ix, g1, g3, g4, g5]
        · simp [Function.comp_def, get_gcT, get, put, gcI, pullI, pullS, gcH, patL, canL, canH, canTL, canT, rows_pull, ix, g1, g3, g4, g5]
        · simp [Function.comp_def, get_gcT, get, put, gcI, pullI, pullS, gcH, patL, canL, canH, canTL, canT, rows_pull, ix, g1, g3, g4, g5]
        · simp [Function.comp_def, get_gcT, get, put, gcI, pullI, pullS, gcH, patL, canL, canH, canTL, canT, rows_pull, ix, HX, HB, playC, poC_pull, stQ_pull, fqC_pull, prC_pull, pull_mV, pull_mS, pull_mE]
      | false =>
        have q4 : decide ((B.L.length : Int) < fr) = true := decide_eq_true (by have := of_decide_eq_false q3; omega)
        repeat' first
          | with_reducible rfl
          | simp only [e_loopN, stC_push, q1, q2, z0, z1, hi1, hel, fqC, frC, hfr, List.length_map, Int.toNat_natCast, g1, g3, g4, g5, push_mV, push_mS, push_mE, rows_push1, push_one, pull_one, kC_push, kC_pull, kC_len, eR_len, eV_len, eV_pull, eV_push, q3, q4, e_nil, e_cons, e_gd, e_gdt, e_gdf, e_g0, e_g1, e_op, e_step, e_stepG, e_stepN, e_clo, e_cloF, e_ret, e_put, e_junk, e_skip, e_reg, e_draw, e_seq, e_cond, e_block, e_exit, e_r, e_label, e_loop, q_sn, q_sr, q_se, q_bn, q_br, q_be, q_rr, q_rn, e_res0, e_res1, e_res2, e_b, d_nil, d_cons, d_op, d_step, d_stepG, d_stepN, d_clo, d_cloF, d_ret, d_put, d_junk, d_inf, d_fin, g_not, g_and, argsTM, stepE, stBuiltin, stBox, stAlloc, stLoad, stStore, stField, stExtract, stBin, stUn, stConv, stNilCheck, stFieldV, stIndex, stIndexAddr, stLen, stMin, stMax, stBuild, fillI, stBuildSlice, setRows, stMakeSlice, stAppend, srcR, segR, rdCells, stSlice, bnd, stArr, stCopy, stConv2, isIntV, cutR, byteRows, rowByte, binStr, Option.map_some, Option.map_none, eq_self, canTL, canT, canH, canL, patL, gcH, gcT, gcI, get_gcT, pullS, pullI, pushS, push1, pushI, pullHW, roC, ix, List.map_map, Function.comp_def, List.zip_cons_cons, List.zip_nil_left, List.zip_nil_right, List.range'_zero, List.range'_succ, rd, get, put, IV.cells, ofValue, seg, spl, ldIV, binInt, eqI, cellsEq, leafEq, resI, flat, isT, upd, up1, nextM, cR, ptrC, nAl, isAl, List.length_cons, List.length_nil, List.length_append, List.length_replicate, List.length_set, Nat.reduceAdd, Nat.reduceMul, Nat.reduceEqDiff, Nat.reduceLeDiff, Nat.zero_add, Nat.add_zero, ne_eq, reduceCtorEq, not_false_eq_true, not_true_eq_false, reduceIte, true_and, and_true, and_false, false_and, and_self, List.nil_append, List.cons_append, List.append_nil, List.getElem?_cons_zero, List.getElem?_cons_succ, List.drop_succ_cons, List.drop_zero, List.take_succ_cons, List.take_zero, List.set_cons_zero, List.set_cons_succ, List.getElem?_toArray, Option.bind_some, Bool.false_eq_true, Nat.add_one_ne_zero, Nat.succ_ne_self, List.map_cons, List.map_nil, Bool.not_true, Bool.not_false, List.replicate_succ, List.replicate_zero, List.mem_cons, List.not_mem_nil, or_false, false_or, or_true, true_or, forall_const, false_implies, implies_true, true_implies, Int.reduceToNat, Int.reduceLE, Int.reduceLT, Int.cast_ofNat_Int, bne, Int.reduceEq, Int.reduceNe, Int.reduceNeg, Int.reduceAdd, Int.reduceSub, Int.reduceMul, beq_self_eq_true, Int.reduceBEq, Int.reduceBNe, Bool.true_and, Bool.false_and, Bool.and_true, Bool.and_false, Bool.true_or, Bool.false_or, Bool.or_true, Bool.or_false, Nat.reduceLT, Nat.reduceSub, Nat.zero_min, Nat.min_zero, Nat.min_self, List.flatMap_cons, List.flatMap_nil, Int.toNat_natCast, strEq_self, Bool.not_eq_true', decide_true, decide_false, WLS, Tryd.underlying3, Tryd.underlying5, ty_ag_27, ty_ag_29, ty_ag_3, ty_ag_33, ty_ag_35, ty_ag_4, ty_ag_40, ty_ag_42, ty_ag_45, ty_ag_46, ty_ag_5, ty_ag_58, ty_ag_9, ty_eg_40, ty_lv_40, ty_of_29_4, ty_of_35_2, ty_of_42_1, ty_of_42_7, ty_of_45_0, ty_of_48_0, ty_of_48_1, ty_of_48_2, ty_of_58_9, ty_of_81_0, ty_of_81_1, ty_sl_27, ty_sl_36, ty_sl_46, ty_sl_82, ty_sz_27, ty_sz_29, ty_sz_3, ty_sz_33, ty_sz_35, ty_sz_4, ty_sz_40, ty_sz_42, ty_sz_45, ty_sz_46, ty_sz_48, ty_sz_5, ty_sz_58, ty_sz_9, ty_ze_35, ty_ze_42, ty_ze_48]
          | (with_reducible refine drawK_id ?_); refine drawK_auto hmix (by kernel_rfl) ?_
          | (with_reducible refine draw_fin ?_ ?_); · kernel_rfl
          | (with_reducible refine draw_id ?_); kernel_rfl
          | (with_reducible refine loopK_id ?_); refine loopK_n 1 (by kernel_rfl) ?_
          | ((with_reducible refine callK_id (f := 7) ?_); refine callK_fun c7 rfl rfl ?_)
          | ((with_reducible refine callK_id (f := 9) ?_); refine callK_fun c9 rfl rfl ?_)
          | ((with_reducible refine callK_id (f := 20) ?_); refine callK_funW [] [8, 9] (c20) (by simp [pullHW, roC, Function.comp_def, rows_pull, pullS, ix, pull_mV, pull_mS, pull_mE]) rfl rfl (by decide) (by simp [ne_mV, ne_mS, ne_mE]) (by simp [pullI, pullS, ix, kC_pull, kV, kC, encM]) ?_; rintro r Hn ⟨rfl, rfl⟩ -; skip)
          | ((with_reducible refine callK_id (f := 8) ?_); refine callK_funG (hG.at _) [10] [4, 5, 6, 7, 8, 9] cP (by simp [pullHW, roC, Function.comp_def, rows_pull, pullS, ix, prC_pull, pull_mV, pull_mS, pull_mE]) rfl rfl (by decide) (by simp [ne_mV, ne_mS, ne_mE]) (by simp [pullI, pullS, ix, frC]) ?_; rintro r Hn ⟨rfl, rfl⟩ -; skip)
          | (with_reducible refine And.intro ?_ ?_; · omega)
        refine ⟨x.fs.length - (i + 1), _, _, by omega, Wk.gc [0, 1, 2, 3, 4, 5, 6, 7, 8, 9, 10, 11] rfl (by decide), i + 1, cf, Lf, rfl, by omega, hF, ?_, ?_, ?_, ?_, ?_⟩
        · simp [Function.comp_def, get_gcT, get, put, gcI, pullI, pullS, gcH, patL, canL, canH, canTL, canT, rows_pull, ix, g1, g3, g4, g5]
        · simp [Function.comp_def, get_gcT, get, put, gcI, pullI, pullS, gcH, patL, canL, canH, canTL, canT, rows_pull, ix, g1, g3, g4, g5]
        · simp [Function.comp_def, get_gcT, get, put, gcI, pullI, pullS, gcH, patL, canL, canH, canTL, canT, rows_pull, ix, g1, g3, g4, g5]
        · simp [Function.comp_def, get_gcT, get, put, gcI, pullI, pullS, gcH, patL, canL, canH, canTL, canT, rows_pull, ix, g1, g3, g4, g5]
        · simp [Function.comp_def, get_gcT, get, put, gcI, pullI, pullS, gcH, patL, canL, canH, canTL, canT, rows_pull, ix, HX, HB, playC, poC_pull, stQ_pull, fqC_pull, prC_pull, pull_mV, pull_mS, pull_mE]
    · have q3 : decide (fr < 1) = false := decide_eq_false (by omega)
      have q4 : decide ((B.L.length : Int) < fr) = false := decide_eq_false (by omega)
      obtain ⟨j, hj, hj2, hj3⟩ : ∃ j : Nat, IntKind.i64.wrap (fr - 1) = (j : Int) ∧ (fr - 1).toNat = j ∧ j < B.L.length := ⟨(fr - 1).toNat, by rw [wr_i64 (by omega) (by omega)]; omega, rfl, by omega⟩
      have z2 : (0 : Int) ≤ (j : Int) := by omega
      have z3 : (j : Int) < (B.L.length : Int) := by omega
      obtain ⟨p, hp⟩ : ∃ p, B.L[j]? = some p := ⟨_, List.getElem?_eq_getElem hj3⟩
      have hel2 : (B.L.map prC)[j]? = some (prC p) := by rw [List.getElem?_map, hp]; rfl
      have c9 := onW p
      have hst := hB.st p (List.mem_of_getElem? hp)
      cases e1 : onP p with
      | false =>
        rw [e1] at c9
        rw [hSh (by simp [shutB, hj2, hp, e1])] at cP
        simp only [List.length_nil, List.map_nil] at cP
        repeat' first
          | with_reducible rfl
          | simp only [e_loopN, stC_push, q1, q2, z0, z1, hi1, hel, fqC, frC, hfr, List.length_map, Int.toNat_natCast, g1, g3, g4, g5, push_mV, push_mS, push_mE, rows_push1, push_one, pull_one, kC_push, kC_pull, kC_len, eR_len, eV_len, eV_pull, eV_push, q3, q4, z2, z3, hj, hel2, prC, e_nil, e_cons, e_gd, e_gdt, e_gdf, e_g0, e_g1, e_op, e_step, e_stepG, e_stepN, e_clo, e_cloF, e_ret, e_put, e_junk, e_skip, e_reg, e_draw, e_seq, e_cond, e_block, e_exit, e_r, e_label, e_loop, q_sn, q_sr, q_se, q_bn, q_br, q_be, q_rr, q_rn, e_res0, e_res1, e_res2, e_b, d_nil, d_cons, d_op, d_step, d_stepG, d_stepN, d_clo, d_cloF, d_ret, d_put, d_junk, d_inf, d_fin, g_not, g_and, argsTM, stepE, stBuiltin, stBox, stAlloc, stLoad, stStore, stField, stExtract, stBin, stUn, stConv, stNilCheck, stFieldV, stIndex, stIndexAddr, stLen, stMin, stMax, stBuild, fillI, stBuildSlice, setRows, stMakeSlice, stAppend, srcR, segR, rdCells, stSlice, bnd, stArr, stCopy, stConv2, isIntV, cutR, byteRows, rowByte, binStr, Option.map_some, Option.map_none, eq_self, canTL, canT, canH, canL, patL, gcH, gcT, gcI, get_gcT, pullS, pullI, pushS, push1, pushI, pullHW, roC, ix, List.map_map, Function.comp_def, List.zip_cons_cons, List.zip_nil_left, List.zip_nil_right, List.range'_zero, List.range'_succ, rd, get, put, IV.cells, ofValue, seg, spl, ldIV, binInt, eqI, cellsEq, leafEq, resI, flat, isT, upd, up1, nextM, cR, ptrC, nAl, isAl, List.length_cons, List.length_nil, List.length_append, List.length_replicate, List.length_set, Nat.reduceAdd, Nat.reduceMul, Nat.reduceEqDiff, Nat.reduceLeDiff, Nat.zero_add, Nat.add_zero, ne_eq, reduceCtorEq, not_false_eq_true, not_true_eq_false, reduceIte, true_and, and_true, and_false, false_and, and_self, List.nil_append, List.cons_append, List.append_nil, List.getElem?_cons_zero, List.getElem?_cons_succ, List.drop_succ_cons, List.drop_zero, List.take_succ_cons, List.take_zero, List.set_cons_zero, List.set_cons_succ, List.getElem?_toArray, Option.bind_some, Bool.false_eq_true, Nat.add_one_ne_zero, Nat.succ_ne_self, List.map_cons, List.map_nil, Bool.not_true, Bool.not_false, List.replicate_succ, List.replicate_zero, List.mem_cons, List.not_mem_nil, or_false, false_or, or_true, true_or, forall_const, false_implies, implies_true, true_implies, Int.reduceToNat, Int.reduceLE, Int.reduceLT, Int.cast_ofNat_Int, bne, Int.reduceEq, Int.reduceNe, Int.reduceNeg, Int.reduceAdd, Int.reduceSub, Int.reduceMul, beq_self_eq_true, Int.reduceBEq, Int.reduceBNe, Bool.true_and, Bool.false_and, Bool.and_true, Bool.and_false, Bool.true_or, Bool.false_or, Bool.or_true, Bool.or_false, Nat.reduceLT, Nat.reduceSub, Nat.zero_min, Nat.min_zero, Nat.min_self, List.flatMap_cons, List.flatMap_nil, Int.toNat_natCast, strEq_self, Bool.not_eq_true', decide_true, decide_false, WLS, Tryd.underlying3, Tryd.underlying5, ty_ag_27, ty_ag_29, ty_ag_3, ty_ag_33, ty_ag_35, ty_ag_4, ty_ag_40, ty_ag_42, ty_ag_45, ty_ag_46, ty_ag_5, ty_ag_58, ty_ag_9, ty_eg_40, ty_lv_40, ty_of_29_4, ty_of_35_2, ty_of_42_1, ty_of_42_7, ty_of_45_0, ty_of_48_0, ty_of_48_1, ty_of_48_2, ty_of_58_9, ty_of_81_0, ty_of_81_1, ty_sl_27, ty_sl_36, ty_sl_46, ty_sl_82, ty_sz_27, ty_sz_29, ty_sz_3, ty_sz_33, ty_sz_35, ty_sz_4, ty_sz_40, ty_sz_42, ty_sz_45, ty_sz_46, ty_sz_48, ty_sz_5, ty_sz_58, ty_sz_9, ty_ze_35, ty_ze_42, ty_ze_48]
          | (with_reducible refine drawK_id ?_); refine drawK_auto hmix (by kernel_rfl) ?_
          | (with_reducible refine draw_fin ?_ ?_); · kernel_rfl
          | (with_reducible refine draw_id ?_); kernel_rfl
          | (with_reducible refine loopK_id ?_); refine loopK_n 1 (by kernel_rfl) ?_
          | ((with_reducible refine callK_id (f := 7) ?_); refine callK_fun c7 rfl rfl ?_)
          | ((with_reducible refine callK_id (f := 9) ?_); refine callK_fun c9 rfl rfl ?_)
          | ((with_reducible refine callK_id (f := 20) ?_); refine callK_funW [] [8, 9] (c20) (by simp [pullHW, roC, Function.comp_def, rows_pull, pullS, ix, pull_mV, pull_mS, pull_mE]) rfl rfl (by decide) (by simp [ne_mV, ne_mS, ne_mE]) (by simp [pullI, pullS, ix, kC_pull, kV, kC, encM]) ?_; rintro r Hn ⟨rfl, rfl⟩ -; skip)
          | ((with_reducible refine callK_id (f := 8) ?_); refine callK_funG (hG.at _) [10] [4, 5, 6, 7, 8, 9] cP (by simp [pullHW, roC, Function.comp_def, rows_pull, pullS, ix, prC_pull, pull_mV, pull_mS, pull_mE]) rfl rfl (by decide) (by simp [ne_mV, ne_mS, ne_mE]) (by simp [pullI, pullS, ix, frC]) ?_; rintro r Hn ⟨rfl, rfl⟩ -; skip)
          | (with_reducible refine And.intro ?_ ?_; · omega)
        refine ⟨x.fs.length - (i + 1), _, _, by omega, Wk.gc [0, 1, 2, 3, 4, 5, 6, 7, 8, 9, 10, 11] rfl (by decide), i + 1, cf, Lf, rfl, by omega, hF, ?_, ?_, ?_, ?_, ?_⟩
        · simp [Function.comp_def, get_gcT, get, put, gcI, pullI, pullS, gcH, patL, canL, canH, canTL, canT, rows_pull, ix, g1, g3, g4, g5]
        · simp [Function.comp_def, get_gcT, get, put, gcI, pullI, pullS, gcH, patL, canL, canH, canTL, canT, rows_pull, ix, g1, g3, g4, g5]
        · simp [Function.comp_def, get_gcT, get, put, gcI, pullI, pullS, gcH, patL, canL, canH, canTL, canT, rows_pull, ix, g1, g3, g4, g5]
        · simp [Function.comp_def, get_gcT, get, put, gcI, pullI, pullS, gcH, patL, canL, canH, canTL, canT, rows_pull, ix, g1, g3, g4, g5]
        · simp [Function.comp_def, get_gcT, get, put, gcI, pullI, pullS, gcH, patL, canL, canH, canTL, canT, rows_pull, ix, HX, HB, playC, poC_pull, stQ_pull, fqC_pull, prC_pull, pull_mV, pull_mS, pull_mE]
      | true =>
        rw [e1] at c9
        cases e2 : (p.st == 0) with
        | true =>
          rw [hSh (by simp [shutB, hj2, hp, e1, e2])] at cP
          simp only [List.length_nil, List.map_nil] at cP
          repeat' first
            | with_reducible rfl
            | simp only [e_loopN, stC_push, q1, q2, z0, z1, hi1, hel, fqC, frC, hfr, List.length_map, Int.toNat_natCast, g1, g3, g4, g5, push_mV, push_mS, push_mE, rows_push1, push_one, pull_one, kC_push, kC_pull, kC_len, eR_len, eV_len, eV_pull, eV_push, q3, q4, z2, z3, hj, hel2, prC, e2, e_nil, e_cons, e_gd, e_gdt, e_gdf, e_g0, e_g1, e_op, e_step, e_stepG, e_stepN, e_clo, e_cloF, e_ret, e_put, e_junk, e_skip, e_reg, e_draw, e_seq, e_cond, e_block, e_exit, e_r, e_label, e_loop, q_sn, q_sr, q_se, q_bn, q_br, q_be, q_rr, q_rn, e_res0, e_res1, e_res2, e_b, d_nil, d_cons, d_op, d_step, d_stepG, d_stepN, d_clo, d_cloF, d_ret, d_put, d_junk, d_inf, d_fin, g_not, g_and, argsTM, stepE, stBuiltin, stBox, stAlloc, stLoad, stStore, stField, stExtract, stBin, stUn, stConv, stNilCheck, stFieldV, stIndex, stIndexAddr, stLen, stMin, stMax, stBuild, fillI, stBuildSlice, setRows, stMakeSlice, stAppend, srcR, segR, rdCells, stSlice, bnd, stArr, stCopy, stConv2, isIntV, cutR, byteRows, rowByte, binStr, Option.map_some, Option.map_none, eq_self, canTL, canT, canH, canL, patL, gcH, gcT, gcI, get_gcT, pullS, pullI, pushS, push1, pushI, pullHW, roC, ix, List.map_map, Function.comp_def, List.zip_cons_cons, List.zip_nil_left, List.zip_nil_right, List.range'_zero, List.range'_succ, rd, get, put, IV.cells, ofValue, seg, spl, ldIV, binInt, eqI, cellsEq, leafEq, resI, flat, isT, upd, up1, nextM, cR, ptrC, nAl, isAl, List.length_cons, List.length_nil, List.length_append, List.length_replicate, List.length_set, Nat.reduceAdd, Nat.reduceMul, Nat.reduceEqDiff, Nat.reduceLeDiff, Nat.zero_add, Nat.add_zero, ne_eq, reduceCtorEq, not_false_eq_true, not_true_eq_false, reduceIte, true_and, and_true, and_false, false_and, and_self, List.nil_append, List.cons_append, List.append_nil, List.getElem?_cons_zero, List.getElem?_cons_succ, List.drop_succ_cons, List.drop_zero, List.take_succ_cons, List.take_zero, List.set_cons_zero, List.set_cons_succ, List.getElem?_toArray, Option.bind_some, Bool.false_eq_true, Nat.add_one_ne_zero, Nat.succ_ne_self, List.map_cons, List.map_nil, Bool.not_true, Bool.not_false, List.replicate_succ, List.replicate_zero, List.mem_cons, List.not_mem_nil, or_false, false_or, or_true, true_or, forall_const, false_implies, implies_true, true_implies, Int.reduceToNat, Int.reduceLE, Int.reduceLT, Int.cast_ofNat_Int, bne, Int.reduceEq, Int.reduceNe, Int.reduceNeg, Int.reduceAdd, Int.reduceSub, Int.reduceMul, beq_self_eq_true, Int.reduceBEq, Int.reduceBNe, Bool.true_and, Bool.false_and, Bool.and_true, Bool.and_false, Bool.true_or, Bool.false_or, Bool.or_true, Bool.or_false, Nat.reduceLT, Nat.reduceSub, Nat.zero_min, Nat.min_zero, Nat.min_self, List.flatMap_cons, List.flatMap_nil, Int.toNat_natCast, strEq_self, Bool.not_eq_true', decide_true, decide_false, WLS, Tryd.underlying3, Tryd.underlying5, ty_ag_27, ty_ag_29, ty_ag_3, ty_ag_33, ty_ag_35, ty_ag_4, ty_ag_40, ty_ag_42, ty_ag_45, ty_ag_46, ty_ag_5, ty_ag_58, ty_ag_9, ty_eg_40, ty_lv_40, ty_of_29_4, ty_of_35_2, ty_of_42_1, ty_of_42_7, ty_of_45_0, ty_of_48_0, ty_of_48_1, ty_of_48_2, ty_of_58_9, ty_of_81_0, ty_of_81_1, ty_sl_27, ty_sl_36, ty_sl_46, ty_sl_82, ty_sz_27, ty_sz_29, ty_sz_3, ty_sz_33, ty_sz_35, ty_sz_4, ty_sz_40, ty_sz_42, ty_sz_45, ty_sz_46, ty_sz_48, ty_sz_5, ty_sz_58, ty_sz_9, ty_ze_35, ty_ze_42, ty_ze_48]
            | (with_reducible refine drawK_id ?_); refine drawK_auto hmix (by kernel_rfl) ?_
            | (with_reducible refine draw_fin ?_ ?_); · kernel_rfl
            | (with_reducible refine draw_id ?_); kernel_rfl
            | (with_reducible refine loopK_id ?_); refine loopK_n 1 (by kernel_rfl) ?_
            | ((with_reducible refine callK_id (f := 7) ?_); refine callK_fun c7 rfl rfl ?_)
            | ((with_reducible refine callK_id (f := 9) ?_); refine callK_fun c9 rfl rfl ?_)
            | ((with_reducible refine callK_id (f := 20) ?_); refine callK_funW [] [8, 9] (c20) (by simp [pullHW, roC, Function.comp_def, rows_pull, pullS, ix, pull_mV, pull_mS, pull_mE]) rfl rfl (by decide) (by simp [ne_mV, ne_mS, ne_mE]) (by simp [pullI, pullS, ix, kC_pull, kV, kC, encM]) ?_; rintro r Hn ⟨rfl, rfl⟩ -; skip)
            | ((with_reducible refine callK_id (f := 8) ?_); refine callK_funG (hG.at _) [10] [4, 5, 6, 7, 8, 9] cP (by simp [pullHW, roC, Function.comp_def, rows_pull, pullS, ix, prC_pull, pull_mV, pull_mS, pull_mE]) rfl rfl (by decide) (by simp [ne_mV, ne_mS, ne_mE]) (by simp [pullI, pullS, ix, frC]) ?_; rintro r Hn ⟨rfl, rfl⟩ -; skip)
            | (with_reducible refine And.intro ?_ ?_; · omega)
          refine ⟨x.fs.length - (i + 1), _, _, by omega, Wk.gc [0, 1, 2, 3, 4, 5, 6, 7, 8, 9, 10, 11] rfl (by decide), i + 1, cf, Lf, rfl, by omega, hF, ?_, ?_, ?_, ?_, ?_⟩
          · simp [Function.comp_def, get_gcT, get, put, gcI, pullI, pullS, gcH, patL, canL, canH, canTL, canT, rows_pull, ix, g1, g3, g4, g5]
          · simp [Function.comp_def, get_gcT, get, put, gcI, pullI, pullS, gcH, patL, canL, canH, canTL, canT, rows_pull, ix, g1, g3, g4, g5]
          · simp [Function.comp_def, get_gcT, get, put, gcI, pullI, pullS, gcH, patL, canL, canH, canTL, canT, rows_pull, ix, g1, g3, g4, g5]
          · simp [Function.comp_def, get_gcT, get, put, gcI, pullI, pullS, gcH, patL, canL, canH, canTL, canT, rows_pull, ix, g1, g3, g4, g5]
          · simp [Function.comp_def, get_gcT, get, put, gcI, pullI, pullS, gcH, patL, canL, canH, canTL, canT, rows_pull, ix, HX, HB, playC, poC_pull, stQ_pull, fqC_pull, prC_pull, pull_mV, pull_mS, pull_mE]
        | false =>
          rw [hj2, hp] at hSo
          have hSl := sent_len B.Lv B.Ls B.rm cf Lf B.L fr f
          generalize passC B.Lv B.Ls B.rm cf Lf B.L fr f = R at cP hF2 hSo hSl
          obtain ⟨⟨c2, L2⟩, ⟨w, a, b, SS⟩⟩ := R
          simp only at cP hF2 hSo hSl
          repeat' first
            | with_reducible rfl
            | simp only [stC_push, q1, q2, z0, z1, hi1, hel, fqC, frC, hfr, List.length_map, Int.toNat_natCast, g1, g3, g4, g5, push_mV, push_mS, push_mE, rows_push1, push_one, pull_one, kC_push, kC_pull, kC_len, eR_len, eV_len, eV_pull, eV_push, q3, q4, z2, z3, hj, hel2, prC, e2, e_nil, e_cons, e_gd, e_gdt, e_gdf, e_g0, e_g1, e_op, e_step, e_stepG, e_stepN, e_clo, e_cloF, e_ret, e_put, e_junk, e_skip, e_reg, e_draw, e_seq, e_cond, e_block, e_exit, e_r, e_label, e_loop, q_sn, q_sr, q_se, q_bn, q_br, q_be, q_rr, q_rn, e_res0, e_res1, e_res2, e_b, d_nil, d_cons, d_op, d_step, d_stepG, d_stepN, d_clo, d_cloF, d_ret, d_put, d_junk, d_inf, d_fin, g_not, g_and, argsTM, stepE, stBuiltin, stBox, stAlloc, stLoad, stStore, stField, stExtract, stBin, stUn, stConv, stNilCheck, stFieldV, stIndex, stIndexAddr, stLen, stMin, stMax, stBuild, fillI, stBuildSlice, setRows, stMakeSlice, stAppend, srcR, segR, rdCells, stSlice, bnd, stArr, stCopy, stConv2, isIntV, cutR, byteRows, rowByte, binStr, Option.map_some, Option.map_none, eq_self, canTL, canT, canH, canL, patL, gcH, gcT, gcI, get_gcT, pullS, pullI, pushS, push1, pushI, pullHW, roC, ix, List.map_map, Function.comp_def, List.zip_cons_cons, List.zip_nil_left, List.zip_nil_right, List.range'_zero, List.range'_succ, rd, get, put, IV.cells, ofValue, seg, spl, ldIV, binInt, eqI, cellsEq, leafEq, resI, flat, isT, upd, up1, nextM, cR, ptrC, nAl, isAl, List.length_cons, List.length_nil, List.length_append, List.length_replicate, List.length_set, Nat.reduceAdd, Nat.reduceMul, Nat.reduceEqDiff, Nat.reduceLeDiff, Nat.zero_add, Nat.add_zero, ne_eq, reduceCtorEq, not_false_eq_true, not_true_eq_false, reduceIte, true_and, and_true, and_false, false_and, and_self, List.nil_append, List.cons_append, List.append_nil, List.getElem?_cons_zero, List.getElem?_cons_succ, List.drop_succ_cons, List.drop_zero, List.take_succ_cons, List.take_zero, List.set_cons_zero, List.set_cons_succ, List.getElem?_toArray, Option.bind_some, Bool.false_eq_true, Nat.add_one_ne_zero, Nat.succ_ne_self, List.map_cons, List.map_nil, Bool.not_true, Bool.not_false, List.replicate_succ, List.replicate_zero, List.mem_cons, List.not_mem_nil, or_false, false_or, or_true, true_or, forall_const, false_implies, implies_true, true_implies, Int.reduceToNat, Int.reduceLE, Int.reduceLT, Int.cast_ofNat_Int, bne, Int.reduceEq, Int.reduceNe, Int.reduceNeg, Int.reduceAdd, Int.reduceSub, Int.reduceMul, beq_self_eq_true, Int.reduceBEq, Int.reduceBNe, Bool.true_and, Bool.false_and, Bool.and_true, Bool.and_false, Bool.true_or, Bool.false_or, Bool.or_true, Bool.or_false, Nat.reduceLT, Nat.reduceSub, Nat.zero_min, Nat.min_zero, Nat.min_self, List.flatMap_cons, List.flatMap_nil, Int.toNat_natCast, strEq_self, Bool.not_eq_true', decide_true, decide_false, WLS, Tryd.underlying3, Tryd.underlying5, ty_ag_27, ty_ag_29, ty_ag_3, ty_ag_33, ty_ag_35, ty_ag_4, ty_ag_40, ty_ag_42, ty_ag_45, ty_ag_46, ty_ag_5, ty_ag_58, ty_ag_9, ty_eg_40, ty_lv_40, ty_of_29_4, ty_of_35_2, ty_of_42_1, ty_of_42_7, ty_of_45_0, ty_of_48_0, ty_of_48_1, ty_of_48_2, ty_of_58_9, ty_of_81_0, ty_of_81_1, ty_sl_27, ty_sl_36, ty_sl_46, ty_sl_82, ty_sz_27, ty_sz_29, ty_sz_3, ty_sz_33, ty_sz_35, ty_sz_4, ty_sz_40, ty_sz_42, ty_sz_45, ty_sz_46, ty_sz_48, ty_sz_5, ty_sz_58, ty_sz_9, ty_ze_35, ty_ze_42, ty_ze_48]
            | (with_reducible refine drawK_id ?_); refine drawK_auto hmix (by kernel_rfl) ?_
            | (with_reducible refine draw_fin ?_ ?_); · kernel_rfl
            | (with_reducible refine draw_id ?_); kernel_rfl
            | ((with_reducible refine callK_id (f := 7) ?_); refine callK_fun c7 rfl rfl ?_)
            | ((with_reducible refine callK_id (f := 9) ?_); refine callK_fun c9 rfl rfl ?_)
            | ((with_reducible refine callK_id (f := 20) ?_); refine callK_funW [] [8, 9] (c20) (by simp [pullHW, roC, Function.comp_def, rows_pull, pullS, ix, pull_mV, pull_mS, pull_mE]) rfl rfl (by decide) (by simp [ne_mV, ne_mS, ne_mE]) (by simp [pullI, pullS, ix, kC_pull, kV, kC, encM]) ?_; rintro r Hn ⟨rfl, rfl⟩ -; skip)
            | ((with_reducible refine callK_id (f := 8) ?_); refine callK_funG (hG.at _) [10] [4, 5, 6, 7, 8, 9] cP (by simp [pullHW, roC, Function.comp_def, rows_pull, pullS, ix, prC_pull, pull_mV, pull_mS, pull_mE]) rfl rfl (by decide) (by simp [ne_mV, ne_mS, ne_mE]) (by simp [pullI, pullS, ix, frC]) ?_; rintro r Hn ⟨rfl, rfl⟩ -; skip)
            | (with_reducible refine And.intro ?_ ?_; · omega)
          refine loopK_wk (by kernel_rfl) (IS x B c2 L2 i f fr SS w a b) SS.length ⟨_, _, Wk.gc [0, 1, 2, 3, 4, 5, 6, 7, 8, 9, 10, 11, 12, 15, 14] rfl (by decide), 0, by omega, by omega, ?_, ?_, ?_, ?_, ?_, ?_, ?_, ?_, ?_, ?_⟩ ?_
          · simp [Function.comp_def, get_gcT, get, put, gcI, pullI, pullS, gcH, patL, canL, canH, canTL, canT, rows_pull, ix, g1, g3, g4, g5]
          · simp [Function.comp_def, get_gcT, get, put, gcI, pullI, pullS, gcH, patL, canL, canH, canTL, canT, rows_pull, ix, g1, g3, g4, g5]
          · simp [Function.comp_def, get_gcT, get, put, gcI, pullI, pullS, gcH, patL, canL, canH, canTL, canT, rows_pull, ix, g1, g3, g4, g5]
          · simp [Function.comp_def, get_gcT, get, put, gcI, pullI, pullS, gcH, patL, canL, canH, canTL, canT, rows_pull, ix, g1, g3, g4, g5]
          · simp [Function.comp_def, get_gcT, get, put, gcI, pullI, pullS, gcH, patL, canL, canH, canTL, canT, rows_pull, ix, g1, g3, g4, g5]
          · simp [Function.comp_def, get_gcT, get, put, gcI, pullI, pullS, gcH, patL, canL, canH, canTL, canT, rows_pull, ix, g1, g3, g4, g5]
          · simp [Function.comp_def, get_gcT, get, put, gcI, pullI, pullS, gcH, patL, canL, canH, canTL, canT, rows_pull, ix, g1, g3, g4, g5]
          · simp [Function.comp_def, get_gcT, get, put, gcI, pullI, pullS, gcH, patL, canL, canH, canTL, canT, rows_pull, ix, g1, g3, g4, g5]
          · simp [Function.comp_def, get_gcT, get, put, gcI, pullI, pullS, gcH, patL, canL, canH, canTL, canT, rows_pull, ix, g1, g3, g4, g5]
          · simp [Function.comp_def, get_gcT, get, put, gcI, pullI, pullS, gcH, patL, canL, canH, canTL, canT, rows_pull, ix, HX, HB, playC, rC, frC, stC_pull, poC_pull, stQ_pull, fqC_pull, prC_pull, pull_mV, pull_mS, pull_mE]
          clear g1 g3 g4 g5
          rintro mm tm H ⟨k, rfl, hk, g1, g3, g4, g5, g6, g7, g9, g10, g11, rfl⟩
          unfold HX HB playC rC
          simp only [List.cons_append, List.nil_append]
          by_cases hkl : k < SS.length
          · have q5 : decide ((k : Int) < (SS.length : Int)) = true := decide_eq_true (by omega)
            have z4 : (0 : Int) ≤ (k : Int) := by omega
            have z5 : (k : Int) < (SS.length : Int) := by omega
            obtain ⟨e, he⟩ : ∃ e, SS[k]? = some e := ⟨_, List.getElem?_eq_getElem hkl⟩
            have hel3 : (SS.map stC)[k]? = some (stC e) := by rw [List.getElem?_map, he]; rfl
            obtain ⟨s1, s2, s3, ⟨y2, s4, s5, s6⟩, s7, s8, p', s9, s10, s11⟩ := hSo e (List.mem_of_getElem? he)
            obtain rfl : p = p' := Option.some.inj s9
            obtain ⟨qq, g⟩ := e
            simp only at s1 s2 s3 s4 s7 s8
            have hk1 : IntKind.i64.wrap ((k : Int) + 1) = ((k + 1 : Nat) : Int) := by
              have : SS.length ≤ 1000000000 := by have := hSl; omega
              rw [wr_i64 (by omega) (by omega)]; rfl
            have q6 : decide (qq < 1) = false := decide_eq_false (by omega)
            have q7 : decide ((B.L.length : Int) < qq) = false := decide_eq_false (by omega)
            have q8 : (qq == fr) = false := by simpa using s3
            obtain ⟨j2, hj4, hj5⟩ : ∃ j2 : Nat, IntKind.i64.wrap (qq - 1) = (j2 : Int) ∧ (qq - 1).toNat = j2 := ⟨(qq - 1).toNat, by rw [wr_i64 (by omega) (by omega)]; omega, rfl⟩
            rw [hj5] at s4
            have z6 : (0 : Int) ≤ (j2 : Int) := by omega
            have z7 : (j2 : Int) < (B.L.length : Int) := by have := (List.getElem?_eq_some_iff.1 s4).1; omega
            have hel4 : (B.L.map prC)[j2]? = some (prC y2) := by rw [List.getElem?_map, s4]; rfl
            have c9' := onW y2
            rw [s5] at c9'
            have s12 : (p.st == 2) = true := by
              have := beq_eq_false_iff_ne.1 s10
              have := beq_eq_false_iff_ne.1 s11
              simp only [beq_iff_eq]; omega
            repeat' first
              | with_reducible rfl
              | simp only [List.append_eq, q5, z2, z3, z4, z5, z6, z7, hel3, hel4, hel2, q6, q7, q8, hj, hj4, hk1, s6, s12, s7, s8, stC, frC, prC, List.length_map, Int.toNat_natCast, g1, g3, g4, g5, g6, g7, g9, g10, g11, e_nil, e_cons, e_gd, e_gdt, e_gdf, e_g0, e_g1, e_op, e_step, e_stepG, e_stepN, e_clo, e_cloF, e_ret, e_put, e_junk, e_skip, e_reg, e_draw, e_seq, e_cond, e_block, e_exit, e_r, e_label, e_loop, q_sn, q_sr, q_se, q_bn, q_br, q_be, q_rr, q_rn, e_res0, e_res1, e_res2, e_b, d_nil, d_cons, d_op, d_step, d_stepG, d_stepN, d_clo, d_cloF, d_ret, d_put, d_junk, d_inf, d_fin, g_not, g_and, argsTM, stepE, stBuiltin, stBox, stAlloc, stLoad, stStore, stField, stExtract, stBin, stUn, stConv, stNilCheck, stFieldV, stIndex, stIndexAddr, stLen, stMin, stMax, stBuild, fillI, stBuildSlice, setRows, stMakeSlice, stAppend, srcR, segR, rdCells, stSlice, bnd, stArr, stCopy, stConv2, isIntV, cutR, byteRows, rowByte, binStr, Option.map_some, Option.map_none, eq_self, canTL, canT, canH, canL, patL, gcH, gcT, gcI, get_gcT, pullS, pullI, pushS, push1, pushI, pullHW, roC, ix, List.map_map, Function.comp_def, List.zip_cons_cons, List.zip_nil_left, List.zip_nil_right, List.range'_zero, List.range'_succ, rd, get, put, IV.cells, ofValue, seg, spl, ldIV, binInt, eqI, cellsEq, leafEq, resI, flat, isT, upd, up1, nextM, cR, ptrC, nAl, isAl, List.length_cons, List.length_nil, List.length_append, List.length_replicate, List.length_set, Nat.reduceAdd, Nat.reduceMul, Nat.reduceEqDiff, Nat.reduceLeDiff, Nat.zero_add, Nat.add_zero, ne_eq, reduceCtorEq, not_false_eq_true, not_true_eq_false, reduceIte, true_and, and_true, and_false, false_and, and_self, List.nil_append, List.cons_append, List.append_nil, List.getElem?_cons_zero, List.getElem?_cons_succ, List.drop_succ_cons, List.drop_zero, List.take_succ_cons, List.take_zero, List.set_cons_zero, List.set_cons_succ, List.getElem?_toArray, Option.bind_some, Bool.false_eq_true, Nat.add_one_ne_zero, Nat.succ_ne_self, List.map_cons, List.map_nil, Bool.not_true, Bool.not_false, List.replicate_succ, List.replicate_zero, List.mem_cons, List.not_mem_nil, or_false, false_or, or_true, true_or, forall_const, false_implies, implies_true, true_implies, Int.reduceToNat, Int.reduceLE, Int.reduceLT, Int.cast_ofNat_Int, bne, Int.reduceEq, Int.reduceNe, Int.reduceNeg, Int.reduceAdd, Int.reduceSub, Int.reduceMul, beq_self_eq_true, Int.reduceBEq, Int.reduceBNe, Bool.true_and, Bool.false_and, Bool.and_true, Bool.and_false, Bool.true_or, Bool.false_or, Bool.or_true, Bool.or_false, Nat.reduceLT, Nat.reduceSub, Nat.zero_min, Nat.min_zero, Nat.min_self, List.flatMap_cons, List.flatMap_nil, Int.toNat_natCast, strEq_self, Bool.not_eq_true', decide_true, decide_false, WLS, Tryd.underlying3, Tryd.underlying5, ty_ag_27, ty_ag_29, ty_ag_3, ty_ag_33, ty_ag_35, ty_ag_4, ty_ag_40, ty_ag_42, ty_ag_45, ty_ag_46, ty_ag_5, ty_ag_58, ty_ag_9, ty_eg_40, ty_lv_40, ty_of_29_4, ty_of_35_2, ty_of_42_1, ty_of_42_7, ty_of_45_0, ty_of_48_0, ty_of_48_1, ty_of_48_2, ty_of_58_9, ty_of_81_0, ty_of_81_1, ty_sl_27, ty_sl_36, ty_sl_46, ty_sl_82, ty_sz_27, ty_sz_29, ty_sz_3, ty_sz_33, ty_sz_35, ty_sz_4, ty_sz_40, ty_sz_42, ty_sz_45, ty_sz_46, ty_sz_48, ty_sz_5, ty_sz_58, ty_sz_9, ty_ze_35, ty_ze_42, ty_ze_48]
              | (with_reducible refine drawK_id ?_); refine drawK_auto hmix (by kernel_rfl) ?_
              | (with_reducible refine draw_fin ?_ ?_); · kernel_rfl
              | (with_reducible refine draw_id ?_); kernel_rfl
              | (with_reducible refine callD_id (f := 9) ?_); refine callD_of (c9') rfl rfl ?_
              | ((with_reducible refine callK_id (f := 9) ?_); refine callK_fun c9' rfl rfl ?_)
              | (with_reducible refine And.intro ?_ ?_; · omega)
            refine ⟨SS.length - (k + 1), _, _, by omega, Wk.gc [0, 1, 2, 3, 4, 5, 6, 7, 8, 9, 10, 11, 12, 13, 14] rfl (by decide), k + 1, rfl, by omega, ?_, ?_, ?_, ?_, ?_, ?_, ?_, ?_, ?_, ?_⟩
            · simp [Function.comp_def, get_gcT, get, put, gcI, pullI, pullS, gcH, patL, canL, canH, canTL, canT, rows_pull, ix, g1, g3, g4, g5, g6, g7, g9, g10, g11]
            · simp [Function.comp_def, get_gcT, get, put, gcI, pullI, pullS, gcH, patL, canL, canH, canTL, canT, rows_pull, ix, g1, g3, g4, g5, g6, g7, g9, g10, g11]
            · simp [Function.comp_def, get_gcT, get, put, gcI, pullI, pullS, gcH, patL, canL, canH, canTL, canT, rows_pull, ix, g1, g3, g4, g5, g6, g7, g9, g10, g11]
            · simp [Function.comp_def, get_gcT, get, put, gcI, pullI, pullS, gcH, patL, canL, canH, canTL, canT, rows_pull, ix, g1, g3, g4, g5, g6, g7, g9, g10, g11]
            · simp [Function.comp_def, get_gcT, get, put, gcI, pullI, pullS, gcH, patL, canL, canH, canTL, canT, rows_pull, ix, g1, g3, g4, g5, g6, g7, g9, g10, g11]
            · simp [Function.comp_def, get_gcT, get, put, gcI, pullI, pullS, gcH, patL, canL, canH, canTL, canT, rows_pull, ix, g1, g3, g4, g5, g6, g7, g9, g10, g11]
            · simp [Function.comp_def, get_gcT, get, put, gcI, pullI, pullS, gcH, patL, canL, canH, canTL, canT, rows_pull, ix, g1, g3, g4, g5, g6, g7, g9, g10, g11]
            · simp [Function.comp_def, get_gcT, get, put, gcI, pullI, pullS, gcH, patL, canL, canH, canTL, canT, rows_pull, ix, g1, g3, g4, g5, g6, g7, g9, g10, g11]
            · simp [Function.comp_def, get_gcT, get, put, gcI, pullI, pullS, gcH, patL, canL, canH, canTL, canT, rows_pull, ix, g1, g3, g4, g5, g6, g7, g9, g10, g11]
            · simp [Function.comp_def, get_gcT, get, put, gcI, pullI, pullS, gcH, patL, canL, canH, canTL, canT, rows_pull, ix, HX, HB, playC, rC, frC, stC_pull, poC_pull, stQ_pull, fqC_pull, prC_pull, pull_mV, pull_mS, pull_mE]
          · have q5 : decide ((k : Int) < (SS.length : Int)) = false := decide_eq_false (by omega)
            repeat' first
              | with_reducible rfl
              | simp only [q5, hi1, List.length_map, g1, g3, g4, g5, g6, g7, g9, g10, g11, e_nil, e_cons, e_gd, e_gdt, e_gdf, e_g0, e_g1, e_op, e_step, e_stepG, e_stepN, e_clo, e_cloF, e_ret, e_put, e_junk, e_skip, e_reg, e_draw, e_seq, e_cond, e_block, e_exit, e_r, e_label, e_loop, q_sn, q_sr, q_se, q_bn, q_br, q_be, q_rr, q_rn, e_res0, e_res1, e_res2, e_b, d_nil, d_cons, d_op, d_step, d_stepG, d_stepN, d_clo, d_cloF, d_ret, d_put, d_junk, d_inf, d_fin, g_not, g_and, argsTM, stepE, stBuiltin, stBox, stAlloc, stLoad, stStore, stField, stExtract, stBin, stUn, stConv, stNilCheck, stFieldV, stIndex, stIndexAddr, stLen, stMin, stMax, stBuild, fillI, stBuildSlice, setRows, stMakeSlice, stAppend, srcR, segR, rdCells, stSlice, bnd, stArr, stCopy, stConv2, isIntV, cutR, byteRows, rowByte, binStr, Option.map_some, Option.map_none, eq_self, canTL, canT, canH, canL, patL, gcH, gcT, gcI, get_gcT, pullS, pullI, pushS, push1, pushI, pullHW, roC, ix, List.map_map, Function.comp_def, List.zip_cons_cons, List.zip_nil_left, List.zip_nil_right, List.range'_zero, List.range'_succ, rd, get, put, IV.cells, ofValue, seg, spl, ldIV, binInt, eqI, cellsEq, leafEq, resI, flat, isT, upd, up1, nextM, cR, ptrC, nAl, isAl, List.length_cons, List.length_nil, List.length_append, List.length_replicate, List.length_set, Nat.reduceAdd, Nat.reduceMul, Nat.reduceEqDiff, Nat.reduceLeDiff, Nat.zero_add, Nat.add_zero, ne_eq, reduceCtorEq, not_false_eq_true, not_true_eq_false, reduceIte, true_and, and_true, and_false, false_and, and_self, List.nil_append, List.cons_append, List.append_nil, List.getElem?_cons_zero, List.getElem?_cons_succ, List.drop_succ_cons, List.drop_zero, List.take_succ_cons, List.take_zero, List.set_cons_zero, List.set_cons_succ, List.getElem?_toArray, Option.bind_some, Bool.false_eq_true, Nat.add_one_ne_zero, Nat.succ_ne_self, List.map_cons, List.map_nil, Bool.not_true, Bool.not_false, List.replicate_succ, List.replicate_zero, List.mem_cons, List.not_mem_nil, or_false, false_or, or_true, true_or, forall_const, false_implies, implies_true, true_implies, Int.reduceToNat, Int.reduceLE, Int.reduceLT, Int.cast_ofNat_Int, bne, Int.reduceEq, Int.reduceNe, Int.reduceNeg, Int.reduceAdd, Int.reduceSub, Int.reduceMul, beq_self_eq_true, Int.reduceBEq, Int.reduceBNe, Bool.true_and, Bool.false_and, Bool.and_true, Bool.and_false, Bool.true_or, Bool.false_or, Bool.or_true, Bool.or_false, Nat.reduceLT, Nat.reduceSub, Nat.zero_min, Nat.min_zero, Nat.min_self, List.flatMap_cons, List.flatMap_nil, Int.toNat_natCast, strEq_self, Bool.not_eq_true', decide_true, decide_false, WLS, Tryd.underlying3, Tryd.underlying5, ty_ag_27, ty_ag_29, ty_ag_3, ty_ag_33, ty_ag_35, ty_ag_4, ty_ag_40, ty_ag_42, ty_ag_45, ty_ag_46, ty_ag_5, ty_ag_58, ty_ag_9, ty_eg_40, ty_lv_40, ty_of_29_4, ty_of_35_2, ty_of_42_1, ty_of_42_7, ty_of_45_0, ty_of_48_0, ty_of_48_1, ty_of_48_2, ty_of_58_9, ty_of_81_0, ty_of_81_1, ty_sl_27, ty_sl_36, ty_sl_46, ty_sl_82, ty_sz_27, ty_sz_29, ty_sz_3, ty_sz_33, ty_sz_35, ty_sz_4, ty_sz_40, ty_sz_42, ty_sz_45, ty_sz_46, ty_sz_48, ty_sz_5, ty_sz_58, ty_sz_9, ty_ze_35, ty_ze_42, ty_ze_48]
              | (with_reducible refine drawK_id ?_); refine drawK_auto hmix (by kernel_rfl) ?_
              | (with_reducible refine draw_fin ?_ ?_); · kernel_rfl
              | (with_reducible refine draw_id ?_); kernel_rfl
              | (with_reducible refine And.intro ?_ ?_; · omega)
            refine ⟨x.fs.length - (i + 1), _, _, by omega, Wk.gc [0, 1, 2, 3, 4, 5, 6, 7, 8, 9, 10, 11] rfl (by decide), i + 1, c2, L2, rfl, by omega, hF2, ?_, ?_, ?_, ?_, ?_⟩
            · simp [Function.comp_def, get_gcT, get, put, gcI, pullI, pullS, gcH, patL, canL, canH, canTL, canT, rows_pull, ix, g1, g3, g4, g5, g6, g7, g9, g10, g11]
            · simp [Function.comp_def, get_gcT, get, put, gcI, pullI, pullS, gcH, patL, canL, canH, canTL, canT, rows_pull, ix, g1, g3, g4, g5, g6, g7, g9, g10, g11]
            · simp [Function.comp_def, get_gcT, get, put, gcI, pullI, pullS, gcH, patL, canL, canH, canTL, canT, rows_pull, ix, g1, g3, g4, g5, g6, g7, g9, g10, g11]
            · simp [Function.comp_def, get_gcT, get, put, gcI, pullI, pullS, gcH, patL, canL, canH, canTL, canT, rows_pull, ix, g1, g3, g4, g5, g6, g7, g9, g10, g11]
            · simp [Function.comp_def, get_gcT, get, put, gcI, pullI, pullS, gcH, patL, canL, canH, canTL, canT, rows_pull, ix, HX, HB, playC, poC_pull, stQ_pull, fqC_pull, prC_pull, pull_mV, pull_mS, pull_mE]
  · cases q1 : decide ((i : Int) < (x.fs.length : Int)) with
    | true =>
      have q2 : decide ((i : Int) < 40) = false := decide_eq_false (by have := of_decide_eq_true q1; omega)
      repeat' first
        | with_reducible rfl
        | simp only [q1, q2, List.length_map, g1, g3, g4, g5, e_nil, e_cons, e_gd, e_gdt, e_gdf, e_g0, e_g1, e_op, e_step, e_stepG, e_stepN, e_clo, e_cloF, e_ret, e_put, e_junk, e_skip, e_reg, e_draw, e_seq, e_cond, e_block, e_exit, e_r, e_label, e_loop, q_sn, q_sr, q_se, q_bn, q_br, q_be, q_rr, q_rn, e_res0, e_res1, e_res2, e_b, d_nil, d_cons, d_op, d_step, d_stepG, d_stepN, d_clo, d_cloF, d_ret, d_put, d_junk, d_inf, d_fin, g_not, g_and, argsTM, stepE, stBuiltin, stBox, stAlloc, stLoad, stStore, stField, stExtract, stBin, stUn, stConv, stNilCheck, stFieldV, stIndex, stIndexAddr, stLen, stMin, stMax, stBuild, fillI, stBuildSlice, setRows, stMakeSlice, stAppend, srcR, segR, rdCells, stSlice, bnd, stArr, stCopy, stConv2, isIntV, cutR, byteRows, rowByte, binStr, Option.map_some, Option.map_none, eq_self, canTL, canT, canH, canL, patL, gcH, gcT, gcI, get_gcT, pullS, pullI, pushS, push1, pushI, pullHW, roC, ix, List.map_map, Function.comp_def, List.zip_cons_cons, List.zip_nil_left, List.zip_nil_right, List.range'_zero, List.range'_succ, rd, get, put, IV.cells, ofValue, seg, spl, ldIV, binInt, eqI, cellsEq, leafEq, resI, flat, isT, upd, up1, nextM, cR, ptrC, nAl, isAl, List.length_cons, List.length_nil, List.length_append, List.length_replicate, List.length_set, Nat.reduceAdd, Nat.reduceMul, Nat.reduceEqDiff, Nat.reduceLeDiff, Nat.zero_add, Nat.add_zero, ne_eq, reduceCtorEq, not_false_eq_true, not_true_eq_false, reduceIte, true_and, and_true, and_false, false_and, and_self, List.nil_append, List.cons_append, List.append_nil, List.getElem?_cons_zero, List.getElem?_cons_succ, List.drop_succ_cons, List.drop_zero, List.take_succ_cons, List.take_zero, List.set_cons_zero, List.set_cons_succ, List.getElem?_toArray, Option.bind_some, Bool.false_eq_true, Nat.add_one_ne_zero, Nat.succ_ne_self, List.map_cons, List.map_nil, Bool.not_true, Bool.not_false, List.replicate_succ, List.replicate_zero, List.mem_cons, List.not_mem_nil, or_false, false_or, or_true, true_or, forall_const, false_implies, implies_true, true_implies, Int.reduceToNat, Int.reduceLE, Int.reduceLT, Int.cast_ofNat_Int, bne, Int.reduceEq, Int.reduceNe, Int.reduceNeg, Int.reduceAdd, Int.reduceSub, Int.reduceMul, beq_self_eq_true, Int.reduceBEq, Int.reduceBNe, Bool.true_and, Bool.false_and, Bool.and_true, Bool.and_false, Bool.true_or, Bool.false_or, Bool.or_true, Bool.or_false, Nat.reduceLT, Nat.reduceSub, Nat.zero_min, Nat.min_zero, Nat.min_self, List.flatMap_cons, List.flatMap_nil, Int.toNat_natCast, strEq_self, Bool.not_eq_true', decide_true, decide_false, WLS, Tryd.underlying3, Tryd.underlying5, ty_ag_27, ty_ag_29, ty_ag_3, ty_ag_33, ty_ag_35, ty_ag_4, ty_ag_40, ty_ag_42, ty_ag_45, ty_ag_46, ty_ag_5, ty_ag_58, ty_ag_9, ty_eg_40, ty_lv_40, ty_of_29_4, ty_of_35_2, ty_of_42_1, ty_of_42_7, ty_of_45_0, ty_of_48_0, ty_of_48_1, ty_of_48_2, ty_of_58_9, ty_of_81_0, ty_of_81_1, ty_sl_27, ty_sl_36, ty_sl_46, ty_sl_82, ty_sz_27, ty_sz_29, ty_sz_3, ty_sz_33, ty_sz_35, ty_sz_4, ty_sz_40, ty_sz_42, ty_sz_45, ty_sz_46, ty_sz_48, ty_sz_5, ty_sz_58, ty_sz_9, ty_ze_35, ty_ze_42, ty_ze_48]
        | (with_reducible refine drawK_id ?_); refine drawK_auto hmix (by kernel_rfl) ?_
        | (with_reducible refine draw_fin ?_ ?_); · kernel_rfl
        | (with_reducible refine draw_id ?_); kernel_rfl
        | (with_reducible refine And.intro ?_ ?_; · omega)
    | false =>
      repeat' first
        | with_reducible rfl
        | simp only [q1, List.length_map, g1, g3, g4, g5, e_nil, e_cons, e_gd, e_gdt, e_gdf, e_g0, e_g1, e_op, e_step, e_stepG, e_stepN, e_clo, e_cloF, e_ret, e_put, e_junk, e_skip, e_reg, e_draw, e_seq, e_cond, e_block, e_exit, e_r, e_label, e_loop, q_sn, q_sr, q_se, q_bn, q_br, q_be, q_rr, q_rn, e_res0, e_res1, e_res2, e_b, d_nil, d_cons, d_op, d_step, d_stepG, d_stepN, d_clo, d_cloF, d_ret, d_put, d_junk, d_inf, d_fin, g_not, g_and, argsTM, stepE, stBuiltin, stBox, stAlloc, stLoad, stStore, stField, stExtract, stBin, stUn, stConv, stNilCheck, stFieldV, stIndex, stIndexAddr, stLen, stMin, stMax, stBuild, fillI, stBuildSlice, setRows, stMakeSlice, stAppend, srcR, segR, rdCells, stSlice, bnd, stArr, stCopy, stConv2, isIntV, cutR, byteRows, rowByte, binStr, Option.map_some, Option.map_none, eq_self, canTL, canT, canH, canL, patL, gcH, gcT, gcI, get_gcT, pullS, pullI, pushS, push1, pushI, pullHW, roC, ix, List.map_map, Function.comp_def, List.zip_cons_cons, List.zip_nil_left, List.zip_nil_right, List.range'_zero, List.range'_succ, rd, get, put, IV.cells, ofValue, seg, spl, ldIV, binInt, eqI, cellsEq, leafEq, resI, flat, isT, upd, up1, nextM, cR, ptrC, nAl, isAl, List.length_cons, List.length_nil, List.length_append, List.length_replicate, List.length_set, Nat.reduceAdd, Nat.reduceMul, Nat.reduceEqDiff, Nat.reduceLeDiff, Nat.zero_add, Nat.add_zero, ne_eq, reduceCtorEq, not_false_eq_true, not_true_eq_false, reduceIte, true_and, and_true, and_false, false_and, and_self, List.nil_append, List.cons_append, List.append_nil, List.getElem?_cons_zero, List.getElem?_cons_succ, List.drop_succ_cons, List.drop_zero, List.take_succ_cons, List.take_zero, List.set_cons_zero, List.set_cons_succ, List.getElem?_toArray, Option.bind_some, Bool.false_eq_true, Nat.add_one_ne_zero, Nat.succ_ne_self, List.map_cons, List.map_nil, Bool.not_true, Bool.not_false, List.replicate_succ, List.replicate_zero, List.mem_cons, List.not_mem_nil, or_false, false_or, or_true, true_or, forall_const, false_implies, implies_true, true_implies, Int.reduceToNat, Int.reduceLE, Int.reduceLT, Int.cast_ofNat_Int, bne, Int.reduceEq, Int.reduceNe, Int.reduceNeg, Int.reduceAdd, Int.reduceSub, Int.reduceMul, beq_self_eq_true, Int.reduceBEq, Int.reduceBNe, Bool.true_and, Bool.false_and, Bool.and_true, Bool.and_false, Bool.true_or, Bool.false_or, Bool.or_true, Bool.or_false, Nat.reduceLT, Nat.reduceSub, Nat.zero_min, Nat.min_zero, Nat.min_self, List.flatMap_cons, List.flatMap_nil, Int.toNat_natCast, strEq_self, Bool.not_eq_true', decide_true, decide_false, WLS, Tryd.underlying3, Tryd.underlying5, ty_ag_27, ty_ag_29, ty_ag_3, ty_ag_33, ty_ag_35, ty_ag_4, ty_ag_40, ty_ag_42, ty_ag_45, ty_ag_46, ty_ag_5, ty_ag_58, ty_ag_9, ty_eg_40, ty_lv_40, ty_of_29_4, ty_of_35_2, ty_of_42_1, ty_of_42_7, ty_of_45_0, ty_of_48_0, ty_of_48_1, ty_of_48_2, ty_of_58_9, ty_of_81_0, ty_of_81_1, ty_sl_27, ty_sl_36, ty_sl_46, ty_sl_82, ty_sz_27, ty_sz_29, ty_sz_3, ty_sz_33, ty_sz_35, ty_sz_4, ty_sz_40, ty_sz_42, ty_sz_45, ty_sz_46, ty_sz_48, ty_sz_5, ty_sz_58, ty_sz_9, ty_ze_35, ty_ze_42, ty_ze_48]
        | (with_reducible refine drawK_id ?_); refine drawK_auto hmix (by kernel_rfl) ?_
        | (with_reducible refine draw_fin ?_ ?_); · kernel_rfl
        | (with_reducible refine draw_id ?_); kernel_rfl
        | (with_reducible refine And.intro ?_ ?_; · omega)
end Go.Ev
