/- A part of the proof: contracts of the functions that the statement reaches. -/
import Derived.Test.YtpjgbfddlagcaaaDoorEvC
import Derived.Test.YtpjgbfddlagcaaaDoorP10
namespace Go.Ev
open Go.Proofs
set_option maxRecDepth 100000
set_option linter.unusedSimpArgs false
set_option linter.unusedVariables false
set_option maxHeartbeats 4000000
open Srt Go.RowKit
theorem eR_pull (σ : List Nat) (e : EN) : (eR e).map (pullS σ) = eR e := rfl
theorem eR_push (σ : List Nat) (e : EN) : (eR e).map (pushS σ) = eR e := rfl
theorem loopK_key {P : Program} {n N : Nat} {X : Ctx} {c : Code} {Q : Exit → TM → Heap → Prop} {tm tm1 : TM} {H H1 H2 : Heap} (h : Wk N tm H tm1 H1) (e : H1 = H2) (k : loopK P n (X.at N) c Q tm1 H2) : loopK P n (X.at N) c Q tm H := by
  subst e
  exact IW_wk h k
/-- The law's second tables. -/
def HC (B : TBL) (cf : Nat) (Lf : List EN) : Heap := [.rows true 1 [[.ref 13]], mpV B.cv B.Lv, .rows true 1 [[.ref 15]], mpS B.cs B.Ls, .rows true 3 [[.raw (.int .i64 B.rm), .raw (.int .i64 20), .ref 17]], mpC cf Lf, .rows true 3 [[.ptr 12 0 0, .ptr 14 0 0, .ptr 16 0 0]]]
def HH (x : PLY) (B : TBL) (cf : Nat) (Lf : List EN) : Heap := HX x ++ HB B cf Lf ++ HC B cf Lf
def T5 (B : TBL) (i : Nat) (tm : TM) : Prop := get tm 1 = .s (.ptr 3 0 0) ∧ get tm 3 = .s (.ptr 11 0 0) ∧ get tm 4 = .s (.slice 10 0 B.L.length) ∧ get tm 5 = .s (.ptr 18 0 0) ∧ get tm 7 = .s (.raw (.int .i64 (i : Int)))
def IP (x : PLY) (B : TBL) (mm : Nat) (tm : TM) (H : Heap) : Prop := ∃ (i cf : Nat) (Lf : List EN), mm = x.fs.length - i ∧ i ≤ x.fs.length ∧ OKF B.rm 20 cf Lf ∧ get tm 1 = .s (.ptr 3 0 0) ∧ get tm 3 = .s (.ptr 11 0 0) ∧ get tm 4 = .s (.slice 10 0 B.L.length) ∧ get tm 5 = .s (.ptr 18 0 0) ∧ get tm 7 = .s (.raw (.int .i64 (i : Int))) ∧ H = HH x B cf Lf
theorem newB_eq {n T : Int} {cf : Nat} {Lf : List EN} (h : OKF n T cf Lf) (hn : 1 ≤ n) (hT : 1 ≤ T) {k : KEY} (hk : KOK k) {fr : Int} (h1 : 1 ≤ fr) (h2 : fr ≤ 16) : newB n cf Lf k fr = (!(look Lf k).isSome && !(bAnd .u8 k.m.m0 1 == 1)) := by
  obtain ⟨_, hg1, hg2⟩ := learn_ok h hn hT hk h1 h2
  unfold newB
  cases hg : grpB k with
  | true =>
    rw [hg1 hg]
    unfold grpB at hg
    rw [hg]; simp
  | false =>
    obtain ⟨s, hs⟩ := hg2 hg
    rw [hs]
    unfold grpB at hg
    rw [hg]; simp
def HR (x : PLY) (B : TBL) (cf : Nat) (Lf : List EN) (SS : List (Int × FRM)) (w : Int) (a b : Bool) : Heap := HH x B cf Lf ++ [.rows true 4 [rC (.slice 21 0 SS.length) w a b], .rows true 4 [rC (.slice 22 0 SS.length) w a b], .rows true 19 (SS.map stC), .rows true 19 (SS.map stC)]
def KeyR (X : Ctx) (x : PLY) (B : TBL) (i : Nat) (c : Code) (Q : Exit → TM → Heap → Prop) : Prop := ∀ (cf : Nat) (Lf : List EN) (SS : List (Int × FRM)) (w : Int) (a b : Bool) (tm : TM), OKF B.rm 20 cf Lf → SS.length ≤ 16 → T5 B i tm → (get tm 10 = .s (.ptr 19 0 0) ∧ get tm 11 = .s (.ptr 20 0 0) ∧ get tm 25 = .s (.raw (.int .i64 0))) → loopK Tryd.prog 293 (X.at 3) c Q tm (HR x B cf Lf SS w a b)
def I6 (x : PLY) (B : TBL) (i cf : Nat) (Lf : List EN) (SS : List (Int × FRM)) (w : Int) (a b : Bool) (mm : Nat) (tm : TM) (H : Heap) : Prop := ∃ k : Nat, mm = SS.length - k ∧ k ≤ SS.length ∧ get tm 1 = .s (.ptr 3 0 0) ∧ get tm 3 = .s (.ptr 11 0 0) ∧ get tm 4 = .s (.slice 10 0 B.L.length) ∧ get tm 5 = .s (.ptr 18 0 0) ∧ get tm 7 = .s (.raw (.int .i64 (i : Int))) ∧ get tm 10 = .s (.ptr 19 0 0) ∧ get tm 11 = .s (.ptr 20 0 0) ∧ get tm 25 = .s (.raw (.int .i64 (k : Int))) ∧ H = HR x B cf Lf SS w a b
def I8 (x : PLY) (B : TBL) (i cf : Nat) (Lf : List EN) (mm : Nat) (tm : TM) (H : Heap) : Prop := ∃ k : Nat, mm = (srt Lf).length - k ∧ k ≤ (srt Lf).length ∧ get tm 1 = .s (.ptr 3 0 0) ∧ get tm 3 = .s (.ptr 11 0 0) ∧ get tm 4 = .s (.slice 10 0 B.L.length) ∧ get tm 5 = .s (.ptr 18 0 0) ∧ get tm 7 = .s (.raw (.int .i64 (i : Int))) ∧ get tm 26 = .s (.slice 19 0 Lf.length) ∧ get tm 27 = .s (.slice 20 0 Lf.length) ∧ get tm 28 = .s (.raw (.int .i64 (k : Int))) ∧ H = HH x B cf Lf ++ [.rows true 9 ((srt Lf).map eR), .rows true 9 ((srt Lf).map eR)]
def IO2 (x : PLY) (B : TBL) (i cf : Nat) (Lf : List EN) (f : FRM) (fr vid : Int) (SS : List (Int × FRM)) (w : Int) (a b : Bool) (w2 : Int) (a2 b2 : Bool) (mm : Nat) (tm : TM) (H : Heap) : Prop := ∃ (k : Nat) (s : Int), mm = B.L.length - k ∧ k ≤ B.L.length ∧ openN k s (B.L.drop k) = openC B.L ∧ get tm 1 = .s (.ptr 3 0 0) ∧ get tm 3 = .s (.ptr 11 0 0) ∧ get tm 4 = .s (.slice 10 0 B.L.length) ∧ get tm 5 = .s (.ptr 18 0 0) ∧ get tm 7 = .s (.raw (.int .i64 (i : Int))) ∧ get tm 8 = .s (.ptr 19 0 0) ∧ get tm 9 = .s (.raw (.int .i64 fr)) ∧ get tm 10 = .s (.ptr 20 0 0) ∧ get tm 11 = .s (.ptr 21 0 0) ∧ get tm 12 = .s (.raw (.int .u16 vid)) ∧ get tm 17 = .s (.raw (.int .u32 s)) ∧ get tm 18 = .s (.raw (.int .i64 (k : Int))) ∧
  H = HH x B cf Lf ++ [.rows true 18 [frC f], .rows true 4 [rC (.slice 22 0 SS.length) w a b], .rows true 4 [rC (.raw (.slice none 0 0)) w2 a2 b2], .rows true 19 (SS.map stC)]
def I4P (x : PLY) (B : TBL) (i cf : Nat) (Lf : List EN) (f : FRM) (va vm vu : Int) (to : Int) (SS : List (Int × FRM)) (w : Int) (a b : Bool) (w2 : Int) (a2 b2 : Bool) (mm : Nat) (tm : TM) (H : Heap) : Prop := ∃ (p : Nat), mm = 16 - p ∧ p ≤ 16 ∧ get tm 1 = .s (.ptr 3 0 0) ∧ get tm 3 = .s (.ptr 11 0 0) ∧ get tm 4 = .s (.slice 10 0 B.L.length) ∧ get tm 5 = .s (.ptr 18 0 0) ∧ get tm 7 = .s (.raw (.int .i64 (i : Int))) ∧ get tm 8 = .s (.ptr 19 0 0) ∧ get tm 10 = .s (.ptr 20 0 0) ∧ get tm 11 = .s (.ptr 21 0 0) ∧ get tm 19 = .s (.ptr 23 0 0) ∧ get tm 21 = .s (.raw (.int .u32 to)) ∧ get tm 22 = .s (.raw (.int .i64 ((p + 1 : Nat) : Int))) ∧
  H = HH x B cf Lf ++ [.rows true 18 [frC f], .rows true 4 [rC (.slice 22 0 SS.length) w a b], .rows true 4 [rC (.slice 24 0 (sentC va vu f (upN (hasP to) p)).length) w2 a2 b2], .rows true 19 (SS.map stC), .rows true 3 [[.raw (.int .u16 va), .raw (.int .u32 vm), .raw (.int .u32 vu)]], .rows true 19 ((sentC va vu f (upN (hasP to) p)).map stC)]
theorem law3 (o : Obj) (ho : ∃ t z, o = .cells #[.int .i64 0, .int .i64 3, .int .i64 4, .int .i64 5] t z) (x : PLY) (r0 : 0 ≤ x.room) (r1 : x.room ≤ 255) (hps : ∀ y ∈ x.ps, 0 ≤ y.st) (hfs : ∀ y ∈ x.fs, 0 ≤ y.lo ∧ y.lo ≤ 65535 ∧ 0 ≤ y.po) :
    FunRG 0 o Tryd.prog 3 [.rows false 5 (x.ps.map poC), .rows false 2 (x.ss.map stQ), .rows false 6 (x.fs.map fqC)] [.a (playC (.slice 0 0 x.ps.length) x.v (.slice 1 0 x.ss.length) x.room (.slice 2 0 x.fs.length))] (.s (.raw (.bool true))) := by
  refine funRG_of rfl rfl fun X hG => ?_
  have hB := tbl_ok x r0 hps
  have cS := speaksG o ho
  have cM := madeW x.ps x.ss x.v x.room r0 r1
  have h0 : OKF (tblC x).rm 20 0 [] := ⟨List.nodup_nil, List.nodup_nil, by simp, by simp, by have := hB.r1; simp; omega, by simp, by simp⟩
  obtain ⟨B, hBe⟩ : ∃ B, tblC x = B := ⟨_, rfl⟩
  rw [hBe] at hB h0
  have b1 : (setV3 x.v).1 = B.cv := by rw [← hBe]; rfl
  have b2 : (setV3 x.v).2 = B.Lv := by rw [← hBe]; rfl
  have b3 : (madeS x.ss).1 = B.cs := by rw [← hBe]; rfl
  have b4 : (madeS x.ss).2 = B.Ls := by rw [← hBe]; rfl
  have b5 : roomC x.room = B.rm := by rw [← hBe]; rfl
  have b6 : madeP x.ps = B.L := by rw [← hBe]; rfl
  rw [b1, b2, b3, b4, b5, b6] at cM
  clear hBe b1 b2 b3 b4 b5 b6
  unfold playC at cM ⊢
  refine callK_inline (rs := [.tmp 2]) (n := 293) Tryd.func3 rfl rfl rfl (by kernel_rfl) (by kernel_rfl) (by simp only [List.length_cons, List.length_nil]; decide) ?_
  repeat' first
    | with_reducible rfl
    | simp only [playC, prC_push, List.length_map, push_mV, push_mS, push_mE, rows_push1, push_one, pull_one, kC_push, kC_pull, kC_len, eR_len, eV_len, eV_pull, eV_push, RS_, argsTM, stepE, stBuiltin, stBox, stAlloc, stLoad, stStore, stField, stExtract, stBin, stUn, stConv, stNilCheck, stFieldV, stIndex, stIndexAddr, stLen, stMin, stMax, stBuild, fillI, stBuildSlice, setRows, stMakeSlice, stAppend, srcR, segR, rdCells, stSlice, bnd, stArr, stCopy, stConv2, isIntV, cutR, byteRows, rowByte, binStr, Option.map_some, Option.map_none, eq_self, canTL, canT, canH, canL, patL, gcH, gcT, gcI, get_gcT, pullS, pullI, pushS, push1, pushI, pullHW, roC, ix, List.map_map, Function.comp_def, List.zip_cons_cons, List.zip_nil_left, List.zip_nil_right, List.range'_zero, List.range'_succ, rd, get, put, IV.cells, ofValue, seg, spl, ldIV, binInt, eqI, cellsEq, leafEq, resI, flat, isT, upd, up1, nextM, cR, ptrC, nAl, isAl, ST_, Nat.reduceAdd, Nat.reduceMul, Nat.reduceEqDiff, Nat.reduceLeDiff, ne_eq, reduceCtorEq, reduceIte, forall_const, implies_true, Int.reduceToNat, Int.reduceLE, Int.reduceLT, bne, Int.reduceEq, Int.reduceNe, Int.reduceNeg, Int.reduceAdd, Int.reduceSub, Int.reduceMul, Int.reduceBEq, Int.reduceBNe, Nat.reduceLT, Nat.reduceSub, WLS, Tryd.underlying3, Tryd.underlying4, Tryd.underlying5, ty_ag_27, ty_ag_29, ty_ag_3, ty_ag_31, ty_ag_33, ty_ag_35, ty_ag_4, ty_ag_40, ty_ag_42, ty_ag_45, ty_ag_46, ty_ag_5, ty_ag_51, ty_ag_58, ty_ag_63, ty_ag_67, ty_ag_73, ty_ag_81, ty_ar_61, ty_by_46, ty_eg_67, ty_eg_81, ty_lv_67, ty_lv_81, ty_of_29_4, ty_of_35_0, ty_of_35_2, ty_of_42_0, ty_of_42_1, ty_of_45_0, ty_of_48_0, ty_of_48_1, ty_of_48_2, ty_of_48_3, ty_of_58_0, ty_of_58_9, ty_ok_61, ty_ok_63, ty_ok_81, ty_pl_61_0, ty_pl_61_1, ty_pl_61_2, ty_pl_61_3, ty_pl_63_0, ty_pl_63_1, ty_pl_81_0, ty_pl_81_1, ty_sl_27, ty_sl_36, ty_sl_46, ty_sl_82, ty_sr_46, ty_sz_27, ty_sz_29, ty_sz_3, ty_sz_31, ty_sz_33, ty_sz_35, ty_sz_4, ty_sz_40, ty_sz_42, ty_sz_45, ty_sz_46, ty_sz_48, ty_sz_5, ty_sz_51, ty_sz_58, ty_sz_63, ty_sz_67, ty_sz_73, ty_sz_81, ty_ze_35, ty_ze_42, ty_ze_48, ty_ze_61, ty_ze_63, ty_ze_73, ty_ze_81, ty_zs_46]
    | (with_reducible refine drawK_id ?_); refine drawK_auto hmix (by kernel_rfl) ?_
    | (with_reducible refine draw_fin ?_ ?_); · kernel_rfl
    | (with_reducible refine draw_id ?_); kernel_rfl
    | ((with_reducible refine callK_id (f := 5) ?_); refine callK_funG (hG.at _) [] [] cS (by simp [pullHW]) rfl rfl (by decide) (by simp) rfl ?_; rintro r Hn ⟨rfl, rfl⟩ -; skip)
    | ((with_reducible refine callK_id (f := 6) ?_); refine callK_funW [0, 1] [] cM (by simp [pullHW, roC, Function.comp_def, rows_pull, poC_pull, stQ_pull]) rfl rfl (by decide) (by simp) (by simp [pullI, pullS, ix]) ?_; rintro r Hn ⟨rfl, rfl⟩ -; skip)
    | (with_reducible refine And.intro ?_ ?_; · omega)
  refine loopK_wk (by kernel_rfl) (IP x B) x.fs.length ⟨_, _, Wk.gc [0, 1, 2, 3, 4, 5, 6, 7, 8, 9, 10, 11, 12, 13, 14, 15, 16, 17, 19] rfl (by decide), 0, 0, [], by omega, by omega, h0, ?_, ?_, ?_, ?_, ?_, ?_⟩ ?_
  · simp [Function.comp_def, get_gcT, get, put, gcI, pullI, pullS, gcH, patL, canL, canH, canTL, canT, rows_pull, ix]
  · simp [Function.comp_def, get_gcT, get, put, gcI, pullI, pullS, gcH, patL, canL, canH, canTL, canT, rows_pull, ix]
  · simp [Function.comp_def, get_gcT, get, put, gcI, pullI, pullS, gcH, patL, canL, canH, canTL, canT, rows_pull, ix]
  · simp [Function.comp_def, get_gcT, get, put, gcI, pullI, pullS, gcH, patL, canL, canH, canTL, canT, rows_pull, ix]
  · simp [Function.comp_def, get_gcT, get, put, gcI, pullI, pullS, gcH, patL, canL, canH, canTL, canT, rows_pull, ix]
  · simp [Function.comp_def, get_gcT, get, put, gcI, pullI, pullS, gcH, patL, canL, canH, canTL, canT, rows_pull, ix, HH, HX, HB, HC, playC, rC, stC_pull, poC_pull, stQ_pull, fqC_pull, prC_pull, pull_mV, pull_mS, pull_mE]
  rintro mm tm H ⟨i, cf, Lf, rfl, hi, hF, g1, g3, g4, g5, g7, rfl⟩
  unfold HH HX HB HC playC
  simp only [List.cons_append, List.nil_append]
  by_cases hq : i < x.fs.length ∧ i < 40
  · have q1 : decide ((i : Int) < (x.fs.length : Int)) = true := decide_eq_true (by omega)
    have q2 : decide ((i : Int) < 40) = true := decide_eq_true (by omega)
    have z0 : (0 : Int) ≤ (i : Int) := by omega
    have z1 : (i : Int) < (x.fs.length : Int) := by omega
    have hi1 : IntKind.i64.wrap ((i : Int) + 1) = ((i + 1 : Nat) : Int) := by rw [wr_i64 (by omega) (by omega)]; rfl
    obtain ⟨y, hy⟩ : ∃ y, x.fs[i]? = some y := ⟨_, List.getElem?_eq_getElem hq.1⟩
    have hel : (x.fs.map fqC)[i]? = some (fqC y) := by rw [List.getElem?_map, hy]; rfl
    have hy2 := hfs y (List.mem_of_getElem? hy)
    have c7 := ofW y hy2.1 hy2.2.1
    have hfx : (ofC y).x.size ≤ 100000 := by simp only [ofC, zS_size]; rw [Int.tmod_eq_emod_of_nonneg hy2.1]; omega
    have hfk : ∀ vid, KOK ⟨vid, (ofC y).s⟩ := fun vid => from_ok _ vid
    obtain ⟨f, hf⟩ : ∃ f, ofC y = f := ⟨_, rfl⟩
    rw [hf] at c7 hfx hfk
    obtain ⟨fr, hfr, hfr0⟩ : ∃ fr, IntKind.i64.wrap (Int.tmod y.po 10) = fr ∧ 0 ≤ fr ∧ fr ≤ 9 := ⟨_, rfl, by rw [Int.tmod_eq_emod_of_nonneg hy2.2.2, wr_i64 (by omega) (by omega)]; omega, by rw [Int.tmod_eq_emod_of_nonneg hy2.2.2, wr_i64 (by omega) (by omega)]; omega⟩
    have cP := passW B.cv B.Lv B.cs B.Ls B.rm 20 cf Lf hB.v hB.s hF hB.r1 (by have := hB.r2; omega) (by decide) B.L (by have := hB.l; omega) fr f hfx hfk o ho
    have hSh := shut_pass B.Lv B.Ls B.rm cf Lf B.L fr f
    have hLl := hB.l
    have c10 := f81 f.d.m0 f.d.m1 f.d.m2 f.d.m3 f.d.m4 f.d.m5
    unfold HP resP rC at cP
    refine' (fun (key : KeyR X x B i _ _) => ?main) ?key
    case main =>
      by_cases hr : fr < 1 ∨ (B.L.length : Int) < fr
      · rw [hSh (by simp [shutB, hr])] at cP
        simp only [List.length_nil, List.map_nil] at cP
        cases q3 : decide (fr < 1) with
        | true =>
          repeat' first
            | with_reducible rfl
            | simp only [stC_push, q1, q2, z0, z1, hi1, hel, fqC, frC, encM, hfr, List.append_eq, List.length_map, Int.toNat_natCast, g1, g3, g4, g5, g7, push_mV, push_mS, push_mE, rows_push1, push_one, pull_one, kC_push, kC_pull, kC_len, eR_len, eV_len, eV_pull, eV_push, q3, RS_, argsTM, stepE, stBuiltin, stBox, stAlloc, stLoad, stStore, stField, stExtract, stBin, stUn, stConv, stNilCheck, stFieldV, stIndex, stIndexAddr, stLen, stMin, stMax, stBuild, fillI, stBuildSlice, setRows, stMakeSlice, stAppend, srcR, segR, rdCells, stSlice, bnd, stArr, stCopy, stConv2, isIntV, cutR, byteRows, rowByte, binStr, Option.map_some, Option.map_none, eq_self, canTL, canT, canH, canL, patL, gcH, gcT, gcI, get_gcT, pullS, pullI, pushS, push1, pushI, pullHW, roC, ix, List.map_map, Function.comp_def, List.zip_cons_cons, List.zip_nil_left, List.zip_nil_right, List.range'_zero, List.range'_succ, rd, get, put, IV.cells, ofValue, seg, spl, ldIV, binInt, eqI, cellsEq, leafEq, resI, flat, isT, upd, up1, nextM, cR, ptrC, nAl, isAl, ST_, Nat.reduceAdd, Nat.reduceMul, Nat.reduceEqDiff, Nat.reduceLeDiff, ne_eq, reduceCtorEq, reduceIte, forall_const, implies_true, Int.reduceToNat, Int.reduceLE, Int.reduceLT, bne, Int.reduceEq, Int.reduceNe, Int.reduceNeg, Int.reduceAdd, Int.reduceSub, Int.reduceMul, Int.reduceBEq, Int.reduceBNe, Nat.reduceLT, Nat.reduceSub, WLS, Tryd.underlying3, Tryd.underlying4, Tryd.underlying5, ty_ag_27, ty_ag_29, ty_ag_3, ty_ag_31, ty_ag_33, ty_ag_35, ty_ag_4, ty_ag_40, ty_ag_42, ty_ag_45, ty_ag_46, ty_ag_5, ty_ag_51, ty_ag_58, ty_ag_63, ty_ag_67, ty_ag_73, ty_ag_81, ty_ar_61, ty_by_46, ty_eg_67, ty_eg_81, ty_lv_67, ty_lv_81, ty_of_29_4, ty_of_35_0, ty_of_35_2, ty_of_42_0, ty_of_42_1, ty_of_45_0, ty_of_48_0, ty_of_48_1, ty_of_48_2, ty_of_48_3, ty_of_58_0, ty_of_58_9, ty_ok_61, ty_ok_63, ty_ok_81, ty_pl_61_0, ty_pl_61_1, ty_pl_61_2, ty_pl_61_3, ty_pl_63_0, ty_pl_63_1, ty_pl_81_0, ty_pl_81_1, ty_sl_27, ty_sl_36, ty_sl_46, ty_sl_82, ty_sr_46, ty_sz_27, ty_sz_29, ty_sz_3, ty_sz_31, ty_sz_33, ty_sz_35, ty_sz_4, ty_sz_40, ty_sz_42, ty_sz_45, ty_sz_46, ty_sz_48, ty_sz_5, ty_sz_51, ty_sz_58, ty_sz_63, ty_sz_67, ty_sz_73, ty_sz_81, ty_ze_35, ty_ze_42, ty_ze_48, ty_ze_61, ty_ze_63, ty_ze_73, ty_ze_81, ty_zs_46]
            | (with_reducible refine drawK_id ?_); refine drawK_auto hmix (by kernel_rfl) ?_
            | (with_reducible refine draw_fin ?_ ?_); · kernel_rfl
            | (with_reducible refine draw_id ?_); kernel_rfl
            | ((with_reducible refine callK_id (f := 7) ?_); refine callK_fun c7 rfl rfl ?_)
            | ((with_reducible refine callK_id (f := 9) ?_); refine callK_fun c9 rfl rfl ?_)
            | ((with_reducible refine callK_id (f := 10) ?_); refine callK_fun c10 rfl rfl ?_)
            | ((with_reducible refine callD_id (f := 11) ?_); refine callD_new (Hw' := [.rows true 1 [[.ref 1]], mpV B.cv B.Lv]) (Nw := []) [] [12, 13] (FunW_eq c11) (by simp [pullHW, roC, Function.comp_def, rows_pull, pullS, ix, pull_mV, pull_mS, pull_mE]) rfl rfl (by decide) (by simp [ne_mV, ne_mS, ne_mE]) (by simp [pullI, pullS, ix, kC_pull, kV, kC, encM, frC]) (by simp) ?_)
            | ((with_reducible refine callK_id (f := 8) ?_); refine callK_funG (hG.at _) [10] [4, 5, 6, 7, 8, 9] cP (by simp [pullHW, roC, Function.comp_def, rows_pull, pullS, ix, prC_pull, pull_mV, pull_mS, pull_mE]) rfl rfl (by decide) (by simp [ne_mV, ne_mS, ne_mE]) (by simp [pullI, pullS, ix, frC]) ?_; rintro r Hn ⟨rfl, rfl⟩ -; skip)
            | (with_reducible refine And.intro ?_ ?_; · omega)
          refine loopK_key (H2 := HR x B cf Lf [] 6 false false) (Wk.can [(19, 21, 0, 0), (19, 22, 0, 0)] [.inl 0, .inl 1, .inl 2, .inl 3, .inl 4, .inl 5, .inl 6, .inl 7, .inl 8, .inl 9, .inl 10, .inl 11, .inl 12, .inl 13, .inl 14, .inl 15, .inl 16, .inl 17, .inl 18, .inl 21, .inl 22, .inr 0, .inr 1] rfl (by simp [patL])) ?_ ?_
          · simp [Function.comp_def, get_gcT, get, put, gcI, pullI, pullS, gcH, patL, canL, canH, canTL, canT, rows_pull, ix, segR, HR, HH, HX, HB, HC, playC, rC, stC_pull, poC_pull, stQ_pull, fqC_pull, prC_pull, pull_mV, pull_mS, pull_mE]
          · refine key cf Lf [] 6 false false _ hF (by simp) ⟨?_, ?_, ?_, ?_, ?_⟩ ⟨?_, ?_, ?_⟩ <;> (simp [Function.comp_def, get_gcT, get, put, gcI, pullI, pullS, gcH, patL, canL, canH, canTL, canT, rows_pull, ix, g1, g3, g4, g5, g7]; done)
        | false =>
          have q4 : decide ((B.L.length : Int) < fr) = true := decide_eq_true (by have := of_decide_eq_false q3; omega)
          repeat' first
            | with_reducible rfl
            | simp only [stC_push, q1, q2, z0, z1, hi1, hel, fqC, frC, encM, hfr, List.append_eq, List.length_map, Int.toNat_natCast, g1, g3, g4, g5, g7, push_mV, push_mS, push_mE, rows_push1, push_one, pull_one, kC_push, kC_pull, kC_len, eR_len, eV_len, eV_pull, eV_push, q3, q4, RS_, argsTM, stepE, stBuiltin, stBox, stAlloc, stLoad, stStore, stField, stExtract, stBin, stUn, stConv, stNilCheck, stFieldV, stIndex, stIndexAddr, stLen, stMin, stMax, stBuild, fillI, stBuildSlice, setRows, stMakeSlice, stAppend, srcR, segR, rdCells, stSlice, bnd, stArr, stCopy, stConv2, isIntV, cutR, byteRows, rowByte, binStr, Option.map_some, Option.map_none, eq_self, canTL, canT, canH, canL, patL, gcH, gcT, gcI, get_gcT, pullS, pullI, pushS, push1, pushI, pullHW, roC, ix, List.map_map, Function.comp_def, List.zip_cons_cons, List.zip_nil_left, List.zip_nil_right, List.range'_zero, List.range'_succ, rd, get, put, IV.cells, ofValue, seg, spl, ldIV, binInt, eqI, cellsEq, leafEq, resI, flat, isT, upd, up1, nextM, cR, ptrC, nAl, isAl, ST_, Nat.reduceAdd, Nat.reduceMul, Nat.reduceEqDiff, Nat.reduceLeDiff, ne_eq, reduceCtorEq, reduceIte, forall_const, implies_true, Int.reduceToNat, Int.reduceLE, Int.reduceLT, bne, Int.reduceEq, Int.reduceNe, Int.reduceNeg, Int.reduceAdd, Int.reduceSub, Int.reduceMul, Int.reduceBEq, Int.reduceBNe, Nat.reduceLT, Nat.reduceSub, WLS, Tryd.underlying3, Tryd.underlying4, Tryd.underlying5, ty_ag_27, ty_ag_29, ty_ag_3, ty_ag_31, ty_ag_33, ty_ag_35, ty_ag_4, ty_ag_40, ty_ag_42, ty_ag_45, ty_ag_46, ty_ag_5, ty_ag_51, ty_ag_58, ty_ag_63, ty_ag_67, ty_ag_73, ty_ag_81, ty_ar_61, ty_by_46, ty_eg_67, ty_eg_81, ty_lv_67, ty_lv_81, ty_of_29_4, ty_of_35_0, ty_of_35_2, ty_of_42_0, ty_of_42_1, ty_of_45_0, ty_of_48_0, ty_of_48_1, ty_of_48_2, ty_of_48_3, ty_of_58_0, ty_of_58_9, ty_ok_61, ty_ok_63, ty_ok_81, ty_pl_61_0, ty_pl_61_1, ty_pl_61_2, ty_pl_61_3, ty_pl_63_0, ty_pl_63_1, ty_pl_81_0, ty_pl_81_1, ty_sl_27, ty_sl_36, ty_sl_46, ty_sl_82, ty_sr_46, ty_sz_27, ty_sz_29, ty_sz_3, ty_sz_31, ty_sz_33, ty_sz_35, ty_sz_4, ty_sz_40, ty_sz_42, ty_sz_45, ty_sz_46, ty_sz_48, ty_sz_5, ty_sz_51, ty_sz_58, ty_sz_63, ty_sz_67, ty_sz_73, ty_sz_81, ty_ze_35, ty_ze_42, ty_ze_48, ty_ze_61, ty_ze_63, ty_ze_73, ty_ze_81, ty_zs_46]
            | (with_reducible refine drawK_id ?_); refine drawK_auto hmix (by kernel_rfl) ?_
            | (with_reducible refine draw_fin ?_ ?_); · kernel_rfl
            | (with_reducible refine draw_id ?_); kernel_rfl
            | ((with_reducible refine callK_id (f := 7) ?_); refine callK_fun c7 rfl rfl ?_)
            | ((with_reducible refine callK_id (f := 9) ?_); refine callK_fun c9 rfl rfl ?_)
            | ((with_reducible refine callK_id (f := 10) ?_); refine callK_fun c10 rfl rfl ?_)
            | ((with_reducible refine callD_id (f := 11) ?_); refine callD_new (Hw' := [.rows true 1 [[.ref 1]], mpV B.cv B.Lv]) (Nw := []) [] [12, 13] (FunW_eq c11) (by simp [pullHW, roC, Function.comp_def, rows_pull, pullS, ix, pull_mV, pull_mS, pull_mE]) rfl rfl (by decide) (by simp [ne_mV, ne_mS, ne_mE]) (by simp [pullI, pullS, ix, kC_pull, kV, kC, encM, frC]) (by simp) ?_)
            | ((with_reducible refine callK_id (f := 8) ?_); refine callK_funG (hG.at _) [10] [4, 5, 6, 7, 8, 9] cP (by simp [pullHW, roC, Function.comp_def, rows_pull, pullS, ix, prC_pull, pull_mV, pull_mS, pull_mE]) rfl rfl (by decide) (by simp [ne_mV, ne_mS, ne_mE]) (by simp [pullI, pullS, ix, frC]) ?_; rintro r Hn ⟨rfl, rfl⟩ -; skip)
            | (with_reducible refine And.intro ?_ ?_; · omega)
          refine loopK_key (H2 := HR x B cf Lf [] 6 false false) (Wk.can [(19, 21, 0, 0), (19, 22, 0, 0)] [.inl 0, .inl 1, .inl 2, .inl 3, .inl 4, .inl 5, .inl 6, .inl 7, .inl 8, .inl 9, .inl 10, .inl 11, .inl 12, .inl 13, .inl 14, .inl 15, .inl 16, .inl 17, .inl 18, .inl 21, .inl 22, .inr 0, .inr 1] rfl (by simp [patL])) ?_ ?_
          · simp [Function.comp_def, get_gcT, get, put, gcI, pullI, pullS, gcH, patL, canL, canH, canTL, canT, rows_pull, ix, segR, HR, HH, HX, HB, HC, playC, rC, stC_pull, poC_pull, stQ_pull, fqC_pull, prC_pull, pull_mV, pull_mS, pull_mE]
          · refine key cf Lf [] 6 false false _ hF (by simp) ⟨?_, ?_, ?_, ?_, ?_⟩ ⟨?_, ?_, ?_⟩ <;> (simp [Function.comp_def, get_gcT, get, put, gcI, pullI, pullS, gcH, patL, canL, canH, canTL, canT, rows_pull, ix, g1, g3, g4, g5, g7]; done)
      · have q3 : decide (fr < 1) = false := decide_eq_false (by omega)
        have q4 : decide ((B.L.length : Int) < fr) = false := decide_eq_false (by omega)
        obtain ⟨j, hj, hj2, hj3⟩ : ∃ j : Nat, IntKind.i64.wrap (fr - 1) = (j : Int) ∧ (fr - 1).toNat = j ∧ j < B.L.length := ⟨(fr - 1).toNat, by rw [wr_i64 (by omega) (by omega)]; omega, rfl, by omega⟩
        have z2 : (0 : Int) ≤ (j : Int) := by omega
        have z3 : (j : Int) < (B.L.length : Int) := by omega
        obtain ⟨p, hp⟩ : ∃ p, B.L[j]? = some p := ⟨_, List.getElem?_eq_getElem hj3⟩
        have hel2 : (B.L.map prC)[j]? = some (prC p) := by rw [List.getElem?_map, hp]; rfl
        have c9 := onW p
        have hC : passC B.Lv B.Ls B.rm cf Lf B.L fr f = if !onP p || p.st == 0 then ((cf, Lf), ⟨6, false, false, []⟩) else if resS f.d.m0 f.d.m1 f.d.m2 f.d.m3 f.d.m4 f.d.m5 then ((cf, Lf), ⟨2, false, false, []⟩)
          else if (ingC B.Lv p.pv p.ac p.fi fr f).2 = 0 then passT B.Lv B.Ls B.rm cf Lf B.L fr f p (ingC B.Lv p.pv p.ac p.fi fr f).1 else ((cf, Lf), ⟨whyN (ingC B.Lv p.pv p.ac p.fi fr f).2, false, false, []⟩) := by
          simp only [passC]; rw [if_neg hr, hj2, hp]
        cases e1 : onP p with
        | false =>
          rw [e1] at c9
          rw [hSh (by simp [shutB, hj2, hp, e1])] at cP
          simp only [List.length_nil, List.map_nil] at cP
          repeat' first
            | with_reducible rfl
            | simp only [stC_push, q1, q2, z0, z1, hi1, hel, fqC, frC, encM, hfr, List.append_eq, List.length_map, Int.toNat_natCast, g1, g3, g4, g5, g7, push_mV, push_mS, push_mE, rows_push1, push_one, pull_one, kC_push, kC_pull, kC_len, eR_len, eV_len, eV_pull, eV_push, q3, q4, z2, z3, hj, hel2, prC, RS_, argsTM, stepE, stBuiltin, stBox, stAlloc, stLoad, stStore, stField, stExtract, stBin, stUn, stConv, stNilCheck, stFieldV, stIndex, stIndexAddr, stLen, stMin, stMax, stBuild, fillI, stBuildSlice, setRows, stMakeSlice, stAppend, srcR, segR, rdCells, stSlice, bnd, stArr, stCopy, stConv2, isIntV, cutR, byteRows, rowByte, binStr, Option.map_some, Option.map_none, eq_self, canTL, canT, canH, canL, patL, gcH, gcT, gcI, get_gcT, pullS, pullI, pushS, push1, pushI, pullHW, roC, ix, List.map_map, Function.comp_def, List.zip_cons_cons, List.zip_nil_left, List.zip_nil_right, List.range'_zero, List.range'_succ, rd, get, put, IV.cells, ofValue, seg, spl, ldIV, binInt, eqI, cellsEq, leafEq, resI, flat, isT, upd, up1, nextM, cR, ptrC, nAl, isAl, ST_, Nat.reduceAdd, Nat.reduceMul, Nat.reduceEqDiff, Nat.reduceLeDiff, ne_eq, reduceCtorEq, reduceIte, forall_const, implies_true, Int.reduceToNat, Int.reduceLE, Int.reduceLT, bne, Int.reduceEq, Int.reduceNe, Int.reduceNeg, Int.reduceAdd, Int.reduceSub, Int.reduceMul, Int.reduceBEq, Int.reduceBNe, Nat.reduceLT, Nat.reduceSub, WLS, Tryd.underlying3, Tryd.underlying4, Tryd.underlying5, ty_ag_27, ty_ag_29, ty_ag_3, ty_ag_31, ty_ag_33, ty_ag_35, ty_ag_4, ty_ag_40, ty_ag_42, ty_ag_45, ty_ag_46, ty_ag_5, ty_ag_51, ty_ag_58, ty_ag_63, ty_ag_67, ty_ag_73, ty_ag_81, ty_ar_61, ty_by_46, ty_eg_67, ty_eg_81, ty_lv_67, ty_lv_81, ty_of_29_4, ty_of_35_0, ty_of_35_2, ty_of_42_0, ty_of_42_1, ty_of_45_0, ty_of_48_0, ty_of_48_1, ty_of_48_2, ty_of_48_3, ty_of_58_0, ty_of_58_9, ty_ok_61, ty_ok_63, ty_ok_81, ty_pl_61_0, ty_pl_61_1, ty_pl_61_2, ty_pl_61_3, ty_pl_63_0, ty_pl_63_1, ty_pl_81_0, ty_pl_81_1, ty_sl_27, ty_sl_36, ty_sl_46, ty_sl_82, ty_sr_46, ty_sz_27, ty_sz_29, ty_sz_3, ty_sz_31, ty_sz_33, ty_sz_35, ty_sz_4, ty_sz_40, ty_sz_42, ty_sz_45, ty_sz_46, ty_sz_48, ty_sz_5, ty_sz_51, ty_sz_58, ty_sz_63, ty_sz_67, ty_sz_73, ty_sz_81, ty_ze_35, ty_ze_42, ty_ze_48, ty_ze_61, ty_ze_63, ty_ze_73, ty_ze_81, ty_zs_46]
            | (with_reducible refine drawK_id ?_); refine drawK_auto hmix (by kernel_rfl) ?_
            | (with_reducible refine draw_fin ?_ ?_); · kernel_rfl
            | (with_reducible refine draw_id ?_); kernel_rfl
            | ((with_reducible refine callK_id (f := 7) ?_); refine callK_fun c7 rfl rfl ?_)
            | ((with_reducible refine callK_id (f := 9) ?_); refine callK_fun c9 rfl rfl ?_)
            | ((with_reducible refine callK_id (f := 10) ?_); refine callK_fun c10 rfl rfl ?_)
            | ((with_reducible refine callD_id (f := 11) ?_); refine callD_new (Hw' := [.rows true 1 [[.ref 1]], mpV B.cv B.Lv]) (Nw := []) [] [12, 13] (FunW_eq c11) (by simp [pullHW, roC, Function.comp_def, rows_pull, pullS, ix, pull_mV, pull_mS, pull_mE]) rfl rfl (by decide) (by simp [ne_mV, ne_mS, ne_mE]) (by simp [pullI, pullS, ix, kC_pull, kV, kC, encM, frC]) (by simp) ?_)
            | ((with_reducible refine callK_id (f := 8) ?_); refine callK_funG (hG.at _) [10] [4, 5, 6, 7, 8, 9] cP (by simp [pullHW, roC, Function.comp_def, rows_pull, pullS, ix, prC_pull, pull_mV, pull_mS, pull_mE]) rfl rfl (by decide) (by simp [ne_mV, ne_mS, ne_mE]) (by simp [pullI, pullS, ix, frC]) ?_; rintro r Hn ⟨rfl, rfl⟩ -; skip)
            | (with_reducible refine And.intro ?_ ?_; · omega)
          refine loopK_key (H2 := HR x B cf Lf [] 6 false false) (Wk.can [(19, 21, 0, 0), (19, 22, 0, 0)] [.inl 0, .inl 1, .inl 2, .inl 3, .inl 4, .inl 5, .inl 6, .inl 7, .inl 8, .inl 9, .inl 10, .inl 11, .inl 12, .inl 13, .inl 14, .inl 15, .inl 16, .inl 17, .inl 18, .inl 21, .inl 22, .inr 0, .inr 1] rfl (by simp [patL])) ?_ ?_
          · simp [Function.comp_def, get_gcT, get, put, gcI, pullI, pullS, gcH, patL, canL, canH, canTL, canT, rows_pull, ix, segR, HR, HH, HX, HB, HC, playC, rC, stC_pull, poC_pull, stQ_pull, fqC_pull, prC_pull, pull_mV, pull_mS, pull_mE]
          · refine key cf Lf [] 6 false false _ hF (by simp) ⟨?_, ?_, ?_, ?_, ?_⟩ ⟨?_, ?_, ?_⟩ <;> (simp [Function.comp_def, get_gcT, get, put, gcI, pullI, pullS, gcH, patL, canL, canH, canTL, canT, rows_pull, ix, g1, g3, g4, g5, g7]; done)
        | true =>
          rw [e1] at c9 hC
          cases e2 : (p.st == 0) with
          | true =>
            rw [hSh (by simp [shutB, hj2, hp, e1, e2])] at cP
            simp only [List.length_nil, List.map_nil] at cP
            repeat' first
              | with_reducible rfl
              | simp only [stC_push, q1, q2, z0, z1, hi1, hel, fqC, frC, encM, hfr, List.append_eq, List.length_map, Int.toNat_natCast, g1, g3, g4, g5, g7, push_mV, push_mS, push_mE, rows_push1, push_one, pull_one, kC_push, kC_pull, kC_len, eR_len, eV_len, eV_pull, eV_push, q3, q4, z2, z3, hj, hel2, prC, e2, RS_, argsTM, stepE, stBuiltin, stBox, stAlloc, stLoad, stStore, stField, stExtract, stBin, stUn, stConv, stNilCheck, stFieldV, stIndex, stIndexAddr, stLen, stMin, stMax, stBuild, fillI, stBuildSlice, setRows, stMakeSlice, stAppend, srcR, segR, rdCells, stSlice, bnd, stArr, stCopy, stConv2, isIntV, cutR, byteRows, rowByte, binStr, Option.map_some, Option.map_none, eq_self, canTL, canT, canH, canL, patL, gcH, gcT, gcI, get_gcT, pullS, pullI, pushS, push1, pushI, pullHW, roC, ix, List.map_map, Function.comp_def, List.zip_cons_cons, List.zip_nil_left, List.zip_nil_right, List.range'_zero, List.range'_succ, rd, get, put, IV.cells, ofValue, seg, spl, ldIV, binInt, eqI, cellsEq, leafEq, resI, flat, isT, upd, up1, nextM, cR, ptrC, nAl, isAl, ST_, Nat.reduceAdd, Nat.reduceMul, Nat.reduceEqDiff, Nat.reduceLeDiff, ne_eq, reduceCtorEq, reduceIte, forall_const, implies_true, Int.reduceToNat, Int.reduceLE, Int.reduceLT, bne, Int.reduceEq, Int.reduceNe, Int.reduceNeg, Int.reduceAdd, Int.reduceSub, Int.reduceMul, Int.reduceBEq, Int.reduceBNe, Nat.reduceLT, Nat.reduceSub, WLS, Tryd.underlying3, Tryd.underlying4, Tryd.underlying5, ty_ag_27, ty_ag_29, ty_ag_3, ty_ag_31, ty_ag_33, ty_ag_35, ty_ag_4, ty_ag_40, ty_ag_42, ty_ag_45, ty_ag_46, ty_ag_5, ty_ag_51, ty_ag_58, ty_ag_63, ty_ag_67, ty_ag_73, ty_ag_81, ty_ar_61, ty_by_46, ty_eg_67, ty_eg_81, ty_lv_67, ty_lv_81, ty_of_29_4, ty_of_35_0, ty_of_35_2, ty_of_42_0, ty_of_42_1, ty_of_45_0, ty_of_48_0, ty_of_48_1, ty_of_48_2, ty_of_48_3, ty_of_58_0, ty_of_58_9, ty_ok_61, ty_ok_63, ty_ok_81, ty_pl_61_0, ty_pl_61_1, ty_pl_61_2, ty_pl_61_3, ty_pl_63_0, ty_pl_63_1, ty_pl_81_0, ty_pl_81_1, ty_sl_27, ty_sl_36, ty_sl_46, ty_sl_82, ty_sr_46, ty_sz_27, ty_sz_29, ty_sz_3, ty_sz_31, ty_sz_33, ty_sz_35, ty_sz_4, ty_sz_40, ty_sz_42, ty_sz_45, ty_sz_46, ty_sz_48, ty_sz_5, ty_sz_51, ty_sz_58, ty_sz_63, ty_sz_67, ty_sz_73, ty_sz_81, ty_ze_35, ty_ze_42, ty_ze_48, ty_ze_61, ty_ze_63, ty_ze_73, ty_ze_81, ty_zs_46]
              | (with_reducible refine drawK_id ?_); refine drawK_auto hmix (by kernel_rfl) ?_
              | (with_reducible refine draw_fin ?_ ?_); · kernel_rfl
              | (with_reducible refine draw_id ?_); kernel_rfl
              | ((with_reducible refine callK_id (f := 7) ?_); refine callK_fun c7 rfl rfl ?_)
              | ((with_reducible refine callK_id (f := 9) ?_); refine callK_fun c9 rfl rfl ?_)
              | ((with_reducible refine callK_id (f := 10) ?_); refine callK_fun c10 rfl rfl ?_)
              | ((with_reducible refine callD_id (f := 11) ?_); refine callD_new (Hw' := [.rows true 1 [[.ref 1]], mpV B.cv B.Lv]) (Nw := []) [] [12, 13] (FunW_eq c11) (by simp [pullHW, roC, Function.comp_def, rows_pull, pullS, ix, pull_mV, pull_mS, pull_mE]) rfl rfl (by decide) (by simp [ne_mV, ne_mS, ne_mE]) (by simp [pullI, pullS, ix, kC_pull, kV, kC, encM, frC]) (by simp) ?_)
              | ((with_reducible refine callK_id (f := 8) ?_); refine callK_funG (hG.at _) [10] [4, 5, 6, 7, 8, 9] cP (by simp [pullHW, roC, Function.comp_def, rows_pull, pullS, ix, prC_pull, pull_mV, pull_mS, pull_mE]) rfl rfl (by decide) (by simp [ne_mV, ne_mS, ne_mE]) (by simp [pullI, pullS, ix, frC]) ?_; rintro r Hn ⟨rfl, rfl⟩ -; skip)
              | (with_reducible refine And.intro ?_ ?_; · omega)
            refine loopK_key (H2 := HR x B cf Lf [] 6 false false) (Wk.can [(19, 21, 0, 0), (19, 22, 0, 0)] [.inl 0, .inl 1, .inl 2, .inl 3, .inl 4, .inl 5, .inl 6, .inl 7, .inl 8, .inl 9, .inl 10, .inl 11, .inl 12, .inl 13, .inl 14, .inl 15, .inl 16, .inl 17, .inl 18, .inl 21, .inl 22, .inr 0, .inr 1] rfl (by simp [patL])) ?_ ?_
            · simp [Function.comp_def, get_gcT, get, put, gcI, pullI, pullS, gcH, patL, canL, canH, canTL, canT, rows_pull, ix, segR, HR, HH, HX, HB, HC, playC, rC, stC_pull, poC_pull, stQ_pull, fqC_pull, prC_pull, pull_mV, pull_mS, pull_mE]
            · refine key cf Lf [] 6 false false _ hF (by simp) ⟨?_, ?_, ?_, ?_, ?_⟩ ⟨?_, ?_, ?_⟩ <;> (simp [Function.comp_def, get_gcT, get, put, gcI, pullI, pullS, gcH, patL, canL, canH, canTL, canT, rows_pull, ix, g1, g3, g4, g5, g7]; done)
          | false =>
            rw [e2] at hC
            simp only [Bool.not_true, Bool.or_false, Bool.false_eq_true, if_false] at hC
            cases e3 : resS f.d.m0 f.d.m1 f.d.m2 f.d.m3 f.d.m4 f.d.m5 with
            | true =>
              rw [e3] at c10 hC
              simp only [if_true] at hC
              rw [hC] at cP
              simp only [List.length_nil, List.map_nil] at cP
              repeat' first
                | with_reducible rfl
                | simp only [stC_push, q1, q2, z0, z1, hi1, hel, fqC, frC, encM, hfr, List.append_eq, List.length_map, Int.toNat_natCast, g1, g3, g4, g5, g7, push_mV, push_mS, push_mE, rows_push1, push_one, pull_one, kC_push, kC_pull, kC_len, eR_len, eV_len, eV_pull, eV_push, q3, q4, z2, z3, hj, hel2, prC, e2, RS_, argsTM, stepE, stBuiltin, stBox, stAlloc, stLoad, stStore, stField, stExtract, stBin, stUn, stConv, stNilCheck, stFieldV, stIndex, stIndexAddr, stLen, stMin, stMax, stBuild, fillI, stBuildSlice, setRows, stMakeSlice, stAppend, srcR, segR, rdCells, stSlice, bnd, stArr, stCopy, stConv2, isIntV, cutR, byteRows, rowByte, binStr, Option.map_some, Option.map_none, eq_self, canTL, canT, canH, canL, patL, gcH, gcT, gcI, get_gcT, pullS, pullI, pushS, push1, pushI, pullHW, roC, ix, List.map_map, Function.comp_def, List.zip_cons_cons, List.zip_nil_left, List.zip_nil_right, List.range'_zero, List.range'_succ, rd, get, put, IV.cells, ofValue, seg, spl, ldIV, binInt, eqI, cellsEq, leafEq, resI, flat, isT, upd, up1, nextM, cR, ptrC, nAl, isAl, ST_, Nat.reduceAdd, Nat.reduceMul, Nat.reduceEqDiff, Nat.reduceLeDiff, ne_eq, reduceCtorEq, reduceIte, forall_const, implies_true, Int.reduceToNat, Int.reduceLE, Int.reduceLT, bne, Int.reduceEq, Int.reduceNe, Int.reduceNeg, Int.reduceAdd, Int.reduceSub, Int.reduceMul, Int.reduceBEq, Int.reduceBNe, Nat.reduceLT, Nat.reduceSub, WLS, Tryd.underlying3, Tryd.underlying4, Tryd.underlying5, ty_ag_27, ty_ag_29, ty_ag_3, ty_ag_31, ty_ag_33, ty_ag_35, ty_ag_4, ty_ag_40, ty_ag_42, ty_ag_45, ty_ag_46, ty_ag_5, ty_ag_51, ty_ag_58, ty_ag_63, ty_ag_67, ty_ag_73, ty_ag_81, ty_ar_61, ty_by_46, ty_eg_67, ty_eg_81, ty_lv_67, ty_lv_81, ty_of_29_4, ty_of_35_0, ty_of_35_2, ty_of_42_0, ty_of_42_1, ty_of_45_0, ty_of_48_0, ty_of_48_1, ty_of_48_2, ty_of_48_3, ty_of_58_0, ty_of_58_9, ty_ok_61, ty_ok_63, ty_ok_81, ty_pl_61_0, ty_pl_61_1, ty_pl_61_2, ty_pl_61_3, ty_pl_63_0, ty_pl_63_1, ty_pl_81_0, ty_pl_81_1, ty_sl_27, ty_sl_36, ty_sl_46, ty_sl_82, ty_sr_46, ty_sz_27, ty_sz_29, ty_sz_3, ty_sz_31, ty_sz_33, ty_sz_35, ty_sz_4, ty_sz_40, ty_sz_42, ty_sz_45, ty_sz_46, ty_sz_48, ty_sz_5, ty_sz_51, ty_sz_58, ty_sz_63, ty_sz_67, ty_sz_73, ty_sz_81, ty_ze_35, ty_ze_42, ty_ze_48, ty_ze_61, ty_ze_63, ty_ze_73, ty_ze_81, ty_zs_46]
                | (with_reducible refine drawK_id ?_); refine drawK_auto hmix (by kernel_rfl) ?_
                | (with_reducible refine draw_fin ?_ ?_); · kernel_rfl
                | (with_reducible refine draw_id ?_); kernel_rfl
                | ((with_reducible refine callK_id (f := 7) ?_); refine callK_fun c7 rfl rfl ?_)
                | ((with_reducible refine callK_id (f := 9) ?_); refine callK_fun c9 rfl rfl ?_)
                | ((with_reducible refine callK_id (f := 10) ?_); refine callK_fun c10 rfl rfl ?_)
                | ((with_reducible refine callD_id (f := 11) ?_); refine callD_new (Hw' := [.rows true 1 [[.ref 1]], mpV B.cv B.Lv]) (Nw := []) [] [12, 13] (FunW_eq c11) (by simp [pullHW, roC, Function.comp_def, rows_pull, pullS, ix, pull_mV, pull_mS, pull_mE]) rfl rfl (by decide) (by simp [ne_mV, ne_mS, ne_mE]) (by simp [pullI, pullS, ix, kC_pull, kV, kC, encM, frC]) (by simp) ?_)
                | ((with_reducible refine callK_id (f := 8) ?_); refine callK_funG (hG.at _) [10] [4, 5, 6, 7, 8, 9] cP (by simp [pullHW, roC, Function.comp_def, rows_pull, pullS, ix, prC_pull, pull_mV, pull_mS, pull_mE]) rfl rfl (by decide) (by simp [ne_mV, ne_mS, ne_mE]) (by simp [pullI, pullS, ix, frC]) ?_; rintro r Hn ⟨rfl, rfl⟩ -; skip)
                | (with_reducible refine And.intro ?_ ?_; · omega)
              refine loopK_key (H2 := HR x B cf Lf [] 2 false false) (Wk.can [(19, 21, 0, 0), (19, 22, 0, 0)] [.inl 0, .inl 1, .inl 2, .inl 3, .inl 4, .inl 5, .inl 6, .inl 7, .inl 8, .inl 9, .inl 10, .inl 11, .inl 12, .inl 13, .inl 14, .inl 15, .inl 16, .inl 17, .inl 18, .inl 21, .inl 22, .inr 0, .inr 1] rfl (by simp [patL])) ?_ ?_
              · simp [Function.comp_def, get_gcT, get, put, gcI, pullI, pullS, gcH, patL, canL, canH, canTL, canT, rows_pull, ix, segR, HR, HH, HX, HB, HC, playC, rC, stC_pull, poC_pull, stQ_pull, fqC_pull, prC_pull, pull_mV, pull_mS, pull_mE]
              · refine key cf Lf [] 2 false false _ hF (by simp) ⟨?_, ?_, ?_, ?_, ?_⟩ ⟨?_, ?_, ?_⟩ <;> (simp [Function.comp_def, get_gcT, get, put, gcI, pullI, pullS, gcH, patL, canL, canH, canTL, canT, rows_pull, ix, g1, g3, g4, g5, g7]; done)
            | false =>
              rw [e3] at c10 hC
              simp only [Bool.false_eq_true, if_false] at hC
              have c11 := ingW B.cv B.Lv hB.v p.pv p.ac p.fi fr f
              unfold tabV at c11
              have hwh := ing_what B.Lv p.pv p.ac p.fi fr f
              generalize ingC B.Lv p.pv p.ac p.fi fr f = I at c11 hC hwh
              obtain ⟨vid, what⟩ := I
              simp only at c11 hC hwh
              rcases hwh with rfl | rfl | rfl | rfl
              · rw [if_pos rfl] at hC
                have hkv := hfk vid
                have hF2 := learn_okF hF hB.r1 (by decide) hkv fr
                have hnb := newB_eq hF hB.r1 (by decide) hkv (fr := fr) (by omega) (by omega)
                have hL1 : Lf.length ≤ 100000 := by have := hF.len; have := hB.r2; omega
                have c12 := f35 B.rm 20 cf Lf hF.k ⟨vid, f.s⟩
                have c13 := f34 B.rm 20 cf Lf hF.k hF.s hF.c hB.r1 hL1 (sort_ok Lf hF.k hF.v hL1) ⟨vid, f.s⟩ fr
                have c14 := f36 f.s.m0 f.s.m1 f.s.m2 f.s.m3 f.s.m4 f.s.m5
                have kd : kC ⟨vid, f.s⟩ = [.raw (.int .u16 vid), .raw (.int .u8 f.s.m0), .raw (.int .u8 f.s.m1), .raw (.int .u8 f.s.m2), .raw (.int .u8 f.s.m3), .raw (.int .u8 f.s.m4), .raw (.int .u8 f.s.m5)] := rfl
                rw [hC] at cP
                simp only [passT, toC] at cP
                obtain ⟨nb, hnbe⟩ : ∃ nb, newB B.rm cf Lf ⟨vid, f.s⟩ fr = nb := ⟨_, rfl⟩
                rw [hnbe] at cP hnb
                generalize learnK B.rm cf Lf ⟨vid, f.s⟩ fr = K at cP c13 hF2
                obtain ⟨⟨c2, L2⟩, ge, gb⟩ := K
                simp only at cP c13 hF2
                generalize ((look Lf ⟨vid, f.s⟩).map (·.p)).getD 0 = q0 at c12
                unfold fdbC at c12 c13
                cases e4 : (p.st == 1) with
                | true =>
                  rw [e4] at cP
                  simp only [if_true, List.length_nil, List.map_nil] at cP
                  cases hw1 : (look Lf ⟨vid, f.s⟩).isSome with
                  | true =>
                    rw [hw1] at c12
                    simp only [hw1, Bool.not_true, Bool.not_false, Bool.false_and, Bool.and_true, Bool.and_false, Bool.true_and] at hnb
                    subst hnb
                    repeat' first
                      | with_reducible rfl
                      | simp only [stC_push, q1, q2, z0, z1, hi1, hel, fqC, frC, encM, hfr, List.append_eq, List.length_map, Int.toNat_natCast, g1, g3, g4, g5, g7, push_mV, push_mS, push_mE, rows_push1, push_one, pull_one, kC_push, kC_pull, kC_len, eR_len, eV_len, eV_pull, eV_push, q3, q4, z2, z3, hj, hel2, prC, e2, kd, rowV_len, e4, RS_, argsTM, stepE, stBuiltin, stBox, stAlloc, stLoad, stStore, stField, stExtract, stBin, stUn, stConv, stNilCheck, stFieldV, stIndex, stIndexAddr, stLen, stMin, stMax, stBuild, fillI, stBuildSlice, setRows, stMakeSlice, stAppend, srcR, segR, rdCells, stSlice, bnd, stArr, stCopy, stConv2, isIntV, cutR, byteRows, rowByte, binStr, Option.map_some, Option.map_none, eq_self, canTL, canT, canH, canL, patL, gcH, gcT, gcI, get_gcT, pullS, pullI, pushS, push1, pushI, pullHW, roC, ix, List.map_map, Function.comp_def, List.zip_cons_cons, List.zip_nil_left, List.zip_nil_right, List.range'_zero, List.range'_succ, rd, get, put, IV.cells, ofValue, seg, spl, ldIV, binInt, eqI, cellsEq, leafEq, resI, flat, isT, upd, up1, nextM, cR, ptrC, nAl, isAl, ST_, Nat.reduceAdd, Nat.reduceMul, Nat.reduceEqDiff, Nat.reduceLeDiff, ne_eq, reduceCtorEq, reduceIte, forall_const, implies_true, Int.reduceToNat, Int.reduceLE, Int.reduceLT, bne, Int.reduceEq, Int.reduceNe, Int.reduceNeg, Int.reduceAdd, Int.reduceSub, Int.reduceMul, Int.reduceBEq, Int.reduceBNe, Nat.reduceLT, Nat.reduceSub, WLS, Tryd.underlying3, Tryd.underlying4, Tryd.underlying5, ty_ag_27, ty_ag_29, ty_ag_3, ty_ag_31, ty_ag_33, ty_ag_35, ty_ag_4, ty_ag_40, ty_ag_42, ty_ag_45, ty_ag_46, ty_ag_5, ty_ag_51, ty_ag_58, ty_ag_63, ty_ag_67, ty_ag_73, ty_ag_81, ty_ar_61, ty_by_46, ty_eg_67, ty_eg_81, ty_lv_67, ty_lv_81, ty_of_29_4, ty_of_35_0, ty_of_35_2, ty_of_42_0, ty_of_42_1, ty_of_45_0, ty_of_48_0, ty_of_48_1, ty_of_48_2, ty_of_48_3, ty_of_58_0, ty_of_58_9, ty_ok_61, ty_ok_63, ty_ok_81, ty_pl_61_0, ty_pl_61_1, ty_pl_61_2, ty_pl_61_3, ty_pl_63_0, ty_pl_63_1, ty_pl_81_0, ty_pl_81_1, ty_sl_27, ty_sl_36, ty_sl_46, ty_sl_82, ty_sr_46, ty_sz_27, ty_sz_29, ty_sz_3, ty_sz_31, ty_sz_33, ty_sz_35, ty_sz_4, ty_sz_40, ty_sz_42, ty_sz_45, ty_sz_46, ty_sz_48, ty_sz_5, ty_sz_51, ty_sz_58, ty_sz_63, ty_sz_67, ty_sz_73, ty_sz_81, ty_ze_35, ty_ze_42, ty_ze_48, ty_ze_61, ty_ze_63, ty_ze_73, ty_ze_81, ty_zs_46]
                      | (with_reducible refine drawK_id ?_); refine drawK_auto hmix (by kernel_rfl) ?_
                      | (with_reducible refine draw_fin ?_ ?_); · kernel_rfl
                      | (with_reducible refine draw_id ?_); kernel_rfl
                      | ((with_reducible refine callK_id (f := 7) ?_); refine callK_fun c7 rfl rfl ?_)
                      | ((with_reducible refine callK_id (f := 9) ?_); refine callK_fun c9 rfl rfl ?_)
                      | ((with_reducible refine callK_id (f := 10) ?_); refine callK_fun c10 rfl rfl ?_)
                      | ((with_reducible refine callD_id (f := 11) ?_); refine callD_new (Hw' := [.rows true 1 [[.ref 1]], mpV B.cv B.Lv]) (Nw := []) [] [12, 13] (FunW_eq c11) (by simp [pullHW, roC, Function.comp_def, rows_pull, pullS, ix, pull_mV, pull_mS, pull_mE]) rfl rfl (by decide) (by simp [ne_mV, ne_mS, ne_mE]) (by simp [pullI, pullS, ix, kC_pull, kV, kC, encM, frC]) (by simp) ?_)
                      | ((with_reducible refine callK_id (f := 12) ?_); refine callK_funW [] [16, 17] (c12) (by simp [pullHW, roC, Function.comp_def, rows_pull, pullS, ix, pull_mV, pull_mS, pull_mE]) rfl rfl (by decide) (by simp [ne_mV, ne_mS, ne_mE]) (by simp [pullI, pullS, ix, kC_pull, kV, kC, encM, kd]) ?_; rintro r Hn ⟨rfl, rfl⟩ -; skip)
                      | ((with_reducible refine callK_id (f := 13) ?_); refine callK_funW [] [16, 17] (c13) (by simp [pullHW, roC, Function.comp_def, rows_pull, pullS, ix, pull_mV, pull_mS, pull_mE]) rfl rfl (by decide) (by simp [ne_mV, ne_mS, ne_mE]) (by simp [pullI, pullS, ix, kC_pull, kV, kC, encM, kd]) ?_; rintro r Hn ⟨rfl, rfl⟩ -; skip)
                      | ((with_reducible refine callK_id (f := 14) ?_); refine callK_fun c14 rfl rfl ?_)
                      | ((with_reducible refine callK_id (f := 8) ?_); refine callK_funG (hG.at _) [10] [4, 5, 6, 7, 8, 9] cP (by simp [pullHW, roC, Function.comp_def, rows_pull, pullS, ix, prC_pull, pull_mV, pull_mS, pull_mE]) rfl rfl (by decide) (by simp [ne_mV, ne_mS, ne_mE]) (by simp [pullI, pullS, ix, frC]) ?_; rintro r Hn ⟨rfl, rfl⟩ -; skip)
                      | (with_reducible refine And.intro ?_ ?_; · omega)
                    refine loopK_key (H2 := HR x B c2 L2 [] 6 false gb) (Wk.can [(19, 21, 0, 0), (19, 22, 0, 0)] [.inl 0, .inl 1, .inl 2, .inl 3, .inl 4, .inl 5, .inl 6, .inl 7, .inl 8, .inl 9, .inl 10, .inl 11, .inl 12, .inl 13, .inl 14, .inl 15, .inl 16, .inl 17, .inl 18, .inl 21, .inl 22, .inr 0, .inr 1] rfl (by simp [patL])) ?_ ?_
                    · simp [Function.comp_def, get_gcT, get, put, gcI, pullI, pullS, gcH, patL, canL, canH, canTL, canT, rows_pull, ix, segR, HR, HH, HX, HB, HC, playC, rC, stC_pull, poC_pull, stQ_pull, fqC_pull, prC_pull, pull_mV, pull_mS, pull_mE]
                    · refine key c2 L2 [] 6 false gb _ hF2 (by simp) ⟨?_, ?_, ?_, ?_, ?_⟩ ⟨?_, ?_, ?_⟩ <;> (simp [Function.comp_def, get_gcT, get, put, gcI, pullI, pullS, gcH, patL, canL, canH, canTL, canT, rows_pull, ix, g1, g3, g4, g5, g7]; done)
                  | false =>
                    rw [hw1] at c12
                    cases hg : (bAnd .u8 f.s.m0 1 == 1) with
                    | true =>
                      rw [hg] at c14
                      simp only [hw1, hg, Bool.not_true, Bool.not_false, Bool.false_and, Bool.and_true, Bool.and_false, Bool.true_and] at hnb
                      subst hnb
                      repeat' first
                        | with_reducible rfl
                        | simp only [stC_push, q1, q2, z0, z1, hi1, hel, fqC, frC, encM, hfr, List.append_eq, List.length_map, Int.toNat_natCast, g1, g3, g4, g5, g7, push_mV, push_mS, push_mE, rows_push1, push_one, pull_one, kC_push, kC_pull, kC_len, eR_len, eV_len, eV_pull, eV_push, q3, q4, z2, z3, hj, hel2, prC, e2, kd, rowV_len, e4, RS_, argsTM, stepE, stBuiltin, stBox, stAlloc, stLoad, stStore, stField, stExtract, stBin, stUn, stConv, stNilCheck, stFieldV, stIndex, stIndexAddr, stLen, stMin, stMax, stBuild, fillI, stBuildSlice, setRows, stMakeSlice, stAppend, srcR, segR, rdCells, stSlice, bnd, stArr, stCopy, stConv2, isIntV, cutR, byteRows, rowByte, binStr, Option.map_some, Option.map_none, eq_self, canTL, canT, canH, canL, patL, gcH, gcT, gcI, get_gcT, pullS, pullI, pushS, push1, pushI, pullHW, roC, ix, List.map_map, Function.comp_def, List.zip_cons_cons, List.zip_nil_left, List.zip_nil_right, List.range'_zero, List.range'_succ, rd, get, put, IV.cells, ofValue, seg, spl, ldIV, binInt, eqI, cellsEq, leafEq, resI, flat, isT, upd, up1, nextM, cR, ptrC, nAl, isAl, ST_, Nat.reduceAdd, Nat.reduceMul, Nat.reduceEqDiff, Nat.reduceLeDiff, ne_eq, reduceCtorEq, reduceIte, forall_const, implies_true, Int.reduceToNat, Int.reduceLE, Int.reduceLT, bne, Int.reduceEq, Int.reduceNe, Int.reduceNeg, Int.reduceAdd, Int.reduceSub, Int.reduceMul, Int.reduceBEq, Int.reduceBNe, Nat.reduceLT, Nat.reduceSub, WLS, Tryd.underlying3, Tryd.underlying4, Tryd.underlying5, ty_ag_27, ty_ag_29, ty_ag_3, ty_ag_31, ty_ag_33, ty_ag_35, ty_ag_4, ty_ag_40, ty_ag_42, ty_ag_45, ty_ag_46, ty_ag_5, ty_ag_51, ty_ag_58, ty_ag_63, ty_ag_67, ty_ag_73, ty_ag_81, ty_ar_61, ty_by_46, ty_eg_67, ty_eg_81, ty_lv_67, ty_lv_81, ty_of_29_4, ty_of_35_0, ty_of_35_2, ty_of_42_0, ty_of_42_1, ty_of_45_0, ty_of_48_0, ty_of_48_1, ty_of_48_2, ty_of_48_3, ty_of_58_0, ty_of_58_9, ty_ok_61, ty_ok_63, ty_ok_81, ty_pl_61_0, ty_pl_61_1, ty_pl_61_2, ty_pl_61_3, ty_pl_63_0, ty_pl_63_1, ty_pl_81_0, ty_pl_81_1, ty_sl_27, ty_sl_36, ty_sl_46, ty_sl_82, ty_sr_46, ty_sz_27, ty_sz_29, ty_sz_3, ty_sz_31, ty_sz_33, ty_sz_35, ty_sz_4, ty_sz_40, ty_sz_42, ty_sz_45, ty_sz_46, ty_sz_48, ty_sz_5, ty_sz_51, ty_sz_58, ty_sz_63, ty_sz_67, ty_sz_73, ty_sz_81, ty_ze_35, ty_ze_42, ty_ze_48, ty_ze_61, ty_ze_63, ty_ze_73, ty_ze_81, ty_zs_46]
                        | (with_reducible refine drawK_id ?_); refine drawK_auto hmix (by kernel_rfl) ?_
                        | (with_reducible refine draw_fin ?_ ?_); · kernel_rfl
                        | (with_reducible refine draw_id ?_); kernel_rfl
                        | ((with_reducible refine callK_id (f := 7) ?_); refine callK_fun c7 rfl rfl ?_)
                        | ((with_reducible refine callK_id (f := 9) ?_); refine callK_fun c9 rfl rfl ?_)
                        | ((with_reducible refine callK_id (f := 10) ?_); refine callK_fun c10 rfl rfl ?_)
                        | ((with_reducible refine callD_id (f := 11) ?_); refine callD_new (Hw' := [.rows true 1 [[.ref 1]], mpV B.cv B.Lv]) (Nw := []) [] [12, 13] (FunW_eq c11) (by simp [pullHW, roC, Function.comp_def, rows_pull, pullS, ix, pull_mV, pull_mS, pull_mE]) rfl rfl (by decide) (by simp [ne_mV, ne_mS, ne_mE]) (by simp [pullI, pullS, ix, kC_pull, kV, kC, encM, frC]) (by simp) ?_)
                        | ((with_reducible refine callK_id (f := 12) ?_); refine callK_funW [] [16, 17] (c12) (by simp [pullHW, roC, Function.comp_def, rows_pull, pullS, ix, pull_mV, pull_mS, pull_mE]) rfl rfl (by decide) (by simp [ne_mV, ne_mS, ne_mE]) (by simp [pullI, pullS, ix, kC_pull, kV, kC, encM, kd]) ?_; rintro r Hn ⟨rfl, rfl⟩ -; skip)
                        | ((with_reducible refine callK_id (f := 13) ?_); refine callK_funW [] [16, 17] (c13) (by simp [pullHW, roC, Function.comp_def, rows_pull, pullS, ix, pull_mV, pull_mS, pull_mE]) rfl rfl (by decide) (by simp [ne_mV, ne_mS, ne_mE]) (by simp [pullI, pullS, ix, kC_pull, kV, kC, encM, kd]) ?_; rintro r Hn ⟨rfl, rfl⟩ -; skip)
                        | ((with_reducible refine callK_id (f := 14) ?_); refine callK_fun c14 rfl rfl ?_)
                        | ((with_reducible refine callK_id (f := 8) ?_); refine callK_funG (hG.at _) [10] [4, 5, 6, 7, 8, 9] cP (by simp [pullHW, roC, Function.comp_def, rows_pull, pullS, ix, prC_pull, pull_mV, pull_mS, pull_mE]) rfl rfl (by decide) (by simp [ne_mV, ne_mS, ne_mE]) (by simp [pullI, pullS, ix, frC]) ?_; rintro r Hn ⟨rfl, rfl⟩ -; skip)
                        | (with_reducible refine And.intro ?_ ?_; · omega)
                      refine loopK_key (H2 := HR x B c2 L2 [] 6 false gb) (Wk.can [(19, 21, 0, 0), (19, 22, 0, 0)] [.inl 0, .inl 1, .inl 2, .inl 3, .inl 4, .inl 5, .inl 6, .inl 7, .inl 8, .inl 9, .inl 10, .inl 11, .inl 12, .inl 13, .inl 14, .inl 15, .inl 16, .inl 17, .inl 18, .inl 21, .inl 22, .inr 0, .inr 1] rfl (by simp [patL])) ?_ ?_
                      · simp [Function.comp_def, get_gcT, get, put, gcI, pullI, pullS, gcH, patL, canL, canH, canTL, canT, rows_pull, ix, segR, HR, HH, HX, HB, HC, playC, rC, stC_pull, poC_pull, stQ_pull, fqC_pull, prC_pull, pull_mV, pull_mS, pull_mE]
                      · refine key c2 L2 [] 6 false gb _ hF2 (by simp) ⟨?_, ?_, ?_, ?_, ?_⟩ ⟨?_, ?_, ?_⟩ <;> (simp [Function.comp_def, get_gcT, get, put, gcI, pullI, pullS, gcH, patL, canL, canH, canTL, canT, rows_pull, ix, g1, g3, g4, g5, g7]; done)
                    | false =>
                      rw [hg] at c14
                      simp only [hw1, hg, Bool.not_true, Bool.not_false, Bool.false_and, Bool.and_true, Bool.and_false, Bool.true_and] at hnb
                      subst hnb
                      repeat' first
                        | with_reducible rfl
                        | simp only [stC_push, q1, q2, z0, z1, hi1, hel, fqC, frC, encM, hfr, List.append_eq, List.length_map, Int.toNat_natCast, g1, g3, g4, g5, g7, push_mV, push_mS, push_mE, rows_push1, push_one, pull_one, kC_push, kC_pull, kC_len, eR_len, eV_len, eV_pull, eV_push, q3, q4, z2, z3, hj, hel2, prC, e2, kd, rowV_len, e4, RS_, argsTM, stepE, stBuiltin, stBox, stAlloc, stLoad, stStore, stField, stExtract, stBin, stUn, stConv, stNilCheck, stFieldV, stIndex, stIndexAddr, stLen, stMin, stMax, stBuild, fillI, stBuildSlice, setRows, stMakeSlice, stAppend, srcR, segR, rdCells, stSlice, bnd, stArr, stCopy, stConv2, isIntV, cutR, byteRows, rowByte, binStr, Option.map_some, Option.map_none, eq_self, canTL, canT, canH, canL, patL, gcH, gcT, gcI, get_gcT, pullS, pullI, pushS, push1, pushI, pullHW, roC, ix, List.map_map, Function.comp_def, List.zip_cons_cons, List.zip_nil_left, List.zip_nil_right, List.range'_zero, List.range'_succ, rd, get, put, IV.cells, ofValue, seg, spl, ldIV, binInt, eqI, cellsEq, leafEq, resI, flat, isT, upd, up1, nextM, cR, ptrC, nAl, isAl, ST_, Nat.reduceAdd, Nat.reduceMul, Nat.reduceEqDiff, Nat.reduceLeDiff, ne_eq, reduceCtorEq, reduceIte, forall_const, implies_true, Int.reduceToNat, Int.reduceLE, Int.reduceLT, bne, Int.reduceEq, Int.reduceNe, Int.reduceNeg, Int.reduceAdd, Int.reduceSub, Int.reduceMul, Int.reduceBEq, Int.reduceBNe, Nat.reduceLT, Nat.reduceSub, WLS, Tryd.underlying3, Tryd.underlying4, Tryd.underlying5, ty_ag_27, ty_ag_29, ty_ag_3, ty_ag_31, ty_ag_33, ty_ag_35, ty_ag_4, ty_ag_40, ty_ag_42, ty_ag_45, ty_ag_46, ty_ag_5, ty_ag_51, ty_ag_58, ty_ag_63, ty_ag_67, ty_ag_73, ty_ag_81, ty_ar_61, ty_by_46, ty_eg_67, ty_eg_81, ty_lv_67, ty_lv_81, ty_of_29_4, ty_of_35_0, ty_of_35_2, ty_of_42_0, ty_of_42_1, ty_of_45_0, ty_of_48_0, ty_of_48_1, ty_of_48_2, ty_of_48_3, ty_of_58_0, ty_of_58_9, ty_ok_61, ty_ok_63, ty_ok_81, ty_pl_61_0, ty_pl_61_1, ty_pl_61_2, ty_pl_61_3, ty_pl_63_0, ty_pl_63_1, ty_pl_81_0, ty_pl_81_1, ty_sl_27, ty_sl_36, ty_sl_46, ty_sl_82, ty_sr_46, ty_sz_27, ty_sz_29, ty_sz_3, ty_sz_31, ty_sz_33, ty_sz_35, ty_sz_4, ty_sz_40, ty_sz_42, ty_sz_45, ty_sz_46, ty_sz_48, ty_sz_5, ty_sz_51, ty_sz_58, ty_sz_63, ty_sz_67, ty_sz_73, ty_sz_81, ty_ze_35, ty_ze_42, ty_ze_48, ty_ze_61, ty_ze_63, ty_ze_73, ty_ze_81, ty_zs_46]
                        | (with_reducible refine drawK_id ?_); refine drawK_auto hmix (by kernel_rfl) ?_
                        | (with_reducible refine draw_fin ?_ ?_); · kernel_rfl
                        | (with_reducible refine draw_id ?_); kernel_rfl
                        | ((with_reducible refine callK_id (f := 7) ?_); refine callK_fun c7 rfl rfl ?_)
                        | ((with_reducible refine callK_id (f := 9) ?_); refine callK_fun c9 rfl rfl ?_)
                        | ((with_reducible refine callK_id (f := 10) ?_); refine callK_fun c10 rfl rfl ?_)
                        | ((with_reducible refine callD_id (f := 11) ?_); refine callD_new (Hw' := [.rows true 1 [[.ref 1]], mpV B.cv B.Lv]) (Nw := []) [] [12, 13] (FunW_eq c11) (by simp [pullHW, roC, Function.comp_def, rows_pull, pullS, ix, pull_mV, pull_mS, pull_mE]) rfl rfl (by decide) (by simp [ne_mV, ne_mS, ne_mE]) (by simp [pullI, pullS, ix, kC_pull, kV, kC, encM, frC]) (by simp) ?_)
                        | ((with_reducible refine callK_id (f := 12) ?_); refine callK_funW [] [16, 17] (c12) (by simp [pullHW, roC, Function.comp_def, rows_pull, pullS, ix, pull_mV, pull_mS, pull_mE]) rfl rfl (by decide) (by simp [ne_mV, ne_mS, ne_mE]) (by simp [pullI, pullS, ix, kC_pull, kV, kC, encM, kd]) ?_; rintro r Hn ⟨rfl, rfl⟩ -; skip)
                        | ((with_reducible refine callK_id (f := 13) ?_); refine callK_funW [] [16, 17] (c13) (by simp [pullHW, roC, Function.comp_def, rows_pull, pullS, ix, pull_mV, pull_mS, pull_mE]) rfl rfl (by decide) (by simp [ne_mV, ne_mS, ne_mE]) (by simp [pullI, pullS, ix, kC_pull, kV, kC, encM, kd]) ?_; rintro r Hn ⟨rfl, rfl⟩ -; skip)
                        | ((with_reducible refine callK_id (f := 14) ?_); refine callK_fun c14 rfl rfl ?_)
                        | ((with_reducible refine callK_id (f := 8) ?_); refine callK_funG (hG.at _) [10] [4, 5, 6, 7, 8, 9] cP (by simp [pullHW, roC, Function.comp_def, rows_pull, pullS, ix, prC_pull, pull_mV, pull_mS, pull_mE]) rfl rfl (by decide) (by simp [ne_mV, ne_mS, ne_mE]) (by simp [pullI, pullS, ix, frC]) ?_; rintro r Hn ⟨rfl, rfl⟩ -; skip)
                        | (with_reducible refine And.intro ?_ ?_; · omega)
                      refine loopK_key (H2 := HR x B c2 L2 [] 6 true gb) (Wk.can [(19, 21, 0, 0), (19, 22, 0, 0)] [.inl 0, .inl 1, .inl 2, .inl 3, .inl 4, .inl 5, .inl 6, .inl 7, .inl 8, .inl 9, .inl 10, .inl 11, .inl 12, .inl 13, .inl 14, .inl 15, .inl 16, .inl 17, .inl 18, .inl 21, .inl 22, .inr 0, .inr 1] rfl (by simp [patL])) ?_ ?_
                      · simp [Function.comp_def, get_gcT, get, put, gcI, pullI, pullS, gcH, patL, canL, canH, canTL, canT, rows_pull, ix, segR, HR, HH, HX, HB, HC, playC, rC, stC_pull, poC_pull, stQ_pull, fqC_pull, prC_pull, pull_mV, pull_mS, pull_mE]
                      · refine key c2 L2 [] 6 true gb _ hF2 (by simp) ⟨?_, ?_, ?_, ?_, ?_⟩ ⟨?_, ?_, ?_⟩ <;> (simp [Function.comp_def, get_gcT, get, put, gcI, pullI, pullS, gcH, patL, canL, canH, canTL, canT, rows_pull, ix, g1, g3, g4, g5, g7]; done)
                | false =>
                  rw [e4] at cP
                  simp only [Bool.false_eq_true, if_false] at cP
                  obtain ⟨va, vm, vu, hrow, hre⟩ := rowV_eq (lookV B.Lv vid)
                  rw [hre] at cP
                  simp only at cP
                  have c16 := f14 B.cv B.Lv hB.v vid
                  rw [hrow] at c16
                  generalize (lookV B.Lv vid).isSome = lks at c16
                  have c17 := portsW B.cv B.Lv B.cs B.Ls B.rm 20 c2 L2 hB.v hB.s hF2.k fr vid f.d (openC B.L)
                  obtain ⟨to, hto⟩ : ∃ to, portsC B.Lv B.Ls L2 fr vid f.d (openC B.L) = to := ⟨_, rfl⟩
                  rw [hto] at c17 cP
                  unfold tabV at c16
                  unfold tabsI HT at c17
                  have hSS16 : (sentC va vu f (upN (hasP to) 16)).length ≤ 16 := sentC_len _ _ _ _ (upN_len _ 16)
                  obtain ⟨SS, hSS⟩ : ∃ SS, sentC va vu f (upN (hasP to) 16) = SS := ⟨_, rfl⟩
                  rw [hSS] at cP hSS16
                  refine' (fun (key2 : KeyT Tryd.prog 293 (X.at 3) (fun tm => T5 B i tm ∧ get tm 8 = .s (.ptr 19 0 0) ∧ get tm 9 = .s (.raw (.int .i64 fr)) ∧ get tm 10 = .s (.ptr 20 0 0) ∧ get tm 11 = .s (.ptr 21 0 0) ∧ get tm 12 = .s (.raw (.int .u16 vid)) ∧ get tm 17 = .s (.raw (.int .u32 0)) ∧ get tm 18 = .s (.raw (.int .i64 0))) (HH x B c2 L2 ++ [.rows true 18 [frC f], .rows true 4 [rC (.slice 22 0 SS.length) 7 nb gb], .rows true 4 [rC (.raw (.slice none 0 0)) 7 nb gb], .rows true 19 (SS.map stC)]) _ _) => ?main2) ?key2
                  case main2 =>
                    cases hw1 : (look Lf ⟨vid, f.s⟩).isSome with
                    | true =>
                      rw [hw1] at c12
                      simp only [hw1, Bool.not_true, Bool.not_false, Bool.false_and, Bool.and_true, Bool.and_false, Bool.true_and] at hnb
                      subst hnb
                      repeat' first
                        | with_reducible rfl
                        | simp only [stC_push, q1, q2, z0, z1, hi1, hel, fqC, frC, encM, hfr, List.append_eq, List.length_map, Int.toNat_natCast, g1, g3, g4, g5, g7, push_mV, push_mS, push_mE, rows_push1, push_one, pull_one, kC_push, kC_pull, kC_len, eR_len, eV_len, eV_pull, eV_push, q3, q4, z2, z3, hj, hel2, prC, e2, kd, rowV_len, e4, RS_, argsTM, stepE, stBuiltin, stBox, stAlloc, stLoad, stStore, stField, stExtract, stBin, stUn, stConv, stNilCheck, stFieldV, stIndex, stIndexAddr, stLen, stMin, stMax, stBuild, fillI, stBuildSlice, setRows, stMakeSlice, stAppend, srcR, segR, rdCells, stSlice, bnd, stArr, stCopy, stConv2, isIntV, cutR, byteRows, rowByte, binStr, Option.map_some, Option.map_none, eq_self, canTL, canT, canH, canL, patL, gcH, gcT, gcI, get_gcT, pullS, pullI, pushS, push1, pushI, pullHW, roC, ix, List.map_map, Function.comp_def, List.zip_cons_cons, List.zip_nil_left, List.zip_nil_right, List.range'_zero, List.range'_succ, rd, get, put, IV.cells, ofValue, seg, spl, ldIV, binInt, eqI, cellsEq, leafEq, resI, flat, isT, upd, up1, nextM, cR, ptrC, nAl, isAl, ST_, Nat.reduceAdd, Nat.reduceMul, Nat.reduceEqDiff, Nat.reduceLeDiff, ne_eq, reduceCtorEq, reduceIte, forall_const, implies_true, Int.reduceToNat, Int.reduceLE, Int.reduceLT, bne, Int.reduceEq, Int.reduceNe, Int.reduceNeg, Int.reduceAdd, Int.reduceSub, Int.reduceMul, Int.reduceBEq, Int.reduceBNe, Nat.reduceLT, Nat.reduceSub, WLS, Tryd.underlying3, Tryd.underlying4, Tryd.underlying5, ty_ag_27, ty_ag_29, ty_ag_3, ty_ag_31, ty_ag_33, ty_ag_35, ty_ag_4, ty_ag_40, ty_ag_42, ty_ag_45, ty_ag_46, ty_ag_5, ty_ag_51, ty_ag_58, ty_ag_63, ty_ag_67, ty_ag_73, ty_ag_81, ty_ar_61, ty_by_46, ty_eg_67, ty_eg_81, ty_lv_67, ty_lv_81, ty_of_29_4, ty_of_35_0, ty_of_35_2, ty_of_42_0, ty_of_42_1, ty_of_45_0, ty_of_48_0, ty_of_48_1, ty_of_48_2, ty_of_48_3, ty_of_58_0, ty_of_58_9, ty_ok_61, ty_ok_63, ty_ok_81, ty_pl_61_0, ty_pl_61_1, ty_pl_61_2, ty_pl_61_3, ty_pl_63_0, ty_pl_63_1, ty_pl_81_0, ty_pl_81_1, ty_sl_27, ty_sl_36, ty_sl_46, ty_sl_82, ty_sr_46, ty_sz_27, ty_sz_29, ty_sz_3, ty_sz_31, ty_sz_33, ty_sz_35, ty_sz_4, ty_sz_40, ty_sz_42, ty_sz_45, ty_sz_46, ty_sz_48, ty_sz_5, ty_sz_51, ty_sz_58, ty_sz_63, ty_sz_67, ty_sz_73, ty_sz_81, ty_ze_35, ty_ze_42, ty_ze_48, ty_ze_61, ty_ze_63, ty_ze_73, ty_ze_81, ty_zs_46]
                        | (with_reducible refine drawK_id ?_); refine drawK_auto hmix (by kernel_rfl) ?_
                        | (with_reducible refine draw_fin ?_ ?_); · kernel_rfl
                        | (with_reducible refine draw_id ?_); kernel_rfl
                        | ((with_reducible refine callK_id (f := 7) ?_); refine callK_fun c7 rfl rfl ?_)
                        | ((with_reducible refine callK_id (f := 9) ?_); refine callK_fun c9 rfl rfl ?_)
                        | ((with_reducible refine callK_id (f := 10) ?_); refine callK_fun c10 rfl rfl ?_)
                        | ((with_reducible refine callD_id (f := 11) ?_); refine callD_new (Hw' := [.rows true 1 [[.ref 1]], mpV B.cv B.Lv]) (Nw := []) [] [12, 13] (FunW_eq c11) (by simp [pullHW, roC, Function.comp_def, rows_pull, pullS, ix, pull_mV, pull_mS, pull_mE]) rfl rfl (by decide) (by simp [ne_mV, ne_mS, ne_mE]) (by simp [pullI, pullS, ix, kC_pull, kV, kC, encM, frC]) (by simp) ?_)
                        | ((with_reducible refine callK_id (f := 12) ?_); refine callK_funW [] [16, 17] (c12) (by simp [pullHW, roC, Function.comp_def, rows_pull, pullS, ix, pull_mV, pull_mS, pull_mE]) rfl rfl (by decide) (by simp [ne_mV, ne_mS, ne_mE]) (by simp [pullI, pullS, ix, kC_pull, kV, kC, encM, kd]) ?_; rintro r Hn ⟨rfl, rfl⟩ -; skip)
                        | ((with_reducible refine callK_id (f := 13) ?_); refine callK_funW [] [16, 17] (c13) (by simp [pullHW, roC, Function.comp_def, rows_pull, pullS, ix, pull_mV, pull_mS, pull_mE]) rfl rfl (by decide) (by simp [ne_mV, ne_mS, ne_mE]) (by simp [pullI, pullS, ix, kC_pull, kV, kC, encM, kd]) ?_; rintro r Hn ⟨rfl, rfl⟩ -; skip)
                        | ((with_reducible refine callK_id (f := 14) ?_); refine callK_fun c14 rfl rfl ?_)
                        | ((with_reducible refine callK_id (f := 8) ?_); refine callK_funG (hG.at _) [10] [4, 5, 6, 7, 8, 9] cP (by simp [pullHW, roC, Function.comp_def, rows_pull, pullS, ix, prC_pull, pull_mV, pull_mS, pull_mE]) rfl rfl (by decide) (by simp [ne_mV, ne_mS, ne_mE]) (by simp [pullI, pullS, ix, frC]) ?_; rintro r Hn ⟨rfl, rfl⟩ -; skip)
                        | (with_reducible refine And.intro ?_ ?_; · omega)
                      refine loopK_key (H2 := HH x B c2 L2 ++ [.rows true 18 [frC f], .rows true 4 [rC (.slice 22 0 SS.length) 7 false gb], .rows true 4 [rC (.raw (.slice none 0 0)) 7 false gb], .rows true 19 (SS.map stC)]) (Wk.can [(19, 21, 0, 0)] [.inl 0, .inl 1, .inl 2, .inl 3, .inl 4, .inl 5, .inl 6, .inl 7, .inl 8, .inl 9, .inl 10, .inl 11, .inl 12, .inl 13, .inl 14, .inl 15, .inl 16, .inl 17, .inl 18, .inl 19, .inl 21, .inl 22, .inr 0] rfl (by simp [patL])) ?_ ?_
                      · simp [Function.comp_def, get_gcT, get, put, gcI, pullI, pullS, gcH, patL, canL, canH, canTL, canT, rows_pull, ix, segR, HH, HX, HB, HC, playC, rC, stC_pull, poC_pull, stQ_pull, fqC_pull, prC_pull, pull_mV, pull_mS, pull_mE, frC]
                      · refine key2 _ ⟨⟨?_, ?_, ?_, ?_, ?_⟩, ?_, ?_, ?_, ?_, ?_, ?_, ?_⟩ <;> (simp [Function.comp_def, get_gcT, get, put, gcI, pullI, pullS, gcH, patL, canL, canH, canTL, canT, rows_pull, ix, g1, g3, g4, g5, g7]; done)
                    | false =>
                      rw [hw1] at c12
                      cases hg : (bAnd .u8 f.s.m0 1 == 1) with
                      | true =>
                        rw [hg] at c14
                        simp only [hw1, hg, Bool.not_true, Bool.not_false, Bool.false_and, Bool.and_true, Bool.and_false, Bool.true_and] at hnb
                        subst hnb
                        repeat' first
                          | with_reducible rfl
                          | simp only [stC_push, q1, q2, z0, z1, hi1, hel, fqC, frC, encM, hfr, List.append_eq, List.length_map, Int.toNat_natCast, g1, g3, g4, g5, g7, push_mV, push_mS, push_mE, rows_push1, push_one, pull_one, kC_push, kC_pull, kC_len, eR_len, eV_len, eV_pull, eV_push, q3, q4, z2, z3, hj, hel2, prC, e2, kd, rowV_len, e4, RS_, argsTM, stepE, stBuiltin, stBox, stAlloc, stLoad, stStore, stField, stExtract, stBin, stUn, stConv, stNilCheck, stFieldV, stIndex, stIndexAddr, stLen, stMin, stMax, stBuild, fillI, stBuildSlice, setRows, stMakeSlice, stAppend, srcR, segR, rdCells, stSlice, bnd, stArr, stCopy, stConv2, isIntV, cutR, byteRows, rowByte, binStr, Option.map_some, Option.map_none, eq_self, canTL, canT, canH, canL, patL, gcH, gcT, gcI, get_gcT, pullS, pullI, pushS, push1, pushI, pullHW, roC, ix, List.map_map, Function.comp_def, List.zip_cons_cons, List.zip_nil_left, List.zip_nil_right, List.range'_zero, List.range'_succ, rd, get, put, IV.cells, ofValue, seg, spl, ldIV, binInt, eqI, cellsEq, leafEq, resI, flat, isT, upd, up1, nextM, cR, ptrC, nAl, isAl, ST_, Nat.reduceAdd, Nat.reduceMul, Nat.reduceEqDiff, Nat.reduceLeDiff, ne_eq, reduceCtorEq, reduceIte, forall_const, implies_true, Int.reduceToNat, Int.reduceLE, Int.reduceLT, bne, Int.reduceEq, Int.reduceNe, Int.reduceNeg, Int.reduceAdd, Int.reduceSub, Int.reduceMul, Int.reduceBEq, Int.reduceBNe, Nat.reduceLT, Nat.reduceSub, WLS, Tryd.underlying3, Tryd.underlying4, Tryd.underlying5, ty_ag_27, ty_ag_29, ty_ag_3, ty_ag_31, ty_ag_33, ty_ag_35, ty_ag_4, ty_ag_40, ty_ag_42, ty_ag_45, ty_ag_46, ty_ag_5, ty_ag_51, ty_ag_58, ty_ag_63, ty_ag_67, ty_ag_73, ty_ag_81, ty_ar_61, ty_by_46, ty_eg_67, ty_eg_81, ty_lv_67, ty_lv_81, ty_of_29_4, ty_of_35_0, ty_of_35_2, ty_of_42_0, ty_of_42_1, ty_of_45_0, ty_of_48_0, ty_of_48_1, ty_of_48_2, ty_of_48_3, ty_of_58_0, ty_of_58_9, ty_ok_61, ty_ok_63, ty_ok_81, ty_pl_61_0, ty_pl_61_1, ty_pl_61_2, ty_pl_61_3, ty_pl_63_0, ty_pl_63_1, ty_pl_81_0, ty_pl_81_1, ty_sl_27, ty_sl_36, ty_sl_46, ty_sl_82, ty_sr_46, ty_sz_27, ty_sz_29, ty_sz_3, ty_sz_31, ty_sz_33, ty_sz_35, ty_sz_4, ty_sz_40, ty_sz_42, ty_sz_45, ty_sz_46, ty_sz_48, ty_sz_5, ty_sz_51, ty_sz_58, ty_sz_63, ty_sz_67, ty_sz_73, ty_sz_81, ty_ze_35, ty_ze_42, ty_ze_48, ty_ze_61, ty_ze_63, ty_ze_73, ty_ze_81, ty_zs_46]
                          | (with_reducible refine drawK_id ?_); refine drawK_auto hmix (by kernel_rfl) ?_
                          | (with_reducible refine draw_fin ?_ ?_); · kernel_rfl
                          | (with_reducible refine draw_id ?_); kernel_rfl
                          | ((with_reducible refine callK_id (f := 7) ?_); refine callK_fun c7 rfl rfl ?_)
                          | ((with_reducible refine callK_id (f := 9) ?_); refine callK_fun c9 rfl rfl ?_)
                          | ((with_reducible refine callK_id (f := 10) ?_); refine callK_fun c10 rfl rfl ?_)
                          | ((with_reducible refine callD_id (f := 11) ?_); refine callD_new (Hw' := [.rows true 1 [[.ref 1]], mpV B.cv B.Lv]) (Nw := []) [] [12, 13] (FunW_eq c11) (by simp [pullHW, roC, Function.comp_def, rows_pull, pullS, ix, pull_mV, pull_mS, pull_mE]) rfl rfl (by decide) (by simp [ne_mV, ne_mS, ne_mE]) (by simp [pullI, pullS, ix, kC_pull, kV, kC, encM, frC]) (by simp) ?_)
                          | ((with_reducible refine callK_id (f := 12) ?_); refine callK_funW [] [16, 17] (c12) (by simp [pullHW, roC, Function.comp_def, rows_pull, pullS, ix, pull_mV, pull_mS, pull_mE]) rfl rfl (by decide) (by simp [ne_mV, ne_mS, ne_mE]) (by simp [pullI, pullS, ix, kC_pull, kV, kC, encM, kd]) ?_; rintro r Hn ⟨rfl, rfl⟩ -; skip)
                          | ((with_reducible refine callK_id (f := 13) ?_); refine callK_funW [] [16, 17] (c13) (by simp [pullHW, roC, Function.comp_def, rows_pull, pullS, ix, pull_mV, pull_mS, pull_mE]) rfl rfl (by decide) (by simp [ne_mV, ne_mS, ne_mE]) (by simp [pullI, pullS, ix, kC_pull, kV, kC, encM, kd]) ?_; rintro r Hn ⟨rfl, rfl⟩ -; skip)
                          | ((with_reducible refine callK_id (f := 14) ?_); refine callK_fun c14 rfl rfl ?_)
                          | ((with_reducible refine callK_id (f := 8) ?_); refine callK_funG (hG.at _) [10] [4, 5, 6, 7, 8, 9] cP (by simp [pullHW, roC, Function.comp_def, rows_pull, pullS, ix, prC_pull, pull_mV, pull_mS, pull_mE]) rfl rfl (by decide) (by simp [ne_mV, ne_mS, ne_mE]) (by simp [pullI, pullS, ix, frC]) ?_; rintro r Hn ⟨rfl, rfl⟩ -; skip)
                          | (with_reducible refine And.intro ?_ ?_; · omega)
                        refine loopK_key (H2 := HH x B c2 L2 ++ [.rows true 18 [frC f], .rows true 4 [rC (.slice 22 0 SS.length) 7 false gb], .rows true 4 [rC (.raw (.slice none 0 0)) 7 false gb], .rows true 19 (SS.map stC)]) (Wk.can [(19, 21, 0, 0)] [.inl 0, .inl 1, .inl 2, .inl 3, .inl 4, .inl 5, .inl 6, .inl 7, .inl 8, .inl 9, .inl 10, .inl 11, .inl 12, .inl 13, .inl 14, .inl 15, .inl 16, .inl 17, .inl 18, .inl 19, .inl 21, .inl 22, .inr 0] rfl (by simp [patL])) ?_ ?_
                        · simp [Function.comp_def, get_gcT, get, put, gcI, pullI, pullS, gcH, patL, canL, canH, canTL, canT, rows_pull, ix, segR, HH, HX, HB, HC, playC, rC, stC_pull, poC_pull, stQ_pull, fqC_pull, prC_pull, pull_mV, pull_mS, pull_mE, frC]
                        · refine key2 _ ⟨⟨?_, ?_, ?_, ?_, ?_⟩, ?_, ?_, ?_, ?_, ?_, ?_, ?_⟩ <;> (simp [Function.comp_def, get_gcT, get, put, gcI, pullI, pullS, gcH, patL, canL, canH, canTL, canT, rows_pull, ix, g1, g3, g4, g5, g7]; done)
                      | false =>
                        rw [hg] at c14
                        simp only [hw1, hg, Bool.not_true, Bool.not_false, Bool.false_and, Bool.and_true, Bool.and_false, Bool.true_and] at hnb
                        subst hnb
                        repeat' first
                          | with_reducible rfl
                          | simp only [stC_push, q1, q2, z0, z1, hi1, hel, fqC, frC, encM, hfr, List.append_eq, List.length_map, Int.toNat_natCast, g1, g3, g4, g5, g7, push_mV, push_mS, push_mE, rows_push1, push_one, pull_one, kC_push, kC_pull, kC_len, eR_len, eV_len, eV_pull, eV_push, q3, q4, z2, z3, hj, hel2, prC, e2, kd, rowV_len, e4, RS_, argsTM, stepE, stBuiltin, stBox, stAlloc, stLoad, stStore, stField, stExtract, stBin, stUn, stConv, stNilCheck, stFieldV, stIndex, stIndexAddr, stLen, stMin, stMax, stBuild, fillI, stBuildSlice, setRows, stMakeSlice, stAppend, srcR, segR, rdCells, stSlice, bnd, stArr, stCopy, stConv2, isIntV, cutR, byteRows, rowByte, binStr, Option.map_some, Option.map_none, eq_self, canTL, canT, canH, canL, patL, gcH, gcT, gcI, get_gcT, pullS, pullI, pushS, push1, pushI, pullHW, roC, ix, List.map_map, Function.comp_def, List.zip_cons_cons, List.zip_nil_left, List.zip_nil_right, List.range'_zero, List.range'_succ, rd, get, put, IV.cells, ofValue, seg, spl, ldIV, binInt, eqI, cellsEq, leafEq, resI, flat, isT, upd, up1, nextM, cR, ptrC, nAl, isAl, ST_, Nat.reduceAdd, Nat.reduceMul, Nat.reduceEqDiff, Nat.reduceLeDiff, ne_eq, reduceCtorEq, reduceIte, forall_const, implies_true, Int.reduceToNat, Int.reduceLE, Int.reduceLT, bne, Int.reduceEq, Int.reduceNe, Int.reduceNeg, Int.reduceAdd, Int.reduceSub, Int.reduceMul, Int.reduceBEq, Int.reduceBNe, Nat.reduceLT, Nat.reduceSub, WLS, Tryd.underlying3, Tryd.underlying4, Tryd.underlying5, ty_ag_27, ty_ag_29, ty_ag_3, ty_ag_31, ty_ag_33, ty_ag_35, ty_ag_4, ty_ag_40, ty_ag_42, ty_ag_45, ty_ag_46, ty_ag_5, ty_ag_51, ty_ag_58, ty_ag_63, ty_ag_67, ty_ag_73, ty_ag_81, ty_ar_61, ty_by_46, ty_eg_67, ty_eg_81, ty_lv_67, ty_lv_81, ty_of_29_4, ty_of_35_0, ty_of_35_2, ty_of_42_0, ty_of_42_1, ty_of_45_0, ty_of_48_0, ty_of_48_1, ty_of_48_2, ty_of_48_3, ty_of_58_0, ty_of_58_9, ty_ok_61, ty_ok_63, ty_ok_81, ty_pl_61_0, ty_pl_61_1, ty_pl_61_2, ty_pl_61_3, ty_pl_63_0, ty_pl_63_1, ty_pl_81_0, ty_pl_81_1, ty_sl_27, ty_sl_36, ty_sl_46, ty_sl_82, ty_sr_46, ty_sz_27, ty_sz_29, ty_sz_3, ty_sz_31, ty_sz_33, ty_sz_35, ty_sz_4, ty_sz_40, ty_sz_42, ty_sz_45, ty_sz_46, ty_sz_48, ty_sz_5, ty_sz_51, ty_sz_58, ty_sz_63, ty_sz_67, ty_sz_73, ty_sz_81, ty_ze_35, ty_ze_42, ty_ze_48, ty_ze_61, ty_ze_63, ty_ze_73, ty_ze_81, ty_zs_46]
                          | (with_reducible refine drawK_id ?_); refine drawK_auto hmix (by kernel_rfl) ?_
                          | (with_reducible refine draw_fin ?_ ?_); · kernel_rfl
                          | (with_reducible refine draw_id ?_); kernel_rfl
                          | ((with_reducible refine callK_id (f := 7) ?_); refine callK_fun c7 rfl rfl ?_)
                          | ((with_reducible refine callK_id (f := 9) ?_); refine callK_fun c9 rfl rfl ?_)
                          | ((with_reducible refine callK_id (f := 10) ?_); refine callK_fun c10 rfl rfl ?_)
                          | ((with_reducible refine callD_id (f := 11) ?_); refine callD_new (Hw' := [.rows true 1 [[.ref 1]], mpV B.cv B.Lv]) (Nw := []) [] [12, 13] (FunW_eq c11) (by simp [pullHW, roC, Function.comp_def, rows_pull, pullS, ix, pull_mV, pull_mS, pull_mE]) rfl rfl (by decide) (by simp [ne_mV, ne_mS, ne_mE]) (by simp [pullI, pullS, ix, kC_pull, kV, kC, encM, frC]) (by simp) ?_)
                          | ((with_reducible refine callK_id (f := 12) ?_); refine callK_funW [] [16, 17] (c12) (by simp [pullHW, roC, Function.comp_def, rows_pull, pullS, ix, pull_mV, pull_mS, pull_mE]) rfl rfl (by decide) (by simp [ne_mV, ne_mS, ne_mE]) (by simp [pullI, pullS, ix, kC_pull, kV, kC, encM, kd]) ?_; rintro r Hn ⟨rfl, rfl⟩ -; skip)
                          | ((with_reducible refine callK_id (f := 13) ?_); refine callK_funW [] [16, 17] (c13) (by simp [pullHW, roC, Function.comp_def, rows_pull, pullS, ix, pull_mV, pull_mS, pull_mE]) rfl rfl (by decide) (by simp [ne_mV, ne_mS, ne_mE]) (by simp [pullI, pullS, ix, kC_pull, kV, kC, encM, kd]) ?_; rintro r Hn ⟨rfl, rfl⟩ -; skip)
                          | ((with_reducible refine callK_id (f := 14) ?_); refine callK_fun c14 rfl rfl ?_)
                          | ((with_reducible refine callK_id (f := 8) ?_); refine callK_funG (hG.at _) [10] [4, 5, 6, 7, 8, 9] cP (by simp [pullHW, roC, Function.comp_def, rows_pull, pullS, ix, prC_pull, pull_mV, pull_mS, pull_mE]) rfl rfl (by decide) (by simp [ne_mV, ne_mS, ne_mE]) (by simp [pullI, pullS, ix, frC]) ?_; rintro r Hn ⟨rfl, rfl⟩ -; skip)
                          | (with_reducible refine And.intro ?_ ?_; · omega)
                        refine loopK_key (H2 := HH x B c2 L2 ++ [.rows true 18 [frC f], .rows true 4 [rC (.slice 22 0 SS.length) 7 true gb], .rows true 4 [rC (.raw (.slice none 0 0)) 7 true gb], .rows true 19 (SS.map stC)]) (Wk.can [(19, 21, 0, 0)] [.inl 0, .inl 1, .inl 2, .inl 3, .inl 4, .inl 5, .inl 6, .inl 7, .inl 8, .inl 9, .inl 10, .inl 11, .inl 12, .inl 13, .inl 14, .inl 15, .inl 16, .inl 17, .inl 18, .inl 19, .inl 21, .inl 22, .inr 0] rfl (by simp [patL])) ?_ ?_
                        · simp [Function.comp_def, get_gcT, get, put, gcI, pullI, pullS, gcH, patL, canL, canH, canTL, canT, rows_pull, ix, segR, HH, HX, HB, HC, playC, rC, stC_pull, poC_pull, stQ_pull, fqC_pull, prC_pull, pull_mV, pull_mS, pull_mE, frC]
                        · refine key2 _ ⟨⟨?_, ?_, ?_, ?_, ?_⟩, ?_, ?_, ?_, ?_, ?_, ?_, ?_⟩ <;> (simp [Function.comp_def, get_gcT, get, put, gcI, pullI, pullS, gcH, patL, canL, canH, canTL, canT, rows_pull, ix, g1, g3, g4, g5, g7]; done)
                  case key2 =>
                    intro tm hk
                    obtain ⟨⟨g1, g3, g4, g5, g7⟩, g8, g9, g10, g11, g12, g17, g18⟩ := hk
                    refine loopK_wk (by kernel_rfl) (IO2 x B i c2 L2 f fr vid SS 7 nb gb 7 nb gb) B.L.length ⟨_, _, Wk.refl, 0, 0, by omega, by omega, rfl, g1, g3, g4, g5, g7, g8, g9, g10, g11, g12, g17, g18, rfl⟩ ?_
                    clear g1 g3 g4 g5 g7 g8 g9 g10 g11 g12 g17 g18
                    rintro mm tm H ⟨k, s, rfl, hk, hs, g1, g3, g4, g5, g7, g8, g9, g10, g11, g12, g17, g18, rfl⟩
                    unfold HH HX HB HC playC rC
                    simp only [List.cons_append, List.nil_append]
                    by_cases hkl : k < B.L.length
                    · have q5 : decide ((k : Int) < (B.L.length : Int)) = true := decide_eq_true (by omega)
                      have z4 : (0 : Int) ≤ (k : Int) := by omega
                      have z5 : (k : Int) < (B.L.length : Int) := by omega
                      have hk1 : IntKind.i64.wrap ((k : Int) + 1) = ((k + 1 : Nat) : Int) := by rw [wr_i64 (by omega) (by omega)]; rfl
                      obtain ⟨y2, hy3⟩ : ∃ y2, B.L[k]? = some y2 := ⟨_, List.getElem?_eq_getElem hkl⟩
                      have hel4 : (B.L.map prC)[k]? = some (prC y2) := by rw [List.getElem?_map, hy3]; rfl
                      rw [openN_at B.L k s y2 hy3] at hs
                      have c9' := onW y2
                      cases e5 : onP y2 with
                      | true =>
                        rw [e5] at c9' hs
                        cases e6 : (y2.st == 2) with
                        | true =>
                          simp only [e6, Bool.and_self, if_true] at hs
                          repeat' first
                            | with_reducible rfl
                            | simp only [q5, z4, z5, hk1, hel4, prC, List.append_eq, List.length_map, Int.toNat_natCast, e6, g1, g3, g4, g5, g7, g8, g9, g10, g11, g12, g17, g18, RS_, argsTM, stepE, stBuiltin, stBox, stAlloc, stLoad, stStore, stField, stExtract, stBin, stUn, stConv, stNilCheck, stFieldV, stIndex, stIndexAddr, stLen, stMin, stMax, stBuild, fillI, stBuildSlice, setRows, stMakeSlice, stAppend, srcR, segR, rdCells, stSlice, bnd, stArr, stCopy, stConv2, isIntV, cutR, byteRows, rowByte, binStr, Option.map_some, Option.map_none, eq_self, canTL, canT, canH, canL, patL, gcH, gcT, gcI, get_gcT, pullS, pullI, pushS, push1, pushI, pullHW, roC, ix, List.map_map, Function.comp_def, List.zip_cons_cons, List.zip_nil_left, List.zip_nil_right, List.range'_zero, List.range'_succ, rd, get, put, IV.cells, ofValue, seg, spl, ldIV, binInt, eqI, cellsEq, leafEq, resI, flat, isT, upd, up1, nextM, cR, ptrC, nAl, isAl, ST_, Nat.reduceAdd, Nat.reduceMul, Nat.reduceEqDiff, Nat.reduceLeDiff, ne_eq, reduceCtorEq, reduceIte, forall_const, implies_true, Int.reduceToNat, Int.reduceLE, Int.reduceLT, bne, Int.reduceEq, Int.reduceNe, Int.reduceNeg, Int.reduceAdd, Int.reduceSub, Int.reduceMul, Int.reduceBEq, Int.reduceBNe, Nat.reduceLT, Nat.reduceSub, WLS, Tryd.underlying3, Tryd.underlying4, Tryd.underlying5, ty_ag_27, ty_ag_29, ty_ag_3, ty_ag_31, ty_ag_33, ty_ag_35, ty_ag_4, ty_ag_40, ty_ag_42, ty_ag_45, ty_ag_46, ty_ag_5, ty_ag_51, ty_ag_58, ty_ag_63, ty_ag_67, ty_ag_73, ty_ag_81, ty_ar_61, ty_by_46, ty_eg_67, ty_eg_81, ty_lv_67, ty_lv_81, ty_of_29_4, ty_of_35_0, ty_of_35_2, ty_of_42_0, ty_of_42_1, ty_of_45_0, ty_of_48_0, ty_of_48_1, ty_of_48_2, ty_of_48_3, ty_of_58_0, ty_of_58_9, ty_ok_61, ty_ok_63, ty_ok_81, ty_pl_61_0, ty_pl_61_1, ty_pl_61_2, ty_pl_61_3, ty_pl_63_0, ty_pl_63_1, ty_pl_81_0, ty_pl_81_1, ty_sl_27, ty_sl_36, ty_sl_46, ty_sl_82, ty_sr_46, ty_sz_27, ty_sz_29, ty_sz_3, ty_sz_31, ty_sz_33, ty_sz_35, ty_sz_4, ty_sz_40, ty_sz_42, ty_sz_45, ty_sz_46, ty_sz_48, ty_sz_5, ty_sz_51, ty_sz_58, ty_sz_63, ty_sz_67, ty_sz_73, ty_sz_81, ty_ze_35, ty_ze_42, ty_ze_48, ty_ze_61, ty_ze_63, ty_ze_73, ty_ze_81, ty_zs_46]
                            | (with_reducible refine drawK_id ?_); refine drawK_auto hmix (by kernel_rfl) ?_
                            | (with_reducible refine draw_fin ?_ ?_); · kernel_rfl
                            | (with_reducible refine draw_id ?_); kernel_rfl
                            | ((with_reducible refine callK_id (f := 9) ?_); refine callK_fun c9' rfl rfl ?_)
                            | ((with_reducible refine callK_id (f := 15) ?_); refine callK_fun (f52 _ _) rfl rfl ?_)
                            | (with_reducible refine And.intro ?_ ?_; · omega)
                          refine ⟨B.L.length - (k + 1), _, _, by omega, Wk.gc [0, 1, 2, 3, 4, 5, 6, 7, 8, 9, 10, 11, 12, 13, 14, 15, 16, 17, 18, 19, 20, 21, 22] rfl (by decide), k + 1, _, rfl, by omega, hs, ?_, ?_, ?_, ?_, ?_, ?_, ?_, ?_, ?_, ?_, ?_, ?_, ?_⟩
                          · simp [Function.comp_def, get_gcT, get, put, gcI, pullI, pullS, gcH, patL, canL, canH, canTL, canT, rows_pull, ix, g1, g3, g4, g5, g7, g8, g9, g10, g11, g12, g17, g18]
                          · simp [Function.comp_def, get_gcT, get, put, gcI, pullI, pullS, gcH, patL, canL, canH, canTL, canT, rows_pull, ix, g1, g3, g4, g5, g7, g8, g9, g10, g11, g12, g17, g18]
                          · simp [Function.comp_def, get_gcT, get, put, gcI, pullI, pullS, gcH, patL, canL, canH, canTL, canT, rows_pull, ix, g1, g3, g4, g5, g7, g8, g9, g10, g11, g12, g17, g18]
                          · simp [Function.comp_def, get_gcT, get, put, gcI, pullI, pullS, gcH, patL, canL, canH, canTL, canT, rows_pull, ix, g1, g3, g4, g5, g7, g8, g9, g10, g11, g12, g17, g18]
                          · simp [Function.comp_def, get_gcT, get, put, gcI, pullI, pullS, gcH, patL, canL, canH, canTL, canT, rows_pull, ix, g1, g3, g4, g5, g7, g8, g9, g10, g11, g12, g17, g18]
                          · simp [Function.comp_def, get_gcT, get, put, gcI, pullI, pullS, gcH, patL, canL, canH, canTL, canT, rows_pull, ix, g1, g3, g4, g5, g7, g8, g9, g10, g11, g12, g17, g18]
                          · simp [Function.comp_def, get_gcT, get, put, gcI, pullI, pullS, gcH, patL, canL, canH, canTL, canT, rows_pull, ix, g1, g3, g4, g5, g7, g8, g9, g10, g11, g12, g17, g18]
                          · simp [Function.comp_def, get_gcT, get, put, gcI, pullI, pullS, gcH, patL, canL, canH, canTL, canT, rows_pull, ix, g1, g3, g4, g5, g7, g8, g9, g10, g11, g12, g17, g18]
                          · simp [Function.comp_def, get_gcT, get, put, gcI, pullI, pullS, gcH, patL, canL, canH, canTL, canT, rows_pull, ix, g1, g3, g4, g5, g7, g8, g9, g10, g11, g12, g17, g18]
                          · simp [Function.comp_def, get_gcT, get, put, gcI, pullI, pullS, gcH, patL, canL, canH, canTL, canT, rows_pull, ix, g1, g3, g4, g5, g7, g8, g9, g10, g11, g12, g17, g18]
                          · simp [Function.comp_def, get_gcT, get, put, gcI, pullI, pullS, gcH, patL, canL, canH, canTL, canT, rows_pull, ix, g1, g3, g4, g5, g7, g8, g9, g10, g11, g12, g17, g18]
                          · simp [Function.comp_def, get_gcT, get, put, gcI, pullI, pullS, gcH, patL, canL, canH, canTL, canT, rows_pull, ix, g1, g3, g4, g5, g7, g8, g9, g10, g11, g12, g17, g18]
                          · simp [Function.comp_def, get_gcT, get, put, gcI, pullI, pullS, gcH, patL, canL, canH, canTL, canT, rows_pull, ix, HH, HX, HB, HC, playC, rC, stC_pull, poC_pull, stQ_pull, fqC_pull, prC_pull, pull_mV, pull_mS, pull_mE, frC]
                        | false =>
                          simp only [e6, Bool.and_false, Bool.false_eq_true, if_false] at hs
                          repeat' first
                            | with_reducible rfl
                            | simp only [q5, z4, z5, hk1, hel4, prC, List.append_eq, List.length_map, Int.toNat_natCast, e6, g1, g3, g4, g5, g7, g8, g9, g10, g11, g12, g17, g18, RS_, argsTM, stepE, stBuiltin, stBox, stAlloc, stLoad, stStore, stField, stExtract, stBin, stUn, stConv, stNilCheck, stFieldV, stIndex, stIndexAddr, stLen, stMin, stMax, stBuild, fillI, stBuildSlice, setRows, stMakeSlice, stAppend, srcR, segR, rdCells, stSlice, bnd, stArr, stCopy, stConv2, isIntV, cutR, byteRows, rowByte, binStr, Option.map_some, Option.map_none, eq_self, canTL, canT, canH, canL, patL, gcH, gcT, gcI, get_gcT, pullS, pullI, pushS, push1, pushI, pullHW, roC, ix, List.map_map, Function.comp_def, List.zip_cons_cons, List.zip_nil_left, List.zip_nil_right, List.range'_zero, List.range'_succ, rd, get, put, IV.cells, ofValue, seg, spl, ldIV, binInt, eqI, cellsEq, leafEq, resI, flat, isT, upd, up1, nextM, cR, ptrC, nAl, isAl, ST_, Nat.reduceAdd, Nat.reduceMul, Nat.reduceEqDiff, Nat.reduceLeDiff, ne_eq, reduceCtorEq, reduceIte, forall_const, implies_true, Int.reduceToNat, Int.reduceLE, Int.reduceLT, bne, Int.reduceEq, Int.reduceNe, Int.reduceNeg, Int.reduceAdd, Int.reduceSub, Int.reduceMul, Int.reduceBEq, Int.reduceBNe, Nat.reduceLT, Nat.reduceSub, WLS, Tryd.underlying3, Tryd.underlying4, Tryd.underlying5, ty_ag_27, ty_ag_29, ty_ag_3, ty_ag_31, ty_ag_33, ty_ag_35, ty_ag_4, ty_ag_40, ty_ag_42, ty_ag_45, ty_ag_46, ty_ag_5, ty_ag_51, ty_ag_58, ty_ag_63, ty_ag_67, ty_ag_73, ty_ag_81, ty_ar_61, ty_by_46, ty_eg_67, ty_eg_81, ty_lv_67, ty_lv_81, ty_of_29_4, ty_of_35_0, ty_of_35_2, ty_of_42_0, ty_of_42_1, ty_of_45_0, ty_of_48_0, ty_of_48_1, ty_of_48_2, ty_of_48_3, ty_of_58_0, ty_of_58_9, ty_ok_61, ty_ok_63, ty_ok_81, ty_pl_61_0, ty_pl_61_1, ty_pl_61_2, ty_pl_61_3, ty_pl_63_0, ty_pl_63_1, ty_pl_81_0, ty_pl_81_1, ty_sl_27, ty_sl_36, ty_sl_46, ty_sl_82, ty_sr_46, ty_sz_27, ty_sz_29, ty_sz_3, ty_sz_31, ty_sz_33, ty_sz_35, ty_sz_4, ty_sz_40, ty_sz_42, ty_sz_45, ty_sz_46, ty_sz_48, ty_sz_5, ty_sz_51, ty_sz_58, ty_sz_63, ty_sz_67, ty_sz_73, ty_sz_81, ty_ze_35, ty_ze_42, ty_ze_48, ty_ze_61, ty_ze_63, ty_ze_73, ty_ze_81, ty_zs_46]
                            | (with_reducible refine drawK_id ?_); refine drawK_auto hmix (by kernel_rfl) ?_
                            | (with_reducible refine draw_fin ?_ ?_); · kernel_rfl
                            | (with_reducible refine draw_id ?_); kernel_rfl
                            | ((with_reducible refine callK_id (f := 9) ?_); refine callK_fun c9' rfl rfl ?_)
                            | ((with_reducible refine callK_id (f := 15) ?_); refine callK_fun (f52 _ _) rfl rfl ?_)
                            | (with_reducible refine And.intro ?_ ?_; · omega)
                          refine ⟨B.L.length - (k + 1), _, _, by omega, Wk.gc [0, 1, 2, 3, 4, 5, 6, 7, 8, 9, 10, 11, 12, 13, 14, 15, 16, 17, 18, 19, 20, 21, 22] rfl (by decide), k + 1, _, rfl, by omega, hs, ?_, ?_, ?_, ?_, ?_, ?_, ?_, ?_, ?_, ?_, ?_, ?_, ?_⟩
                          · simp [Function.comp_def, get_gcT, get, put, gcI, pullI, pullS, gcH, patL, canL, canH, canTL, canT, rows_pull, ix, g1, g3, g4, g5, g7, g8, g9, g10, g11, g12, g17, g18]
                          · simp [Function.comp_def, get_gcT, get, put, gcI, pullI, pullS, gcH, patL, canL, canH, canTL, canT, rows_pull, ix, g1, g3, g4, g5, g7, g8, g9, g10, g11, g12, g17, g18]
                          · simp [Function.comp_def, get_gcT, get, put, gcI, pullI, pullS, gcH, patL, canL, canH, canTL, canT, rows_pull, ix, g1, g3, g4, g5, g7, g8, g9, g10, g11, g12, g17, g18]
                          · simp [Function.comp_def, get_gcT, get, put, gcI, pullI, pullS, gcH, patL, canL, canH, canTL, canT, rows_pull, ix, g1, g3, g4, g5, g7, g8, g9, g10, g11, g12, g17, g18]
                          · simp [Function.comp_def, get_gcT, get, put, gcI, pullI, pullS, gcH, patL, canL, canH, canTL, canT, rows_pull, ix, g1, g3, g4, g5, g7, g8, g9, g10, g11, g12, g17, g18]
                          · simp [Function.comp_def, get_gcT, get, put, gcI, pullI, pullS, gcH, patL, canL, canH, canTL, canT, rows_pull, ix, g1, g3, g4, g5, g7, g8, g9, g10, g11, g12, g17, g18]
                          · simp [Function.comp_def, get_gcT, get, put, gcI, pullI, pullS, gcH, patL, canL, canH, canTL, canT, rows_pull, ix, g1, g3, g4, g5, g7, g8, g9, g10, g11, g12, g17, g18]
                          · simp [Function.comp_def, get_gcT, get, put, gcI, pullI, pullS, gcH, patL, canL, canH, canTL, canT, rows_pull, ix, g1, g3, g4, g5, g7, g8, g9, g10, g11, g12, g17, g18]
                          · simp [Function.comp_def, get_gcT, get, put, gcI, pullI, pullS, gcH, patL, canL, canH, canTL, canT, rows_pull, ix, g1, g3, g4, g5, g7, g8, g9, g10, g11, g12, g17, g18]
                          · simp [Function.comp_def, get_gcT, get, put, gcI, pullI, pullS, gcH, patL, canL, canH, canTL, canT, rows_pull, ix, g1, g3, g4, g5, g7, g8, g9, g10, g11, g12, g17, g18]
                          · simp [Function.comp_def, get_gcT, get, put, gcI, pullI, pullS, gcH, patL, canL, canH, canTL, canT, rows_pull, ix, g1, g3, g4, g5, g7, g8, g9, g10, g11, g12, g17, g18]
                          · simp [Function.comp_def, get_gcT, get, put, gcI, pullI, pullS, gcH, patL, canL, canH, canTL, canT, rows_pull, ix, g1, g3, g4, g5, g7, g8, g9, g10, g11, g12, g17, g18]
                          · simp [Function.comp_def, get_gcT, get, put, gcI, pullI, pullS, gcH, patL, canL, canH, canTL, canT, rows_pull, ix, HH, HX, HB, HC, playC, rC, stC_pull, poC_pull, stQ_pull, fqC_pull, prC_pull, pull_mV, pull_mS, pull_mE, frC]
                      | false =>
                        rw [e5] at c9' hs
                        simp only [Bool.false_and, Bool.false_eq_true, if_false] at hs
                        repeat' first
                          | with_reducible rfl
                          | simp only [q5, z4, z5, hk1, hel4, prC, List.append_eq, List.length_map, Int.toNat_natCast, e5, g1, g3, g4, g5, g7, g8, g9, g10, g11, g12, g17, g18, RS_, argsTM, stepE, stBuiltin, stBox, stAlloc, stLoad, stStore, stField, stExtract, stBin, stUn, stConv, stNilCheck, stFieldV, stIndex, stIndexAddr, stLen, stMin, stMax, stBuild, fillI, stBuildSlice, setRows, stMakeSlice, stAppend, srcR, segR, rdCells, stSlice, bnd, stArr, stCopy, stConv2, isIntV, cutR, byteRows, rowByte, binStr, Option.map_some, Option.map_none, eq_self, canTL, canT, canH, canL, patL, gcH, gcT, gcI, get_gcT, pullS, pullI, pushS, push1, pushI, pullHW, roC, ix, List.map_map, Function.comp_def, List.zip_cons_cons, List.zip_nil_left, List.zip_nil_right, List.range'_zero, List.range'_succ, rd, get, put, IV.cells, ofValue, seg, spl, ldIV, binInt, eqI, cellsEq, leafEq, resI, flat, isT, upd, up1, nextM, cR, ptrC, nAl, isAl, ST_, Nat.reduceAdd, Nat.reduceMul, Nat.reduceEqDiff, Nat.reduceLeDiff, ne_eq, reduceCtorEq, reduceIte, forall_const, implies_true, Int.reduceToNat, Int.reduceLE, Int.reduceLT, bne, Int.reduceEq, Int.reduceNe, Int.reduceNeg, Int.reduceAdd, Int.reduceSub, Int.reduceMul, Int.reduceBEq, Int.reduceBNe, Nat.reduceLT, Nat.reduceSub, WLS, Tryd.underlying3, Tryd.underlying4, Tryd.underlying5, ty_ag_27, ty_ag_29, ty_ag_3, ty_ag_31, ty_ag_33, ty_ag_35, ty_ag_4, ty_ag_40, ty_ag_42, ty_ag_45, ty_ag_46, ty_ag_5, ty_ag_51, ty_ag_58, ty_ag_63, ty_ag_67, ty_ag_73, ty_ag_81, ty_ar_61, ty_by_46, ty_eg_67, ty_eg_81, ty_lv_67, ty_lv_81, ty_of_29_4, ty_of_35_0, ty_of_35_2, ty_of_42_0, ty_of_42_1, ty_of_45_0, ty_of_48_0, ty_of_48_1, ty_of_48_2, ty_of_48_3, ty_of_58_0, ty_of_58_9, ty_ok_61, ty_ok_63, ty_ok_81, ty_pl_61_0, ty_pl_61_1, ty_pl_61_2, ty_pl_61_3, ty_pl_63_0, ty_pl_63_1, ty_pl_81_0, ty_pl_81_1, ty_sl_27, ty_sl_36, ty_sl_46, ty_sl_82, ty_sr_46, ty_sz_27, ty_sz_29, ty_sz_3, ty_sz_31, ty_sz_33, ty_sz_35, ty_sz_4, ty_sz_40, ty_sz_42, ty_sz_45, ty_sz_46, ty_sz_48, ty_sz_5, ty_sz_51, ty_sz_58, ty_sz_63, ty_sz_67, ty_sz_73, ty_sz_81, ty_ze_35, ty_ze_42, ty_ze_48, ty_ze_61, ty_ze_63, ty_ze_73, ty_ze_81, ty_zs_46]
                          | (with_reducible refine drawK_id ?_); refine drawK_auto hmix (by kernel_rfl) ?_
                          | (with_reducible refine draw_fin ?_ ?_); · kernel_rfl
                          | (with_reducible refine draw_id ?_); kernel_rfl
                          | ((with_reducible refine callK_id (f := 9) ?_); refine callK_fun c9' rfl rfl ?_)
                          | ((with_reducible refine callK_id (f := 15) ?_); refine callK_fun (f52 _ _) rfl rfl ?_)
                          | (with_reducible refine And.intro ?_ ?_; · omega)
                        refine ⟨B.L.length - (k + 1), _, _, by omega, Wk.gc [0, 1, 2, 3, 4, 5, 6, 7, 8, 9, 10, 11, 12, 13, 14, 15, 16, 17, 18, 19, 20, 21, 22] rfl (by decide), k + 1, _, rfl, by omega, hs, ?_, ?_, ?_, ?_, ?_, ?_, ?_, ?_, ?_, ?_, ?_, ?_, ?_⟩
                        · simp [Function.comp_def, get_gcT, get, put, gcI, pullI, pullS, gcH, patL, canL, canH, canTL, canT, rows_pull, ix, g1, g3, g4, g5, g7, g8, g9, g10, g11, g12, g17, g18]
                        · simp [Function.comp_def, get_gcT, get, put, gcI, pullI, pullS, gcH, patL, canL, canH, canTL, canT, rows_pull, ix, g1, g3, g4, g5, g7, g8, g9, g10, g11, g12, g17, g18]
                        · simp [Function.comp_def, get_gcT, get, put, gcI, pullI, pullS, gcH, patL, canL, canH, canTL, canT, rows_pull, ix, g1, g3, g4, g5, g7, g8, g9, g10, g11, g12, g17, g18]
                        · simp [Function.comp_def, get_gcT, get, put, gcI, pullI, pullS, gcH, patL, canL, canH, canTL, canT, rows_pull, ix, g1, g3, g4, g5, g7, g8, g9, g10, g11, g12, g17, g18]
                        · simp [Function.comp_def, get_gcT, get, put, gcI, pullI, pullS, gcH, patL, canL, canH, canTL, canT, rows_pull, ix, g1, g3, g4, g5, g7, g8, g9, g10, g11, g12, g17, g18]
                        · simp [Function.comp_def, get_gcT, get, put, gcI, pullI, pullS, gcH, patL, canL, canH, canTL, canT, rows_pull, ix, g1, g3, g4, g5, g7, g8, g9, g10, g11, g12, g17, g18]
                        · simp [Function.comp_def, get_gcT, get, put, gcI, pullI, pullS, gcH, patL, canL, canH, canTL, canT, rows_pull, ix, g1, g3, g4, g5, g7, g8, g9, g10, g11, g12, g17, g18]
                        · simp [Function.comp_def, get_gcT, get, put, gcI, pullI, pullS, gcH, patL, canL, canH, canTL, canT, rows_pull, ix, g1, g3, g4, g5, g7, g8, g9, g10, g11, g12, g17, g18]
                        · simp [Function.comp_def, get_gcT, get, put, gcI, pullI, pullS, gcH, patL, canL, canH, canTL, canT, rows_pull, ix, g1, g3, g4, g5, g7, g8, g9, g10, g11, g12, g17, g18]
                        · simp [Function.comp_def, get_gcT, get, put, gcI, pullI, pullS, gcH, patL, canL, canH, canTL, canT, rows_pull, ix, g1, g3, g4, g5, g7, g8, g9, g10, g11, g12, g17, g18]
                        · simp [Function.comp_def, get_gcT, get, put, gcI, pullI, pullS, gcH, patL, canL, canH, canTL, canT, rows_pull, ix, g1, g3, g4, g5, g7, g8, g9, g10, g11, g12, g17, g18]
                        · simp [Function.comp_def, get_gcT, get, put, gcI, pullI, pullS, gcH, patL, canL, canH, canTL, canT, rows_pull, ix, g1, g3, g4, g5, g7, g8, g9, g10, g11, g12, g17, g18]
                        · simp [Function.comp_def, get_gcT, get, put, gcI, pullI, pullS, gcH, patL, canL, canH, canTL, canT, rows_pull, ix, HH, HX, HB, HC, playC, rC, stC_pull, poC_pull, stQ_pull, fqC_pull, prC_pull, pull_mV, pull_mS, pull_mE, frC]
                    · have q5 : decide ((k : Int) < (B.L.length : Int)) = false := decide_eq_false (by omega)
                      have hkl2 : k = B.L.length := by omega
                      subst hkl2
                      have hs2 : s = openC B.L := by rw [← hs, List.drop_length]; rfl
                      rw [hs2] at g17
                      repeat' first
                        | with_reducible rfl
                        | simp only [q5, kV, encM, frC, List.append_eq, List.length_map, Int.toNat_natCast, g1, g3, g4, g5, g7, g8, g9, g10, g11, g12, g17, g18, push_mV, push_mS, push_mE, rows_push1, push_one, pull_one, kC_push, kC_pull, kC_len, eR_len, eV_len, eV_pull, eV_push, RS_, argsTM, stepE, stBuiltin, stBox, stAlloc, stLoad, stStore, stField, stExtract, stBin, stUn, stConv, stNilCheck, stFieldV, stIndex, stIndexAddr, stLen, stMin, stMax, stBuild, fillI, stBuildSlice, setRows, stMakeSlice, stAppend, srcR, segR, rdCells, stSlice, bnd, stArr, stCopy, stConv2, isIntV, cutR, byteRows, rowByte, binStr, Option.map_some, Option.map_none, eq_self, canTL, canT, canH, canL, patL, gcH, gcT, gcI, get_gcT, pullS, pullI, pushS, push1, pushI, pullHW, roC, ix, List.map_map, Function.comp_def, List.zip_cons_cons, List.zip_nil_left, List.zip_nil_right, List.range'_zero, List.range'_succ, rd, get, put, IV.cells, ofValue, seg, spl, ldIV, binInt, eqI, cellsEq, leafEq, resI, flat, isT, upd, up1, nextM, cR, ptrC, nAl, isAl, ST_, Nat.reduceAdd, Nat.reduceMul, Nat.reduceEqDiff, Nat.reduceLeDiff, ne_eq, reduceCtorEq, reduceIte, forall_const, implies_true, Int.reduceToNat, Int.reduceLE, Int.reduceLT, bne, Int.reduceEq, Int.reduceNe, Int.reduceNeg, Int.reduceAdd, Int.reduceSub, Int.reduceMul, Int.reduceBEq, Int.reduceBNe, Nat.reduceLT, Nat.reduceSub, WLS, Tryd.underlying3, Tryd.underlying4, Tryd.underlying5, ty_ag_27, ty_ag_29, ty_ag_3, ty_ag_31, ty_ag_33, ty_ag_35, ty_ag_4, ty_ag_40, ty_ag_42, ty_ag_45, ty_ag_46, ty_ag_5, ty_ag_51, ty_ag_58, ty_ag_63, ty_ag_67, ty_ag_73, ty_ag_81, ty_ar_61, ty_by_46, ty_eg_67, ty_eg_81, ty_lv_67, ty_lv_81, ty_of_29_4, ty_of_35_0, ty_of_35_2, ty_of_42_0, ty_of_42_1, ty_of_45_0, ty_of_48_0, ty_of_48_1, ty_of_48_2, ty_of_48_3, ty_of_58_0, ty_of_58_9, ty_ok_61, ty_ok_63, ty_ok_81, ty_pl_61_0, ty_pl_61_1, ty_pl_61_2, ty_pl_61_3, ty_pl_63_0, ty_pl_63_1, ty_pl_81_0, ty_pl_81_1, ty_sl_27, ty_sl_36, ty_sl_46, ty_sl_82, ty_sr_46, ty_sz_27, ty_sz_29, ty_sz_3, ty_sz_31, ty_sz_33, ty_sz_35, ty_sz_4, ty_sz_40, ty_sz_42, ty_sz_45, ty_sz_46, ty_sz_48, ty_sz_5, ty_sz_51, ty_sz_58, ty_sz_63, ty_sz_67, ty_sz_73, ty_sz_81, ty_ze_35, ty_ze_42, ty_ze_48, ty_ze_61, ty_ze_63, ty_ze_73, ty_ze_81, ty_zs_46]
                        | (with_reducible refine drawK_id ?_); refine drawK_auto hmix (by kernel_rfl) ?_
                        | (with_reducible refine draw_fin ?_ ?_); · kernel_rfl
                        | (with_reducible refine draw_id ?_); kernel_rfl
                        | ((with_reducible refine callK_id (f := 16) ?_); refine callK_funW [] [12, 13] (c16) (by simp [pullHW, roC, Function.comp_def, rows_pull, pullS, ix, pull_mV, pull_mS, pull_mE]) rfl rfl (by decide) (by simp [ne_mV, ne_mS, ne_mE]) (by simp [pullI, pullS, ix, kC_pull, kV, kC, encM]) ?_; rintro r Hn ⟨rfl, rfl⟩ -; skip)
                        | ((with_reducible refine callK_id (f := 17) ?_); refine callK_funW [] [12, 13, 14, 15, 16, 17] (c17) (by simp [pullHW, roC, Function.comp_def, rows_pull, pullS, ix, pull_mV, pull_mS, pull_mE]) rfl rfl (by decide) (by simp [ne_mV, ne_mS, ne_mE]) (by simp [pullI, pullS, ix, kC_pull, kV, kC, encM]) ?_; rintro r Hn ⟨rfl, rfl⟩ -; skip)
                        | (with_reducible refine And.intro ?_ ?_; · omega)
                      refine loopK_wk (by kernel_rfl) (I4P x B i c2 L2 f va vm vu to SS 7 nb gb 7 nb gb) 16 ⟨_, _, Wk.can [(19, 21, 0, 0)] [.inl 0, .inl 1, .inl 2, .inl 3, .inl 4, .inl 5, .inl 6, .inl 7, .inl 8, .inl 9, .inl 10, .inl 11, .inl 12, .inl 13, .inl 14, .inl 15, .inl 16, .inl 17, .inl 18, .inl 19, .inl 20, .inl 21, .inl 22, .inl 23, .inr 0] rfl (by simp [patL]), 0, by omega, by omega, ?_, ?_, ?_, ?_, ?_, ?_, ?_, ?_, ?_, ?_, ?_, ?_⟩ ?_
                      · simp [Function.comp_def, get_gcT, get, put, gcI, pullI, pullS, gcH, patL, canL, canH, canTL, canT, rows_pull, ix, g1, g3, g4, g5, g7, g8, g9, g10, g11, g12, g17, g18]
                      · simp [Function.comp_def, get_gcT, get, put, gcI, pullI, pullS, gcH, patL, canL, canH, canTL, canT, rows_pull, ix, g1, g3, g4, g5, g7, g8, g9, g10, g11, g12, g17, g18]
                      · simp [Function.comp_def, get_gcT, get, put, gcI, pullI, pullS, gcH, patL, canL, canH, canTL, canT, rows_pull, ix, g1, g3, g4, g5, g7, g8, g9, g10, g11, g12, g17, g18]
                      · simp [Function.comp_def, get_gcT, get, put, gcI, pullI, pullS, gcH, patL, canL, canH, canTL, canT, rows_pull, ix, g1, g3, g4, g5, g7, g8, g9, g10, g11, g12, g17, g18]
                      · simp [Function.comp_def, get_gcT, get, put, gcI, pullI, pullS, gcH, patL, canL, canH, canTL, canT, rows_pull, ix, g1, g3, g4, g5, g7, g8, g9, g10, g11, g12, g17, g18]
                      · simp [Function.comp_def, get_gcT, get, put, gcI, pullI, pullS, gcH, patL, canL, canH, canTL, canT, rows_pull, ix, g1, g3, g4, g5, g7, g8, g9, g10, g11, g12, g17, g18]
                      · simp [Function.comp_def, get_gcT, get, put, gcI, pullI, pullS, gcH, patL, canL, canH, canTL, canT, rows_pull, ix, g1, g3, g4, g5, g7, g8, g9, g10, g11, g12, g17, g18]
                      · simp [Function.comp_def, get_gcT, get, put, gcI, pullI, pullS, gcH, patL, canL, canH, canTL, canT, rows_pull, ix, g1, g3, g4, g5, g7, g8, g9, g10, g11, g12, g17, g18]
                      · simp [Function.comp_def, get_gcT, get, put, gcI, pullI, pullS, gcH, patL, canL, canH, canTL, canT, rows_pull, ix, g1, g3, g4, g5, g7, g8, g9, g10, g11, g12, g17, g18]
                      · simp [Function.comp_def, get_gcT, get, put, gcI, pullI, pullS, gcH, patL, canL, canH, canTL, canT, rows_pull, ix, g1, g3, g4, g5, g7, g8, g9, g10, g11, g12, g17, g18]
                      · simp [Function.comp_def, get_gcT, get, put, gcI, pullI, pullS, gcH, patL, canL, canH, canTL, canT, rows_pull, ix, g1, g3, g4, g5, g7, g8, g9, g10, g11, g12, g17, g18]
                      · simp [Function.comp_def, get_gcT, get, put, gcI, pullI, pullS, gcH, patL, canL, canH, canTL, canT, rows_pull, ix, g1, g3, g4, g5, g7, g8, g9, g10, g11, g12, g17, g18, HH, HX, HB, HC, playC, rC, stC_pull, poC_pull, stQ_pull, fqC_pull, prC_pull, pull_mV, pull_mS, pull_mE, frC, upN, sentC]
                      clear g1 g3 g4 g5 g7 g8 g9 g10 g11 g12 g17 g18 hs
                      rintro mm tm H ⟨pp, rfl, hpp, g1, g3, g4, g5, g7, g8, g10, g11, g19, g21, g22, rfl⟩
                      have hWl := sentC_len va vu f (upN (hasP to) pp) (by have := upN_len (hasP to) pp; omega)
                      unfold HH HX HB HC playC rC
                      simp only [List.cons_append, List.nil_append]
                      by_cases hp16 : pp < 16
                      · have q6 : decide ((((pp + 1 : Nat) : Int)) ≤ 16) = true := decide_eq_true (by omega)
                        have hk1 : IntKind.i64.wrap (((pp + 1 : Nat) : Int) + 1) = ((pp + 1 + 1 : Nat) : Int) := by rw [wr_i64 (by omega) (by omega)]; rfl
                        have hstep : sentC va vu f (upN (hasP to) (pp + 1)) = sentC va vu f (upN (hasP to) pp) ++ if hasP to ((pp + 1 : Nat) : Int) then (if (formR f va vu ((pp + 1 : Nat) : Int)).2 then [(((pp + 1 : Nat) : Int), (formR f va vu ((pp + 1 : Nat) : Int)).1)] else []) else [] := by
                          rw [upN]
                          cases hasP to ((pp + 1 : Nat) : Int) with
                          | true => rw [if_pos rfl, if_pos rfl, sentC_add]
                          | false => simp
                        have c18 := formW f hfx va vm vu ((pp + 1 : Nat) : Int)
                        have c19 := has to ((pp + 1 : Nat) : Int)
                        generalize ((pp + 1 : Nat) : Int) = qq at *
                        generalize sentC va vu f (upN (hasP to) pp) = WW at *
                        generalize formR f va vu qq = G at *
                        obtain ⟨g, gok⟩ := G
                        simp only at c18 hstep
                        have hbig : (WW.length + 1) * 48 ≤ 140737488355328 := by omega
                        cases hgok : gok with
                        | true =>
                          rw [hgok] at c18 hstep
                          cases hh : hasP to qq with
                          | true =>
                            rw [hh] at c19 hstep
                            simp only [if_true] at hstep
                            repeat' first
                              | with_reducible rfl
                              | simp only [q6, hk1, hbig, frC, stC, encM, List.append_eq, List.length_map, Int.toNat_natCast, g1, g3, g4, g5, g7, g8, g10, g11, g19, g21, g22, push_mV, push_mS, push_mE, rows_push1, RS_, argsTM, stepE, stBuiltin, stBox, stAlloc, stLoad, stStore, stField, stExtract, stBin, stUn, stConv, stNilCheck, stFieldV, stIndex, stIndexAddr, stLen, stMin, stMax, stBuild, fillI, stBuildSlice, setRows, stMakeSlice, stAppend, srcR, segR, rdCells, stSlice, bnd, stArr, stCopy, stConv2, isIntV, cutR, byteRows, rowByte, binStr, Option.map_some, Option.map_none, eq_self, canTL, canT, canH, canL, patL, gcH, gcT, gcI, get_gcT, pullS, pullI, pushS, push1, pushI, pullHW, roC, ix, List.map_map, Function.comp_def, List.zip_cons_cons, List.zip_nil_left, List.zip_nil_right, List.range'_zero, List.range'_succ, rd, get, put, IV.cells, ofValue, seg, spl, ldIV, binInt, eqI, cellsEq, leafEq, resI, flat, isT, upd, up1, nextM, cR, ptrC, nAl, isAl, ST_, Nat.reduceAdd, Nat.reduceMul, Nat.reduceEqDiff, Nat.reduceLeDiff, ne_eq, reduceCtorEq, reduceIte, forall_const, implies_true, Int.reduceToNat, Int.reduceLE, Int.reduceLT, bne, Int.reduceEq, Int.reduceNe, Int.reduceNeg, Int.reduceAdd, Int.reduceSub, Int.reduceMul, Int.reduceBEq, Int.reduceBNe, Nat.reduceLT, Nat.reduceSub, WLS, Tryd.underlying3, Tryd.underlying4, Tryd.underlying5, ty_ag_27, ty_ag_29, ty_ag_3, ty_ag_31, ty_ag_33, ty_ag_35, ty_ag_4, ty_ag_40, ty_ag_42, ty_ag_45, ty_ag_46, ty_ag_5, ty_ag_51, ty_ag_58, ty_ag_63, ty_ag_67, ty_ag_73, ty_ag_81, ty_ar_61, ty_by_46, ty_eg_67, ty_eg_81, ty_lv_67, ty_lv_81, ty_of_29_4, ty_of_35_0, ty_of_35_2, ty_of_42_0, ty_of_42_1, ty_of_45_0, ty_of_48_0, ty_of_48_1, ty_of_48_2, ty_of_48_3, ty_of_58_0, ty_of_58_9, ty_ok_61, ty_ok_63, ty_ok_81, ty_pl_61_0, ty_pl_61_1, ty_pl_61_2, ty_pl_61_3, ty_pl_63_0, ty_pl_63_1, ty_pl_81_0, ty_pl_81_1, ty_sl_27, ty_sl_36, ty_sl_46, ty_sl_82, ty_sr_46, ty_sz_27, ty_sz_29, ty_sz_3, ty_sz_31, ty_sz_33, ty_sz_35, ty_sz_4, ty_sz_40, ty_sz_42, ty_sz_45, ty_sz_46, ty_sz_48, ty_sz_5, ty_sz_51, ty_sz_58, ty_sz_63, ty_sz_67, ty_sz_73, ty_sz_81, ty_ze_35, ty_ze_42, ty_ze_48, ty_ze_61, ty_ze_63, ty_ze_73, ty_ze_81, ty_zs_46]
                              | (with_reducible refine drawK_id ?_); refine drawK_auto hmix (by kernel_rfl) ?_
                              | (with_reducible refine draw_fin ?_ ?_); · kernel_rfl
                              | (with_reducible refine draw_id ?_); kernel_rfl
                              | ((with_reducible refine callK_id (f := 18) ?_); refine callK_fun c18 rfl rfl ?_)
                              | ((with_reducible refine callK_id (f := 19) ?_); refine callK_fun c19 rfl rfl ?_)
                              | (with_reducible refine And.intro ?_ ?_; · omega)
                            refine ⟨16 - (pp + 1), _, _, by omega, Wk.gc [0, 1, 2, 3, 4, 5, 6, 7, 8, 9, 10, 11, 12, 13, 14, 15, 16, 17, 18, 19, 20, 21, 22, 23, 27] rfl (by decide), pp + 1, rfl, by omega, ?_, ?_, ?_, ?_, ?_, ?_, ?_, ?_, ?_, ?_, ?_, ?_⟩
                            · simp [Function.comp_def, get_gcT, get, put, gcI, pullI, pullS, gcH, patL, canL, canH, canTL, canT, rows_pull, ix, g1, g3, g4, g5, g7, g8, g10, g11, g19, g21, g22]
                            · simp [Function.comp_def, get_gcT, get, put, gcI, pullI, pullS, gcH, patL, canL, canH, canTL, canT, rows_pull, ix, g1, g3, g4, g5, g7, g8, g10, g11, g19, g21, g22]
                            · simp [Function.comp_def, get_gcT, get, put, gcI, pullI, pullS, gcH, patL, canL, canH, canTL, canT, rows_pull, ix, g1, g3, g4, g5, g7, g8, g10, g11, g19, g21, g22]
                            · simp [Function.comp_def, get_gcT, get, put, gcI, pullI, pullS, gcH, patL, canL, canH, canTL, canT, rows_pull, ix, g1, g3, g4, g5, g7, g8, g10, g11, g19, g21, g22]
                            · simp [Function.comp_def, get_gcT, get, put, gcI, pullI, pullS, gcH, patL, canL, canH, canTL, canT, rows_pull, ix, g1, g3, g4, g5, g7, g8, g10, g11, g19, g21, g22]
                            · simp [Function.comp_def, get_gcT, get, put, gcI, pullI, pullS, gcH, patL, canL, canH, canTL, canT, rows_pull, ix, g1, g3, g4, g5, g7, g8, g10, g11, g19, g21, g22]
                            · simp [Function.comp_def, get_gcT, get, put, gcI, pullI, pullS, gcH, patL, canL, canH, canTL, canT, rows_pull, ix, g1, g3, g4, g5, g7, g8, g10, g11, g19, g21, g22]
                            · simp [Function.comp_def, get_gcT, get, put, gcI, pullI, pullS, gcH, patL, canL, canH, canTL, canT, rows_pull, ix, g1, g3, g4, g5, g7, g8, g10, g11, g19, g21, g22]
                            · simp [Function.comp_def, get_gcT, get, put, gcI, pullI, pullS, gcH, patL, canL, canH, canTL, canT, rows_pull, ix, g1, g3, g4, g5, g7, g8, g10, g11, g19, g21, g22]
                            · simp [Function.comp_def, get_gcT, get, put, gcI, pullI, pullS, gcH, patL, canL, canH, canTL, canT, rows_pull, ix, g1, g3, g4, g5, g7, g8, g10, g11, g19, g21, g22]
                            · simp [Function.comp_def, get_gcT, get, put, gcI, pullI, pullS, gcH, patL, canL, canH, canTL, canT, rows_pull, ix, g1, g3, g4, g5, g7, g8, g10, g11, g19, g21, g22]
                            · rw [hstep]; simp [Function.comp_def, get_gcT, get, put, gcI, pullI, pullS, gcH, patL, canL, canH, canTL, canT, rows_pull, ix, HH, HX, HB, HC, playC, rC, stC_pull, poC_pull, stQ_pull, fqC_pull, prC_pull, pull_mV, pull_mS, pull_mE, frC, stC, encM]
                          | false =>
                            rw [hh] at c19 hstep
                            simp only [Bool.false_eq_true, if_false, List.append_nil] at hstep
                            repeat' first
                              | with_reducible rfl
                              | simp only [q6, hk1, hbig, frC, stC, encM, List.append_eq, List.length_map, Int.toNat_natCast, g1, g3, g4, g5, g7, g8, g10, g11, g19, g21, g22, push_mV, push_mS, push_mE, rows_push1, RS_, argsTM, stepE, stBuiltin, stBox, stAlloc, stLoad, stStore, stField, stExtract, stBin, stUn, stConv, stNilCheck, stFieldV, stIndex, stIndexAddr, stLen, stMin, stMax, stBuild, fillI, stBuildSlice, setRows, stMakeSlice, stAppend, srcR, segR, rdCells, stSlice, bnd, stArr, stCopy, stConv2, isIntV, cutR, byteRows, rowByte, binStr, Option.map_some, Option.map_none, eq_self, canTL, canT, canH, canL, patL, gcH, gcT, gcI, get_gcT, pullS, pullI, pushS, push1, pushI, pullHW, roC, ix, List.map_map, Function.comp_def, List.zip_cons_cons, List.zip_nil_left, List.zip_nil_right, List.range'_zero, List.range'_succ, rd, get, put, IV.cells, ofValue, seg, spl, ldIV, binInt, eqI, cellsEq, leafEq, resI, flat, isT, upd, up1, nextM, cR, ptrC, nAl, isAl, ST_, Nat.reduceAdd, Nat.reduceMul, Nat.reduceEqDiff, Nat.reduceLeDiff, ne_eq, reduceCtorEq, reduceIte, forall_const, implies_true, Int.reduceToNat, Int.reduceLE, Int.reduceLT, bne, Int.reduceEq, Int.reduceNe, Int.reduceNeg, Int.reduceAdd, Int.reduceSub, Int.reduceMul, Int.reduceBEq, Int.reduceBNe, Nat.reduceLT, Nat.reduceSub, WLS, Tryd.underlying3, Tryd.underlying4, Tryd.underlying5, ty_ag_27, ty_ag_29, ty_ag_3, ty_ag_31, ty_ag_33, ty_ag_35, ty_ag_4, ty_ag_40, ty_ag_42, ty_ag_45, ty_ag_46, ty_ag_5, ty_ag_51, ty_ag_58, ty_ag_63, ty_ag_67, ty_ag_73, ty_ag_81, ty_ar_61, ty_by_46, ty_eg_67, ty_eg_81, ty_lv_67, ty_lv_81, ty_of_29_4, ty_of_35_0, ty_of_35_2, ty_of_42_0, ty_of_42_1, ty_of_45_0, ty_of_48_0, ty_of_48_1, ty_of_48_2, ty_of_48_3, ty_of_58_0, ty_of_58_9, ty_ok_61, ty_ok_63, ty_ok_81, ty_pl_61_0, ty_pl_61_1, ty_pl_61_2, ty_pl_61_3, ty_pl_63_0, ty_pl_63_1, ty_pl_81_0, ty_pl_81_1, ty_sl_27, ty_sl_36, ty_sl_46, ty_sl_82, ty_sr_46, ty_sz_27, ty_sz_29, ty_sz_3, ty_sz_31, ty_sz_33, ty_sz_35, ty_sz_4, ty_sz_40, ty_sz_42, ty_sz_45, ty_sz_46, ty_sz_48, ty_sz_5, ty_sz_51, ty_sz_58, ty_sz_63, ty_sz_67, ty_sz_73, ty_sz_81, ty_ze_35, ty_ze_42, ty_ze_48, ty_ze_61, ty_ze_63, ty_ze_73, ty_ze_81, ty_zs_46]
                              | (with_reducible refine drawK_id ?_); refine drawK_auto hmix (by kernel_rfl) ?_
                              | (with_reducible refine draw_fin ?_ ?_); · kernel_rfl
                              | (with_reducible refine draw_id ?_); kernel_rfl
                              | ((with_reducible refine callK_id (f := 18) ?_); refine callK_fun c18 rfl rfl ?_)
                              | ((with_reducible refine callK_id (f := 19) ?_); refine callK_fun c19 rfl rfl ?_)
                              | (with_reducible refine And.intro ?_ ?_; · omega)
                            refine ⟨16 - (pp + 1), _, _, by omega, Wk.gc [0, 1, 2, 3, 4, 5, 6, 7, 8, 9, 10, 11, 12, 13, 14, 15, 16, 17, 18, 19, 20, 21, 22, 23, 24] rfl (by decide), pp + 1, rfl, by omega, ?_, ?_, ?_, ?_, ?_, ?_, ?_, ?_, ?_, ?_, ?_, ?_⟩
                            · simp [Function.comp_def, get_gcT, get, put, gcI, pullI, pullS, gcH, patL, canL, canH, canTL, canT, rows_pull, ix, g1, g3, g4, g5, g7, g8, g10, g11, g19, g21, g22]
                            · simp [Function.comp_def, get_gcT, get, put, gcI, pullI, pullS, gcH, patL, canL, canH, canTL, canT, rows_pull, ix, g1, g3, g4, g5, g7, g8, g10, g11, g19, g21, g22]
                            · simp [Function.comp_def, get_gcT, get, put, gcI, pullI, pullS, gcH, patL, canL, canH, canTL, canT, rows_pull, ix, g1, g3, g4, g5, g7, g8, g10, g11, g19, g21, g22]
                            · simp [Function.comp_def, get_gcT, get, put, gcI, pullI, pullS, gcH, patL, canL, canH, canTL, canT, rows_pull, ix, g1, g3, g4, g5, g7, g8, g10, g11, g19, g21, g22]
                            · simp [Function.comp_def, get_gcT, get, put, gcI, pullI, pullS, gcH, patL, canL, canH, canTL, canT, rows_pull, ix, g1, g3, g4, g5, g7, g8, g10, g11, g19, g21, g22]
                            · simp [Function.comp_def, get_gcT, get, put, gcI, pullI, pullS, gcH, patL, canL, canH, canTL, canT, rows_pull, ix, g1, g3, g4, g5, g7, g8, g10, g11, g19, g21, g22]
                            · simp [Function.comp_def, get_gcT, get, put, gcI, pullI, pullS, gcH, patL, canL, canH, canTL, canT, rows_pull, ix, g1, g3, g4, g5, g7, g8, g10, g11, g19, g21, g22]
                            · simp [Function.comp_def, get_gcT, get, put, gcI, pullI, pullS, gcH, patL, canL, canH, canTL, canT, rows_pull, ix, g1, g3, g4, g5, g7, g8, g10, g11, g19, g21, g22]
                            · simp [Function.comp_def, get_gcT, get, put, gcI, pullI, pullS, gcH, patL, canL, canH, canTL, canT, rows_pull, ix, g1, g3, g4, g5, g7, g8, g10, g11, g19, g21, g22]
                            · simp [Function.comp_def, get_gcT, get, put, gcI, pullI, pullS, gcH, patL, canL, canH, canTL, canT, rows_pull, ix, g1, g3, g4, g5, g7, g8, g10, g11, g19, g21, g22]
                            · simp [Function.comp_def, get_gcT, get, put, gcI, pullI, pullS, gcH, patL, canL, canH, canTL, canT, rows_pull, ix, g1, g3, g4, g5, g7, g8, g10, g11, g19, g21, g22]
                            · rw [hstep]; simp [Function.comp_def, get_gcT, get, put, gcI, pullI, pullS, gcH, patL, canL, canH, canTL, canT, rows_pull, ix, HH, HX, HB, HC, playC, rC, stC_pull, poC_pull, stQ_pull, fqC_pull, prC_pull, pull_mV, pull_mS, pull_mE, frC, stC, encM]
                        | false =>
                          rw [hgok] at c18 hstep
                          simp only [Bool.false_eq_true, if_false, ite_self, List.append_nil] at hstep
                          repeat' first
                            | with_reducible rfl
                            | simp only [q6, hk1, hbig, frC, stC, encM, List.append_eq, List.length_map, Int.toNat_natCast, g1, g3, g4, g5, g7, g8, g10, g11, g19, g21, g22, push_mV, push_mS, push_mE, rows_push1, RS_, argsTM, stepE, stBuiltin, stBox, stAlloc, stLoad, stStore, stField, stExtract, stBin, stUn, stConv, stNilCheck, stFieldV, stIndex, stIndexAddr, stLen, stMin, stMax, stBuild, fillI, stBuildSlice, setRows, stMakeSlice, stAppend, srcR, segR, rdCells, stSlice, bnd, stArr, stCopy, stConv2, isIntV, cutR, byteRows, rowByte, binStr, Option.map_some, Option.map_none, eq_self, canTL, canT, canH, canL, patL, gcH, gcT, gcI, get_gcT, pullS, pullI, pushS, push1, pushI, pullHW, roC, ix, List.map_map, Function.comp_def, List.zip_cons_cons, List.zip_nil_left, List.zip_nil_right, List.range'_zero, List.range'_succ, rd, get, put, IV.cells, ofValue, seg, spl, ldIV, binInt, eqI, cellsEq, leafEq, resI, flat, isT, upd, up1, nextM, cR, ptrC, nAl, isAl, ST_, Nat.reduceAdd, Nat.reduceMul, Nat.reduceEqDiff, Nat.reduceLeDiff, ne_eq, reduceCtorEq, reduceIte, forall_const, implies_true, Int.reduceToNat, Int.reduceLE, Int.reduceLT, bne, Int.reduceEq, Int.reduceNe, Int.reduceNeg, Int.reduceAdd, Int.reduceSub, Int.reduceMul, Int.reduceBEq, Int.reduceBNe, Nat.reduceLT, Nat.reduceSub, WLS, Tryd.underlying3, Tryd.underlying4, Tryd.underlying5, ty_ag_27, ty_ag_29, ty_ag_3, ty_ag_31, ty_ag_33, ty_ag_35, ty_ag_4, ty_ag_40, ty_ag_42, ty_ag_45, ty_ag_46, ty_ag_5, ty_ag_51, ty_ag_58, ty_ag_63, ty_ag_67, ty_ag_73, ty_ag_81, ty_ar_61, ty_by_46, ty_eg_67, ty_eg_81, ty_lv_67, ty_lv_81, ty_of_29_4, ty_of_35_0, ty_of_35_2, ty_of_42_0, ty_of_42_1, ty_of_45_0, ty_of_48_0, ty_of_48_1, ty_of_48_2, ty_of_48_3, ty_of_58_0, ty_of_58_9, ty_ok_61, ty_ok_63, ty_ok_81, ty_pl_61_0, ty_pl_61_1, ty_pl_61_2, ty_pl_61_3, ty_pl_63_0, ty_pl_63_1, ty_pl_81_0, ty_pl_81_1, ty_sl_27, ty_sl_36, ty_sl_46, ty_sl_82, ty_sr_46, ty_sz_27, ty_sz_29, ty_sz_3, ty_sz_31, ty_sz_33, ty_sz_35, ty_sz_4, ty_sz_40, ty_sz_42, ty_sz_45, ty_sz_46, ty_sz_48, ty_sz_5, ty_sz_51, ty_sz_58, ty_sz_63, ty_sz_67, ty_sz_73, ty_sz_81, ty_ze_35, ty_ze_42, ty_ze_48, ty_ze_61, ty_ze_63, ty_ze_73, ty_ze_81, ty_zs_46]
                            | (with_reducible refine drawK_id ?_); refine drawK_auto hmix (by kernel_rfl) ?_
                            | (with_reducible refine draw_fin ?_ ?_); · kernel_rfl
                            | (with_reducible refine draw_id ?_); kernel_rfl
                            | ((with_reducible refine callK_id (f := 18) ?_); refine callK_fun c18 rfl rfl ?_)
                            | ((with_reducible refine callK_id (f := 19) ?_); refine callK_fun c19 rfl rfl ?_)
                            | (with_reducible refine And.intro ?_ ?_; · omega)
                          refine ⟨16 - (pp + 1), _, _, by omega, Wk.gc [0, 1, 2, 3, 4, 5, 6, 7, 8, 9, 10, 11, 12, 13, 14, 15, 16, 17, 18, 19, 20, 21, 22, 23, 24] rfl (by decide), pp + 1, rfl, by omega, ?_, ?_, ?_, ?_, ?_, ?_, ?_, ?_, ?_, ?_, ?_, ?_⟩
                          · simp [Function.comp_def, get_gcT, get, put, gcI, pullI, pullS, gcH, patL, canL, canH, canTL, canT, rows_pull, ix, g1, g3, g4, g5, g7, g8, g10, g11, g19, g21, g22]
                          · simp [Function.comp_def, get_gcT, get, put, gcI, pullI, pullS, gcH, patL, canL, canH, canTL, canT, rows_pull, ix, g1, g3, g4, g5, g7, g8, g10, g11, g19, g21, g22]
                          · simp [Function.comp_def, get_gcT, get, put, gcI, pullI, pullS, gcH, patL, canL, canH, canTL, canT, rows_pull, ix, g1, g3, g4, g5, g7, g8, g10, g11, g19, g21, g22]
                          · simp [Function.comp_def, get_gcT, get, put, gcI, pullI, pullS, gcH, patL, canL, canH, canTL, canT, rows_pull, ix, g1, g3, g4, g5, g7, g8, g10, g11, g19, g21, g22]
                          · simp [Function.comp_def, get_gcT, get, put, gcI, pullI, pullS, gcH, patL, canL, canH, canTL, canT, rows_pull, ix, g1, g3, g4, g5, g7, g8, g10, g11, g19, g21, g22]
                          · simp [Function.comp_def, get_gcT, get, put, gcI, pullI, pullS, gcH, patL, canL, canH, canTL, canT, rows_pull, ix, g1, g3, g4, g5, g7, g8, g10, g11, g19, g21, g22]
                          · simp [Function.comp_def, get_gcT, get, put, gcI, pullI, pullS, gcH, patL, canL, canH, canTL, canT, rows_pull, ix, g1, g3, g4, g5, g7, g8, g10, g11, g19, g21, g22]
                          · simp [Function.comp_def, get_gcT, get, put, gcI, pullI, pullS, gcH, patL, canL, canH, canTL, canT, rows_pull, ix, g1, g3, g4, g5, g7, g8, g10, g11, g19, g21, g22]
                          · simp [Function.comp_def, get_gcT, get, put, gcI, pullI, pullS, gcH, patL, canL, canH, canTL, canT, rows_pull, ix, g1, g3, g4, g5, g7, g8, g10, g11, g19, g21, g22]
                          · simp [Function.comp_def, get_gcT, get, put, gcI, pullI, pullS, gcH, patL, canL, canH, canTL, canT, rows_pull, ix, g1, g3, g4, g5, g7, g8, g10, g11, g19, g21, g22]
                          · simp [Function.comp_def, get_gcT, get, put, gcI, pullI, pullS, gcH, patL, canL, canH, canTL, canT, rows_pull, ix, g1, g3, g4, g5, g7, g8, g10, g11, g19, g21, g22]
                          · rw [hstep]; simp [Function.comp_def, get_gcT, get, put, gcI, pullI, pullS, gcH, patL, canL, canH, canTL, canT, rows_pull, ix, HH, HX, HB, HC, playC, rC, stC_pull, poC_pull, stQ_pull, fqC_pull, prC_pull, pull_mV, pull_mS, pull_mE, frC, stC, encM]
                      · have q6 : decide ((((pp + 1 : Nat) : Int)) ≤ 16) = false := decide_eq_false (by omega)
                        have hpp2 : pp = 16 := by omega
                        subst hpp2
                        rw [hSS]
                        repeat' first
                          | with_reducible rfl
                          | simp only [q6, List.append_eq, List.length_map, Int.toNat_natCast, g1, g3, g4, g5, g7, g8, g10, g11, g19, g21, g22, RS_, argsTM, stepE, stBuiltin, stBox, stAlloc, stLoad, stStore, stField, stExtract, stBin, stUn, stConv, stNilCheck, stFieldV, stIndex, stIndexAddr, stLen, stMin, stMax, stBuild, fillI, stBuildSlice, setRows, stMakeSlice, stAppend, srcR, segR, rdCells, stSlice, bnd, stArr, stCopy, stConv2, isIntV, cutR, byteRows, rowByte, binStr, Option.map_some, Option.map_none, eq_self, canTL, canT, canH, canL, patL, gcH, gcT, gcI, get_gcT, pullS, pullI, pushS, push1, pushI, pullHW, roC, ix, List.map_map, Function.comp_def, List.zip_cons_cons, List.zip_nil_left, List.zip_nil_right, List.range'_zero, List.range'_succ, rd, get, put, IV.cells, ofValue, seg, spl, ldIV, binInt, eqI, cellsEq, leafEq, resI, flat, isT, upd, up1, nextM, cR, ptrC, nAl, isAl, ST_, Nat.reduceAdd, Nat.reduceMul, Nat.reduceEqDiff, Nat.reduceLeDiff, ne_eq, reduceCtorEq, reduceIte, forall_const, implies_true, Int.reduceToNat, Int.reduceLE, Int.reduceLT, bne, Int.reduceEq, Int.reduceNe, Int.reduceNeg, Int.reduceAdd, Int.reduceSub, Int.reduceMul, Int.reduceBEq, Int.reduceBNe, Nat.reduceLT, Nat.reduceSub, WLS, Tryd.underlying3, Tryd.underlying4, Tryd.underlying5, ty_ag_27, ty_ag_29, ty_ag_3, ty_ag_31, ty_ag_33, ty_ag_35, ty_ag_4, ty_ag_40, ty_ag_42, ty_ag_45, ty_ag_46, ty_ag_5, ty_ag_51, ty_ag_58, ty_ag_63, ty_ag_67, ty_ag_73, ty_ag_81, ty_ar_61, ty_by_46, ty_eg_67, ty_eg_81, ty_lv_67, ty_lv_81, ty_of_29_4, ty_of_35_0, ty_of_35_2, ty_of_42_0, ty_of_42_1, ty_of_45_0, ty_of_48_0, ty_of_48_1, ty_of_48_2, ty_of_48_3, ty_of_58_0, ty_of_58_9, ty_ok_61, ty_ok_63, ty_ok_81, ty_pl_61_0, ty_pl_61_1, ty_pl_61_2, ty_pl_61_3, ty_pl_63_0, ty_pl_63_1, ty_pl_81_0, ty_pl_81_1, ty_sl_27, ty_sl_36, ty_sl_46, ty_sl_82, ty_sr_46, ty_sz_27, ty_sz_29, ty_sz_3, ty_sz_31, ty_sz_33, ty_sz_35, ty_sz_4, ty_sz_40, ty_sz_42, ty_sz_45, ty_sz_46, ty_sz_48, ty_sz_5, ty_sz_51, ty_sz_58, ty_sz_63, ty_sz_67, ty_sz_73, ty_sz_81, ty_ze_35, ty_ze_42, ty_ze_48, ty_ze_61, ty_ze_63, ty_ze_73, ty_ze_81, ty_zs_46]
                          | (with_reducible refine drawK_id ?_); refine drawK_auto hmix (by kernel_rfl) ?_
                          | (with_reducible refine draw_fin ?_ ?_); · kernel_rfl
                          | (with_reducible refine draw_id ?_); kernel_rfl
                          | (with_reducible refine And.intro ?_ ?_; · omega)
                        refine loopK_key (H2 := HR x B c2 L2 SS 7 nb gb) (Wk.can [(19, 20, 0, 0), (19, 21, 0, 0)] [.inl 0, .inl 1, .inl 2, .inl 3, .inl 4, .inl 5, .inl 6, .inl 7, .inl 8, .inl 9, .inl 10, .inl 11, .inl 12, .inl 13, .inl 14, .inl 15, .inl 16, .inl 17, .inl 18, .inl 20, .inl 21, .inr 0, .inr 1] rfl (by simp [patL])) ?_ ?_
                        · simp [Function.comp_def, get_gcT, get, put, gcI, pullI, pullS, gcH, patL, canL, canH, canTL, canT, rows_pull, ix, segR, HR, HH, HX, HB, HC, playC, rC, stC_pull, poC_pull, stQ_pull, fqC_pull, prC_pull, pull_mV, pull_mS, pull_mE]
                        · refine key c2 L2 SS 7 nb gb _ hF2 hSS16 ⟨?_, ?_, ?_, ?_, ?_⟩ ⟨?_, ?_, ?_⟩ <;> (simp [Function.comp_def, get_gcT, get, put, gcI, pullI, pullS, gcH, patL, canL, canH, canTL, canT, rows_pull, ix, g1, g3, g4, g5, g7, g8, g10, g11, g19, g21, g22]; done)
              · rw [if_neg (by decide), show whyN 1 = 3 by decide] at hC
                rw [hC] at cP
                simp only [List.length_nil, List.map_nil] at cP
                repeat' first
                  | with_reducible rfl
                  | simp only [stC_push, q1, q2, z0, z1, hi1, hel, fqC, frC, encM, hfr, List.append_eq, List.length_map, Int.toNat_natCast, g1, g3, g4, g5, g7, push_mV, push_mS, push_mE, rows_push1, push_one, pull_one, kC_push, kC_pull, kC_len, eR_len, eV_len, eV_pull, eV_push, q3, q4, z2, z3, hj, hel2, prC, e2, RS_, argsTM, stepE, stBuiltin, stBox, stAlloc, stLoad, stStore, stField, stExtract, stBin, stUn, stConv, stNilCheck, stFieldV, stIndex, stIndexAddr, stLen, stMin, stMax, stBuild, fillI, stBuildSlice, setRows, stMakeSlice, stAppend, srcR, segR, rdCells, stSlice, bnd, stArr, stCopy, stConv2, isIntV, cutR, byteRows, rowByte, binStr, Option.map_some, Option.map_none, eq_self, canTL, canT, canH, canL, patL, gcH, gcT, gcI, get_gcT, pullS, pullI, pushS, push1, pushI, pullHW, roC, ix, List.map_map, Function.comp_def, List.zip_cons_cons, List.zip_nil_left, List.zip_nil_right, List.range'_zero, List.range'_succ, rd, get, put, IV.cells, ofValue, seg, spl, ldIV, binInt, eqI, cellsEq, leafEq, resI, flat, isT, upd, up1, nextM, cR, ptrC, nAl, isAl, ST_, Nat.reduceAdd, Nat.reduceMul, Nat.reduceEqDiff, Nat.reduceLeDiff, ne_eq, reduceCtorEq, reduceIte, forall_const, implies_true, Int.reduceToNat, Int.reduceLE, Int.reduceLT, bne, Int.reduceEq, Int.reduceNe, Int.reduceNeg, Int.reduceAdd, Int.reduceSub, Int.reduceMul, Int.reduceBEq, Int.reduceBNe, Nat.reduceLT, Nat.reduceSub, WLS, Tryd.underlying3, Tryd.underlying4, Tryd.underlying5, ty_ag_27, ty_ag_29, ty_ag_3, ty_ag_31, ty_ag_33, ty_ag_35, ty_ag_4, ty_ag_40, ty_ag_42, ty_ag_45, ty_ag_46, ty_ag_5, ty_ag_51, ty_ag_58, ty_ag_63, ty_ag_67, ty_ag_73, ty_ag_81, ty_ar_61, ty_by_46, ty_eg_67, ty_eg_81, ty_lv_67, ty_lv_81, ty_of_29_4, ty_of_35_0, ty_of_35_2, ty_of_42_0, ty_of_42_1, ty_of_45_0, ty_of_48_0, ty_of_48_1, ty_of_48_2, ty_of_48_3, ty_of_58_0, ty_of_58_9, ty_ok_61, ty_ok_63, ty_ok_81, ty_pl_61_0, ty_pl_61_1, ty_pl_61_2, ty_pl_61_3, ty_pl_63_0, ty_pl_63_1, ty_pl_81_0, ty_pl_81_1, ty_sl_27, ty_sl_36, ty_sl_46, ty_sl_82, ty_sr_46, ty_sz_27, ty_sz_29, ty_sz_3, ty_sz_31, ty_sz_33, ty_sz_35, ty_sz_4, ty_sz_40, ty_sz_42, ty_sz_45, ty_sz_46, ty_sz_48, ty_sz_5, ty_sz_51, ty_sz_58, ty_sz_63, ty_sz_67, ty_sz_73, ty_sz_81, ty_ze_35, ty_ze_42, ty_ze_48, ty_ze_61, ty_ze_63, ty_ze_73, ty_ze_81, ty_zs_46]
                  | (with_reducible refine drawK_id ?_); refine drawK_auto hmix (by kernel_rfl) ?_
                  | (with_reducible refine draw_fin ?_ ?_); · kernel_rfl
                  | (with_reducible refine draw_id ?_); kernel_rfl
                  | ((with_reducible refine callK_id (f := 7) ?_); refine callK_fun c7 rfl rfl ?_)
                  | ((with_reducible refine callK_id (f := 9) ?_); refine callK_fun c9 rfl rfl ?_)
                  | ((with_reducible refine callK_id (f := 10) ?_); refine callK_fun c10 rfl rfl ?_)
                  | ((with_reducible refine callD_id (f := 11) ?_); refine callD_new (Hw' := [.rows true 1 [[.ref 1]], mpV B.cv B.Lv]) (Nw := []) [] [12, 13] (FunW_eq c11) (by simp [pullHW, roC, Function.comp_def, rows_pull, pullS, ix, pull_mV, pull_mS, pull_mE]) rfl rfl (by decide) (by simp [ne_mV, ne_mS, ne_mE]) (by simp [pullI, pullS, ix, kC_pull, kV, kC, encM, frC]) (by simp) ?_)
                  | ((with_reducible refine callK_id (f := 8) ?_); refine callK_funG (hG.at _) [10] [4, 5, 6, 7, 8, 9] cP (by simp [pullHW, roC, Function.comp_def, rows_pull, pullS, ix, prC_pull, pull_mV, pull_mS, pull_mE]) rfl rfl (by decide) (by simp [ne_mV, ne_mS, ne_mE]) (by simp [pullI, pullS, ix, frC]) ?_; rintro r Hn ⟨rfl, rfl⟩ -; skip)
                  | (with_reducible refine And.intro ?_ ?_; · omega)
                refine loopK_key (H2 := HR x B cf Lf [] 3 false false) (Wk.can [(19, 21, 0, 0), (19, 22, 0, 0)] [.inl 0, .inl 1, .inl 2, .inl 3, .inl 4, .inl 5, .inl 6, .inl 7, .inl 8, .inl 9, .inl 10, .inl 11, .inl 12, .inl 13, .inl 14, .inl 15, .inl 16, .inl 17, .inl 18, .inl 21, .inl 22, .inr 0, .inr 1] rfl (by simp [patL])) ?_ ?_
                · simp [Function.comp_def, get_gcT, get, put, gcI, pullI, pullS, gcH, patL, canL, canH, canTL, canT, rows_pull, ix, segR, HR, HH, HX, HB, HC, playC, rC, stC_pull, poC_pull, stQ_pull, fqC_pull, prC_pull, pull_mV, pull_mS, pull_mE]
                · refine key cf Lf [] 3 false false _ hF (by simp) ⟨?_, ?_, ?_, ?_, ?_⟩ ⟨?_, ?_, ?_⟩ <;> (simp [Function.comp_def, get_gcT, get, put, gcI, pullI, pullS, gcH, patL, canL, canH, canTL, canT, rows_pull, ix, g1, g3, g4, g5, g7]; done)
              · rw [if_neg (by decide), show whyN 2 = 4 by decide] at hC
                rw [hC] at cP
                simp only [List.length_nil, List.map_nil] at cP
                repeat' first
                  | with_reducible rfl
                  | simp only [stC_push, q1, q2, z0, z1, hi1, hel, fqC, frC, encM, hfr, List.append_eq, List.length_map, Int.toNat_natCast, g1, g3, g4, g5, g7, push_mV, push_mS, push_mE, rows_push1, push_one, pull_one, kC_push, kC_pull, kC_len, eR_len, eV_len, eV_pull, eV_push, q3, q4, z2, z3, hj, hel2, prC, e2, RS_, argsTM, stepE, stBuiltin, stBox, stAlloc, stLoad, stStore, stField, stExtract, stBin, stUn, stConv, stNilCheck, stFieldV, stIndex, stIndexAddr, stLen, stMin, stMax, stBuild, fillI, stBuildSlice, setRows, stMakeSlice, stAppend, srcR, segR, rdCells, stSlice, bnd, stArr, stCopy, stConv2, isIntV, cutR, byteRows, rowByte, binStr, Option.map_some, Option.map_none, eq_self, canTL, canT, canH, canL, patL, gcH, gcT, gcI, get_gcT, pullS, pullI, pushS, push1, pushI, pullHW, roC, ix, List.map_map, Function.comp_def, List.zip_cons_cons, List.zip_nil_left, List.zip_nil_right, List.range'_zero, List.range'_succ, rd, get, put, IV.cells, ofValue, seg, spl, ldIV, binInt, eqI, cellsEq, leafEq, resI, flat, isT, upd, up1, nextM, cR, ptrC, nAl, isAl, ST_, Nat.reduceAdd, Nat.reduceMul, Nat.reduceEqDiff, Nat.reduceLeDiff, ne_eq, reduceCtorEq, reduceIte, forall_const, implies_true, Int.reduceToNat, Int.reduceLE, Int.reduceLT, bne, Int.reduceEq, Int.reduceNe, Int.reduceNeg, Int.reduceAdd, Int.reduceSub, Int.reduceMul, Int.reduceBEq, Int.reduceBNe, Nat.reduceLT, Nat.reduceSub, WLS, Tryd.underlying3, Tryd.underlying4, Tryd.underlying5, ty_ag_27, ty_ag_29, ty_ag_3, ty_ag_31, ty_ag_33, ty_ag_35, ty_ag_4, ty_ag_40, ty_ag_42, ty_ag_45, ty_ag_46, ty_ag_5, ty_ag_51, ty_ag_58, ty_ag_63, ty_ag_67, ty_ag_73, ty_ag_81, ty_ar_61, ty_by_46, ty_eg_67, ty_eg_81, ty_lv_67, ty_lv_81, ty_of_29_4, ty_of_35_0, ty_of_35_2, ty_of_42_0, ty_of_42_1, ty_of_45_0, ty_of_48_0, ty_of_48_1, ty_of_48_2, ty_of_48_3, ty_of_58_0, ty_of_58_9, ty_ok_61, ty_ok_63, ty_ok_81, ty_pl_61_0, ty_pl_61_1, ty_pl_61_2, ty_pl_61_3, ty_pl_63_0, ty_pl_63_1, ty_pl_81_0, ty_pl_81_1, ty_sl_27, ty_sl_36, ty_sl_46, ty_sl_82, ty_sr_46, ty_sz_27, ty_sz_29, ty_sz_3, ty_sz_31, ty_sz_33, ty_sz_35, ty_sz_4, ty_sz_40, ty_sz_42, ty_sz_45, ty_sz_46, ty_sz_48, ty_sz_5, ty_sz_51, ty_sz_58, ty_sz_63, ty_sz_67, ty_sz_73, ty_sz_81, ty_ze_35, ty_ze_42, ty_ze_48, ty_ze_61, ty_ze_63, ty_ze_73, ty_ze_81, ty_zs_46]
                  | (with_reducible refine drawK_id ?_); refine drawK_auto hmix (by kernel_rfl) ?_
                  | (with_reducible refine draw_fin ?_ ?_); · kernel_rfl
                  | (with_reducible refine draw_id ?_); kernel_rfl
                  | ((with_reducible refine callK_id (f := 7) ?_); refine callK_fun c7 rfl rfl ?_)
                  | ((with_reducible refine callK_id (f := 9) ?_); refine callK_fun c9 rfl rfl ?_)
                  | ((with_reducible refine callK_id (f := 10) ?_); refine callK_fun c10 rfl rfl ?_)
                  | ((with_reducible refine callD_id (f := 11) ?_); refine callD_new (Hw' := [.rows true 1 [[.ref 1]], mpV B.cv B.Lv]) (Nw := []) [] [12, 13] (FunW_eq c11) (by simp [pullHW, roC, Function.comp_def, rows_pull, pullS, ix, pull_mV, pull_mS, pull_mE]) rfl rfl (by decide) (by simp [ne_mV, ne_mS, ne_mE]) (by simp [pullI, pullS, ix, kC_pull, kV, kC, encM, frC]) (by simp) ?_)
                  | ((with_reducible refine callK_id (f := 8) ?_); refine callK_funG (hG.at _) [10] [4, 5, 6, 7, 8, 9] cP (by simp [pullHW, roC, Function.comp_def, rows_pull, pullS, ix, prC_pull, pull_mV, pull_mS, pull_mE]) rfl rfl (by decide) (by simp [ne_mV, ne_mS, ne_mE]) (by simp [pullI, pullS, ix, frC]) ?_; rintro r Hn ⟨rfl, rfl⟩ -; skip)
                  | (with_reducible refine And.intro ?_ ?_; · omega)
                refine loopK_key (H2 := HR x B cf Lf [] 4 false false) (Wk.can [(19, 21, 0, 0), (19, 22, 0, 0)] [.inl 0, .inl 1, .inl 2, .inl 3, .inl 4, .inl 5, .inl 6, .inl 7, .inl 8, .inl 9, .inl 10, .inl 11, .inl 12, .inl 13, .inl 14, .inl 15, .inl 16, .inl 17, .inl 18, .inl 21, .inl 22, .inr 0, .inr 1] rfl (by simp [patL])) ?_ ?_
                · simp [Function.comp_def, get_gcT, get, put, gcI, pullI, pullS, gcH, patL, canL, canH, canTL, canT, rows_pull, ix, segR, HR, HH, HX, HB, HC, playC, rC, stC_pull, poC_pull, stQ_pull, fqC_pull, prC_pull, pull_mV, pull_mS, pull_mE]
                · refine key cf Lf [] 4 false false _ hF (by simp) ⟨?_, ?_, ?_, ?_, ?_⟩ ⟨?_, ?_, ?_⟩ <;> (simp [Function.comp_def, get_gcT, get, put, gcI, pullI, pullS, gcH, patL, canL, canH, canTL, canT, rows_pull, ix, g1, g3, g4, g5, g7]; done)
              · rw [if_neg (by decide), show whyN 3 = 5 by decide] at hC
                rw [hC] at cP
                simp only [List.length_nil, List.map_nil] at cP
                repeat' first
                  | with_reducible rfl
                  | simp only [stC_push, q1, q2, z0, z1, hi1, hel, fqC, frC, encM, hfr, List.append_eq, List.length_map, Int.toNat_natCast, g1, g3, g4, g5, g7, push_mV, push_mS, push_mE, rows_push1, push_one, pull_one, kC_push, kC_pull, kC_len, eR_len, eV_len, eV_pull, eV_push, q3, q4, z2, z3, hj, hel2, prC, e2, RS_, argsTM, stepE, stBuiltin, stBox, stAlloc, stLoad, stStore, stField, stExtract, stBin, stUn, stConv, stNilCheck, stFieldV, stIndex, stIndexAddr, stLen, stMin, stMax, stBuild, fillI, stBuildSlice, setRows, stMakeSlice, stAppend, srcR, segR, rdCells, stSlice, bnd, stArr, stCopy, stConv2, isIntV, cutR, byteRows, rowByte, binStr, Option.map_some, Option.map_none, eq_self, canTL, canT, canH, canL, patL, gcH, gcT, gcI, get_gcT, pullS, pullI, pushS, push1, pushI, pullHW, roC, ix, List.map_map, Function.comp_def, List.zip_cons_cons, List.zip_nil_left, List.zip_nil_right, List.range'_zero, List.range'_succ, rd, get, put, IV.cells, ofValue, seg, spl, ldIV, binInt, eqI, cellsEq, leafEq, resI, flat, isT, upd, up1, nextM, cR, ptrC, nAl, isAl, ST_, Nat.reduceAdd, Nat.reduceMul, Nat.reduceEqDiff, Nat.reduceLeDiff, ne_eq, reduceCtorEq, reduceIte, forall_const, implies_true, Int.reduceToNat, Int.reduceLE, Int.reduceLT, bne, Int.reduceEq, Int.reduceNe, Int.reduceNeg, Int.reduceAdd, Int.reduceSub, Int.reduceMul, Int.reduceBEq, Int.reduceBNe, Nat.reduceLT, Nat.reduceSub, WLS, Tryd.underlying3, Tryd.underlying4, Tryd.underlying5, ty_ag_27, ty_ag_29, ty_ag_3, ty_ag_31, ty_ag_33, ty_ag_35, ty_ag_4, ty_ag_40, ty_ag_42, ty_ag_45, ty_ag_46, ty_ag_5, ty_ag_51, ty_ag_58, ty_ag_63, ty_ag_67, ty_ag_73, ty_ag_81, ty_ar_61, ty_by_46, ty_eg_67, ty_eg_81, ty_lv_67, ty_lv_81, ty_of_29_4, ty_of_35_0, ty_of_35_2, ty_of_42_0, ty_of_42_1, ty_of_45_0, ty_of_48_0, ty_of_48_1, ty_of_48_2, ty_of_48_3, ty_of_58_0, ty_of_58_9, ty_ok_61, ty_ok_63, ty_ok_81, ty_pl_61_0, ty_pl_61_1, ty_pl_61_2, ty_pl_61_3, ty_pl_63_0, ty_pl_63_1, ty_pl_81_0, ty_pl_81_1, ty_sl_27, ty_sl_36, ty_sl_46, ty_sl_82, ty_sr_46, ty_sz_27, ty_sz_29, ty_sz_3, ty_sz_31, ty_sz_33, ty_sz_35, ty_sz_4, ty_sz_40, ty_sz_42, ty_sz_45, ty_sz_46, ty_sz_48, ty_sz_5, ty_sz_51, ty_sz_58, ty_sz_63, ty_sz_67, ty_sz_73, ty_sz_81, ty_ze_35, ty_ze_42, ty_ze_48, ty_ze_61, ty_ze_63, ty_ze_73, ty_ze_81, ty_zs_46]
                  | (with_reducible refine drawK_id ?_); refine drawK_auto hmix (by kernel_rfl) ?_
                  | (with_reducible refine draw_fin ?_ ?_); · kernel_rfl
                  | (with_reducible refine draw_id ?_); kernel_rfl
                  | ((with_reducible refine callK_id (f := 7) ?_); refine callK_fun c7 rfl rfl ?_)
                  | ((with_reducible refine callK_id (f := 9) ?_); refine callK_fun c9 rfl rfl ?_)
                  | ((with_reducible refine callK_id (f := 10) ?_); refine callK_fun c10 rfl rfl ?_)
                  | ((with_reducible refine callD_id (f := 11) ?_); refine callD_new (Hw' := [.rows true 1 [[.ref 1]], mpV B.cv B.Lv]) (Nw := []) [] [12, 13] (FunW_eq c11) (by simp [pullHW, roC, Function.comp_def, rows_pull, pullS, ix, pull_mV, pull_mS, pull_mE]) rfl rfl (by decide) (by simp [ne_mV, ne_mS, ne_mE]) (by simp [pullI, pullS, ix, kC_pull, kV, kC, encM, frC]) (by simp) ?_)
                  | ((with_reducible refine callK_id (f := 8) ?_); refine callK_funG (hG.at _) [10] [4, 5, 6, 7, 8, 9] cP (by simp [pullHW, roC, Function.comp_def, rows_pull, pullS, ix, prC_pull, pull_mV, pull_mS, pull_mE]) rfl rfl (by decide) (by simp [ne_mV, ne_mS, ne_mE]) (by simp [pullI, pullS, ix, frC]) ?_; rintro r Hn ⟨rfl, rfl⟩ -; skip)
                  | (with_reducible refine And.intro ?_ ?_; · omega)
                refine loopK_key (H2 := HR x B cf Lf [] 5 false false) (Wk.can [(19, 21, 0, 0), (19, 22, 0, 0)] [.inl 0, .inl 1, .inl 2, .inl 3, .inl 4, .inl 5, .inl 6, .inl 7, .inl 8, .inl 9, .inl 10, .inl 11, .inl 12, .inl 13, .inl 14, .inl 15, .inl 16, .inl 17, .inl 18, .inl 21, .inl 22, .inr 0, .inr 1] rfl (by simp [patL])) ?_ ?_
                · simp [Function.comp_def, get_gcT, get, put, gcI, pullI, pullS, gcH, patL, canL, canH, canTL, canT, rows_pull, ix, segR, HR, HH, HX, HB, HC, playC, rC, stC_pull, poC_pull, stQ_pull, fqC_pull, prC_pull, pull_mV, pull_mS, pull_mE]
                · refine key cf Lf [] 5 false false _ hF (by simp) ⟨?_, ?_, ?_, ?_, ?_⟩ ⟨?_, ?_, ?_⟩ <;> (simp [Function.comp_def, get_gcT, get, put, gcI, pullI, pullS, gcH, patL, canL, canH, canTL, canT, rows_pull, ix, g1, g3, g4, g5, g7]; done)
    case key =>
      clear cP hSh c7 c10 hF g1 g3 g4 g5 g7 tm
      intro cf Lf SS w a b tm hF hSl hT h3
      obtain ⟨g1, g3, g4, g5, g7⟩ := hT
      obtain ⟨g10, g11, g25⟩ := h3
      refine loopK_wk (by kernel_rfl) (I6 x B i cf Lf SS w a b) SS.length ⟨_, _, Wk.refl, 0, by omega, by omega, g1, g3, g4, g5, g7, g10, g11, g25, rfl⟩ ?_
      clear g1 g3 g4 g5 g7 g10 g11 g25
      rintro mm tm H ⟨k, rfl, hk, g1, g3, g4, g5, g7, g10, g11, g25, rfl⟩
      unfold HR HH HX HB HC playC rC
      simp only [List.cons_append, List.nil_append]
      by_cases hkl : k < SS.length
      · have q5 : decide ((k : Int) < (SS.length : Int)) = true := decide_eq_true (by omega)
        have z4 : (0 : Int) ≤ (k : Int) := by omega
        have z5 : (k : Int) < (SS.length : Int) := by omega
        have hk1 : IntKind.i64.wrap ((k : Int) + 1) = ((k + 1 : Nat) : Int) := by rw [wr_i64 (by omega) (by omega)]; rfl
        obtain ⟨e, he⟩ : ∃ e, SS[k]? = some e := ⟨_, List.getElem?_eq_getElem hkl⟩
        have hel3 : (SS.map stC)[k]? = some (stC e) := by rw [List.getElem?_map, he]; rfl
        repeat' first
          | with_reducible rfl
          | simp only [q5, z4, z5, hk1, hel3, stC, frC, List.append_eq, List.length_map, Int.toNat_natCast, g1, g3, g4, g5, g7, g10, g11, g25, RS_, argsTM, stepE, stBuiltin, stBox, stAlloc, stLoad, stStore, stField, stExtract, stBin, stUn, stConv, stNilCheck, stFieldV, stIndex, stIndexAddr, stLen, stMin, stMax, stBuild, fillI, stBuildSlice, setRows, stMakeSlice, stAppend, srcR, segR, rdCells, stSlice, bnd, stArr, stCopy, stConv2, isIntV, cutR, byteRows, rowByte, binStr, Option.map_some, Option.map_none, eq_self, canTL, canT, canH, canL, patL, gcH, gcT, gcI, get_gcT, pullS, pullI, pushS, push1, pushI, pullHW, roC, ix, List.map_map, Function.comp_def, List.zip_cons_cons, List.zip_nil_left, List.zip_nil_right, List.range'_zero, List.range'_succ, rd, get, put, IV.cells, ofValue, seg, spl, ldIV, binInt, eqI, cellsEq, leafEq, resI, flat, isT, upd, up1, nextM, cR, ptrC, nAl, isAl, ST_, Nat.reduceAdd, Nat.reduceMul, Nat.reduceEqDiff, Nat.reduceLeDiff, ne_eq, reduceCtorEq, reduceIte, forall_const, implies_true, Int.reduceToNat, Int.reduceLE, Int.reduceLT, bne, Int.reduceEq, Int.reduceNe, Int.reduceNeg, Int.reduceAdd, Int.reduceSub, Int.reduceMul, Int.reduceBEq, Int.reduceBNe, Nat.reduceLT, Nat.reduceSub, WLS, Tryd.underlying3, Tryd.underlying4, Tryd.underlying5, ty_ag_27, ty_ag_29, ty_ag_3, ty_ag_31, ty_ag_33, ty_ag_35, ty_ag_4, ty_ag_40, ty_ag_42, ty_ag_45, ty_ag_46, ty_ag_5, ty_ag_51, ty_ag_58, ty_ag_63, ty_ag_67, ty_ag_73, ty_ag_81, ty_ar_61, ty_by_46, ty_eg_67, ty_eg_81, ty_lv_67, ty_lv_81, ty_of_29_4, ty_of_35_0, ty_of_35_2, ty_of_42_0, ty_of_42_1, ty_of_45_0, ty_of_48_0, ty_of_48_1, ty_of_48_2, ty_of_48_3, ty_of_58_0, ty_of_58_9, ty_ok_61, ty_ok_63, ty_ok_81, ty_pl_61_0, ty_pl_61_1, ty_pl_61_2, ty_pl_61_3, ty_pl_63_0, ty_pl_63_1, ty_pl_81_0, ty_pl_81_1, ty_sl_27, ty_sl_36, ty_sl_46, ty_sl_82, ty_sr_46, ty_sz_27, ty_sz_29, ty_sz_3, ty_sz_31, ty_sz_33, ty_sz_35, ty_sz_4, ty_sz_40, ty_sz_42, ty_sz_45, ty_sz_46, ty_sz_48, ty_sz_5, ty_sz_51, ty_sz_58, ty_sz_63, ty_sz_67, ty_sz_73, ty_sz_81, ty_ze_35, ty_ze_42, ty_ze_48, ty_ze_61, ty_ze_63, ty_ze_73, ty_ze_81, ty_zs_46]
          | (with_reducible refine drawK_id ?_); refine drawK_auto hmix (by kernel_rfl) ?_
          | (with_reducible refine draw_fin ?_ ?_); · kernel_rfl
          | (with_reducible refine draw_id ?_); kernel_rfl
          | (with_reducible refine And.intro ?_ ?_; · omega)
        refine ⟨SS.length - (k + 1), _, _, by omega, Wk.gc [0, 1, 2, 3, 4, 5, 6, 7, 8, 9, 10, 11, 12, 13, 14, 15, 16, 17, 18, 19, 20, 21, 22] rfl (by decide), k + 1, rfl, by omega, ?_, ?_, ?_, ?_, ?_, ?_, ?_, ?_, ?_⟩
        · simp [Function.comp_def, get_gcT, get, put, gcI, pullI, pullS, gcH, patL, canL, canH, canTL, canT, rows_pull, ix, g1, g3, g4, g5, g7, g10, g11, g25]
        · simp [Function.comp_def, get_gcT, get, put, gcI, pullI, pullS, gcH, patL, canL, canH, canTL, canT, rows_pull, ix, g1, g3, g4, g5, g7, g10, g11, g25]
        · simp [Function.comp_def, get_gcT, get, put, gcI, pullI, pullS, gcH, patL, canL, canH, canTL, canT, rows_pull, ix, g1, g3, g4, g5, g7, g10, g11, g25]
        · simp [Function.comp_def, get_gcT, get, put, gcI, pullI, pullS, gcH, patL, canL, canH, canTL, canT, rows_pull, ix, g1, g3, g4, g5, g7, g10, g11, g25]
        · simp [Function.comp_def, get_gcT, get, put, gcI, pullI, pullS, gcH, patL, canL, canH, canTL, canT, rows_pull, ix, g1, g3, g4, g5, g7, g10, g11, g25]
        · simp [Function.comp_def, get_gcT, get, put, gcI, pullI, pullS, gcH, patL, canL, canH, canTL, canT, rows_pull, ix, g1, g3, g4, g5, g7, g10, g11, g25]
        · simp [Function.comp_def, get_gcT, get, put, gcI, pullI, pullS, gcH, patL, canL, canH, canTL, canT, rows_pull, ix, g1, g3, g4, g5, g7, g10, g11, g25]
        · simp [Function.comp_def, get_gcT, get, put, gcI, pullI, pullS, gcH, patL, canL, canH, canTL, canT, rows_pull, ix, g1, g3, g4, g5, g7, g10, g11, g25]
        · simp [Function.comp_def, get_gcT, get, put, gcI, pullI, pullS, gcH, patL, canL, canH, canTL, canT, rows_pull, ix, HR, HH, HX, HB, HC, playC, rC, stC_pull, poC_pull, stQ_pull, fqC_pull, prC_pull, pull_mV, pull_mS, pull_mE]
      · have q5 : decide ((k : Int) < (SS.length : Int)) = false := decide_eq_false (by omega)
        have hL1 : Lf.length ≤ 100000 := by have := hF.len; have := hB.r2; omega
        have c20 := f37 B.rm 20 cf Lf hF.s hF.c hL1 (sort_ok Lf hF.k hF.v hL1)
        unfold fdbC at c20
        repeat' first
          | with_reducible rfl
          | simp only [q5, eR_push, List.append_eq, List.length_map, Int.toNat_natCast, g1, g3, g4, g5, g7, g10, g11, g25, push_mV, push_mS, push_mE, rows_push1, RS_, argsTM, stepE, stBuiltin, stBox, stAlloc, stLoad, stStore, stField, stExtract, stBin, stUn, stConv, stNilCheck, stFieldV, stIndex, stIndexAddr, stLen, stMin, stMax, stBuild, fillI, stBuildSlice, setRows, stMakeSlice, stAppend, srcR, segR, rdCells, stSlice, bnd, stArr, stCopy, stConv2, isIntV, cutR, byteRows, rowByte, binStr, Option.map_some, Option.map_none, eq_self, canTL, canT, canH, canL, patL, gcH, gcT, gcI, get_gcT, pullS, pullI, pushS, push1, pushI, pullHW, roC, ix, List.map_map, Function.comp_def, List.zip_cons_cons, List.zip_nil_left, List.zip_nil_right, List.range'_zero, List.range'_succ, rd, get, put, IV.cells, ofValue, seg, spl, ldIV, binInt, eqI, cellsEq, leafEq, resI, flat, isT, upd, up1, nextM, cR, ptrC, nAl, isAl, ST_, Nat.reduceAdd, Nat.reduceMul, Nat.reduceEqDiff, Nat.reduceLeDiff, ne_eq, reduceCtorEq, reduceIte, forall_const, implies_true, Int.reduceToNat, Int.reduceLE, Int.reduceLT, bne, Int.reduceEq, Int.reduceNe, Int.reduceNeg, Int.reduceAdd, Int.reduceSub, Int.reduceMul, Int.reduceBEq, Int.reduceBNe, Nat.reduceLT, Nat.reduceSub, WLS, Tryd.underlying3, Tryd.underlying4, Tryd.underlying5, ty_ag_27, ty_ag_29, ty_ag_3, ty_ag_31, ty_ag_33, ty_ag_35, ty_ag_4, ty_ag_40, ty_ag_42, ty_ag_45, ty_ag_46, ty_ag_5, ty_ag_51, ty_ag_58, ty_ag_63, ty_ag_67, ty_ag_73, ty_ag_81, ty_ar_61, ty_by_46, ty_eg_67, ty_eg_81, ty_lv_67, ty_lv_81, ty_of_29_4, ty_of_35_0, ty_of_35_2, ty_of_42_0, ty_of_42_1, ty_of_45_0, ty_of_48_0, ty_of_48_1, ty_of_48_2, ty_of_48_3, ty_of_58_0, ty_of_58_9, ty_ok_61, ty_ok_63, ty_ok_81, ty_pl_61_0, ty_pl_61_1, ty_pl_61_2, ty_pl_61_3, ty_pl_63_0, ty_pl_63_1, ty_pl_81_0, ty_pl_81_1, ty_sl_27, ty_sl_36, ty_sl_46, ty_sl_82, ty_sr_46, ty_sz_27, ty_sz_29, ty_sz_3, ty_sz_31, ty_sz_33, ty_sz_35, ty_sz_4, ty_sz_40, ty_sz_42, ty_sz_45, ty_sz_46, ty_sz_48, ty_sz_5, ty_sz_51, ty_sz_58, ty_sz_63, ty_sz_67, ty_sz_73, ty_sz_81, ty_ze_35, ty_ze_42, ty_ze_48, ty_ze_61, ty_ze_63, ty_ze_73, ty_ze_81, ty_zs_46]
          | (with_reducible refine drawK_id (id := 47) ?_); refine drawK_of 2 hmix (by kernel_rfl) ?_
          | (with_reducible refine drawK_id ?_); refine drawK_auto hmix (by kernel_rfl) ?_
          | (with_reducible refine draw_fin ?_ ?_); · kernel_rfl
          | (with_reducible refine draw_id ?_); kernel_rfl
          | ((with_reducible refine callD_id (f := 20) (args := [.s (.ptr 8 0 0)]) ?_); refine callD_new (Hw' := [.rows true 3 [[.raw (.int .i64 B.rm), .raw (.int .i64 20), .ref 1]], mpC cf Lf]) (Nw := [.rows true 9 ((srt Lf).map eR)]) [] [8, 9] (FunW_eq c20) (by simp [pullHW, roC, Function.comp_def, rows_pull, pullS, ix, pull_mV, pull_mS, pull_mE]) rfl rfl (by decide) (by simp [ne_mV, ne_mS, ne_mE]) (by simp [pullI, pullS, ix, kC_pull, kV, kC, encM]) (by simp) ?_)
          | ((with_reducible refine callD_id (f := 20) (args := [.s (.ptr 16 0 0)]) ?_); refine callD_new (Hw' := [.rows true 3 [[.raw (.int .i64 B.rm), .raw (.int .i64 20), .ref 1]], mpC cf Lf]) (Nw := [.rows true 9 ((srt Lf).map eR)]) [] [16, 17] (FunW_eq c20) (by simp [pullHW, roC, Function.comp_def, rows_pull, pullS, ix, pull_mV, pull_mS, pull_mE]) rfl rfl (by decide) (by simp [ne_mV, ne_mS, ne_mE]) (by simp [pullI, pullS, ix, kC_pull, kV, kC, encM]) (by simp) ?_)
          | (with_reducible refine And.intro ?_ ?_; · omega)
        refine loopK_wk (by kernel_rfl) (I8 x B i cf Lf) (srt Lf).length ⟨_, _, Wk.gc [0, 1, 2, 3, 4, 5, 6, 7, 8, 9, 10, 11, 12, 13, 14, 15, 16, 17, 18, 23, 24] rfl (by decide), 0, by omega, by omega, ?_, ?_, ?_, ?_, ?_, ?_, ?_, ?_, ?_⟩ ?_
        · simp [Function.comp_def, get_gcT, get, put, gcI, pullI, pullS, gcH, patL, canL, canH, canTL, canT, rows_pull, ix, g1, g3, g4, g5, g7, g10, g11, g25]
        · simp [Function.comp_def, get_gcT, get, put, gcI, pullI, pullS, gcH, patL, canL, canH, canTL, canT, rows_pull, ix, g1, g3, g4, g5, g7, g10, g11, g25]
        · simp [Function.comp_def, get_gcT, get, put, gcI, pullI, pullS, gcH, patL, canL, canH, canTL, canT, rows_pull, ix, g1, g3, g4, g5, g7, g10, g11, g25]
        · simp [Function.comp_def, get_gcT, get, put, gcI, pullI, pullS, gcH, patL, canL, canH, canTL, canT, rows_pull, ix, g1, g3, g4, g5, g7, g10, g11, g25]
        · simp [Function.comp_def, get_gcT, get, put, gcI, pullI, pullS, gcH, patL, canL, canH, canTL, canT, rows_pull, ix, g1, g3, g4, g5, g7, g10, g11, g25]
        · simp [Function.comp_def, get_gcT, get, put, gcI, pullI, pullS, gcH, patL, canL, canH, canTL, canT, rows_pull, ix, g1, g3, g4, g5, g7, g10, g11, g25]
        · simp [Function.comp_def, get_gcT, get, put, gcI, pullI, pullS, gcH, patL, canL, canH, canTL, canT, rows_pull, ix, g1, g3, g4, g5, g7, g10, g11, g25]
        · simp [Function.comp_def, get_gcT, get, put, gcI, pullI, pullS, gcH, patL, canL, canH, canTL, canT, rows_pull, ix, g1, g3, g4, g5, g7, g10, g11, g25]
        · simp [Function.comp_def, get_gcT, get, put, gcI, pullI, pullS, gcH, patL, canL, canH, canTL, canT, rows_pull, ix, g1, g3, g4, g5, g7, g10, g11, g25, HH, HX, HB, HC, playC, rC, stC_pull, poC_pull, stQ_pull, fqC_pull, prC_pull, pull_mV, pull_mS, pull_mE, eR_pull]
        clear g1 g3 g4 g5 g7 g10 g11 g25
        rintro mm tm H ⟨k2, rfl, hk2, g1, g3, g4, g5, g7, g26, g27, g28, rfl⟩
        have hsl := srt_len Lf
        unfold HH HX HB HC playC
        simp only [List.cons_append, List.nil_append]
        by_cases hkl2 : k2 < (srt Lf).length
        · have q6 : decide ((k2 : Int) < (Lf.length : Int)) = true := decide_eq_true (by omega)
          have z4 : (0 : Int) ≤ (k2 : Int) := by omega
          have z5 : (k2 : Int) < (Lf.length : Int) := by omega
          have hk1 : IntKind.i64.wrap ((k2 : Int) + 1) = ((k2 + 1 : Nat) : Int) := by rw [wr_i64 (by omega) (by omega)]; rfl
          obtain ⟨e, he⟩ : ∃ e, (srt Lf)[k2]? = some e := ⟨_, List.getElem?_eq_getElem hkl2⟩
          have hel3 : ((srt Lf).map eR)[k2]? = some (eR e) := by rw [List.getElem?_map, he]; rfl
          have hE : eR e = [.raw (.int .u16 e.k.v), .raw (.int .u8 e.k.m.m0), .raw (.int .u8 e.k.m.m1), .raw (.int .u8 e.k.m.m2), .raw (.int .u8 e.k.m.m3), .raw (.int .u8 e.k.m.m4), .raw (.int .u8 e.k.m.m5), .raw (.int .i64 e.p), .raw (.int .i64 e.g)] := rfl
          repeat' first
            | with_reducible rfl
            | simp only [q6, z4, z5, hk1, hel3, hE, List.append_eq, List.length_map, Int.toNat_natCast, g1, g3, g4, g5, g7, g26, g27, g28, RS_, argsTM, stepE, stBuiltin, stBox, stAlloc, stLoad, stStore, stField, stExtract, stBin, stUn, stConv, stNilCheck, stFieldV, stIndex, stIndexAddr, stLen, stMin, stMax, stBuild, fillI, stBuildSlice, setRows, stMakeSlice, stAppend, srcR, segR, rdCells, stSlice, bnd, stArr, stCopy, stConv2, isIntV, cutR, byteRows, rowByte, binStr, Option.map_some, Option.map_none, eq_self, canTL, canT, canH, canL, patL, gcH, gcT, gcI, get_gcT, pullS, pullI, pushS, push1, pushI, pullHW, roC, ix, List.map_map, Function.comp_def, List.zip_cons_cons, List.zip_nil_left, List.zip_nil_right, List.range'_zero, List.range'_succ, rd, get, put, IV.cells, ofValue, seg, spl, ldIV, binInt, eqI, cellsEq, leafEq, resI, flat, isT, upd, up1, nextM, cR, ptrC, nAl, isAl, ST_, Nat.reduceAdd, Nat.reduceMul, Nat.reduceEqDiff, Nat.reduceLeDiff, ne_eq, reduceCtorEq, reduceIte, forall_const, implies_true, Int.reduceToNat, Int.reduceLE, Int.reduceLT, bne, Int.reduceEq, Int.reduceNe, Int.reduceNeg, Int.reduceAdd, Int.reduceSub, Int.reduceMul, Int.reduceBEq, Int.reduceBNe, Nat.reduceLT, Nat.reduceSub, WLS, Tryd.underlying3, Tryd.underlying4, Tryd.underlying5, ty_ag_27, ty_ag_29, ty_ag_3, ty_ag_31, ty_ag_33, ty_ag_35, ty_ag_4, ty_ag_40, ty_ag_42, ty_ag_45, ty_ag_46, ty_ag_5, ty_ag_51, ty_ag_58, ty_ag_63, ty_ag_67, ty_ag_73, ty_ag_81, ty_ar_61, ty_by_46, ty_eg_67, ty_eg_81, ty_lv_67, ty_lv_81, ty_of_29_4, ty_of_35_0, ty_of_35_2, ty_of_42_0, ty_of_42_1, ty_of_45_0, ty_of_48_0, ty_of_48_1, ty_of_48_2, ty_of_48_3, ty_of_58_0, ty_of_58_9, ty_ok_61, ty_ok_63, ty_ok_81, ty_pl_61_0, ty_pl_61_1, ty_pl_61_2, ty_pl_61_3, ty_pl_63_0, ty_pl_63_1, ty_pl_81_0, ty_pl_81_1, ty_sl_27, ty_sl_36, ty_sl_46, ty_sl_82, ty_sr_46, ty_sz_27, ty_sz_29, ty_sz_3, ty_sz_31, ty_sz_33, ty_sz_35, ty_sz_4, ty_sz_40, ty_sz_42, ty_sz_45, ty_sz_46, ty_sz_48, ty_sz_5, ty_sz_51, ty_sz_58, ty_sz_63, ty_sz_67, ty_sz_73, ty_sz_81, ty_ze_35, ty_ze_42, ty_ze_48, ty_ze_61, ty_ze_63, ty_ze_73, ty_ze_81, ty_zs_46]
            | (with_reducible refine drawK_id ?_); refine drawK_auto hmix (by kernel_rfl) ?_
            | (with_reducible refine draw_fin ?_ ?_); · kernel_rfl
            | (with_reducible refine draw_id ?_); kernel_rfl
            | (with_reducible refine And.intro ?_ ?_; · omega)
          refine ⟨(srt Lf).length - (k2 + 1), _, _, by omega, Wk.gc [0, 1, 2, 3, 4, 5, 6, 7, 8, 9, 10, 11, 12, 13, 14, 15, 16, 17, 18, 19, 20] rfl (by decide), k2 + 1, rfl, by omega, ?_, ?_, ?_, ?_, ?_, ?_, ?_, ?_, ?_⟩
          · simp [Function.comp_def, get_gcT, get, put, gcI, pullI, pullS, gcH, patL, canL, canH, canTL, canT, rows_pull, ix, g1, g3, g4, g5, g7, g26, g27, g28]
          · simp [Function.comp_def, get_gcT, get, put, gcI, pullI, pullS, gcH, patL, canL, canH, canTL, canT, rows_pull, ix, g1, g3, g4, g5, g7, g26, g27, g28]
          · simp [Function.comp_def, get_gcT, get, put, gcI, pullI, pullS, gcH, patL, canL, canH, canTL, canT, rows_pull, ix, g1, g3, g4, g5, g7, g26, g27, g28]
          · simp [Function.comp_def, get_gcT, get, put, gcI, pullI, pullS, gcH, patL, canL, canH, canTL, canT, rows_pull, ix, g1, g3, g4, g5, g7, g26, g27, g28]
          · simp [Function.comp_def, get_gcT, get, put, gcI, pullI, pullS, gcH, patL, canL, canH, canTL, canT, rows_pull, ix, g1, g3, g4, g5, g7, g26, g27, g28]
          · simp [Function.comp_def, get_gcT, get, put, gcI, pullI, pullS, gcH, patL, canL, canH, canTL, canT, rows_pull, ix, g1, g3, g4, g5, g7, g26, g27, g28]
          · simp [Function.comp_def, get_gcT, get, put, gcI, pullI, pullS, gcH, patL, canL, canH, canTL, canT, rows_pull, ix, g1, g3, g4, g5, g7, g26, g27, g28]
          · simp [Function.comp_def, get_gcT, get, put, gcI, pullI, pullS, gcH, patL, canL, canH, canTL, canT, rows_pull, ix, g1, g3, g4, g5, g7, g26, g27, g28]
          · simp [Function.comp_def, get_gcT, get, put, gcI, pullI, pullS, gcH, patL, canL, canH, canTL, canT, rows_pull, ix, HH, HX, HB, HC, playC, rC, stC_pull, poC_pull, stQ_pull, fqC_pull, prC_pull, pull_mV, pull_mS, pull_mE, eR_pull]
        · have q6 : decide ((k2 : Int) < (Lf.length : Int)) = false := decide_eq_false (by omega)
          repeat' first
            | with_reducible rfl
            | simp only [q6, hi1, List.append_eq, List.length_map, Int.toNat_natCast, g1, g3, g4, g5, g7, g26, g27, g28, RS_, argsTM, stepE, stBuiltin, stBox, stAlloc, stLoad, stStore, stField, stExtract, stBin, stUn, stConv, stNilCheck, stFieldV, stIndex, stIndexAddr, stLen, stMin, stMax, stBuild, fillI, stBuildSlice, setRows, stMakeSlice, stAppend, srcR, segR, rdCells, stSlice, bnd, stArr, stCopy, stConv2, isIntV, cutR, byteRows, rowByte, binStr, Option.map_some, Option.map_none, eq_self, canTL, canT, canH, canL, patL, gcH, gcT, gcI, get_gcT, pullS, pullI, pushS, push1, pushI, pullHW, roC, ix, List.map_map, Function.comp_def, List.zip_cons_cons, List.zip_nil_left, List.zip_nil_right, List.range'_zero, List.range'_succ, rd, get, put, IV.cells, ofValue, seg, spl, ldIV, binInt, eqI, cellsEq, leafEq, resI, flat, isT, upd, up1, nextM, cR, ptrC, nAl, isAl, ST_, Nat.reduceAdd, Nat.reduceMul, Nat.reduceEqDiff, Nat.reduceLeDiff, ne_eq, reduceCtorEq, reduceIte, forall_const, implies_true, Int.reduceToNat, Int.reduceLE, Int.reduceLT, bne, Int.reduceEq, Int.reduceNe, Int.reduceNeg, Int.reduceAdd, Int.reduceSub, Int.reduceMul, Int.reduceBEq, Int.reduceBNe, Nat.reduceLT, Nat.reduceSub, WLS, Tryd.underlying3, Tryd.underlying4, Tryd.underlying5, ty_ag_27, ty_ag_29, ty_ag_3, ty_ag_31, ty_ag_33, ty_ag_35, ty_ag_4, ty_ag_40, ty_ag_42, ty_ag_45, ty_ag_46, ty_ag_5, ty_ag_51, ty_ag_58, ty_ag_63, ty_ag_67, ty_ag_73, ty_ag_81, ty_ar_61, ty_by_46, ty_eg_67, ty_eg_81, ty_lv_67, ty_lv_81, ty_of_29_4, ty_of_35_0, ty_of_35_2, ty_of_42_0, ty_of_42_1, ty_of_45_0, ty_of_48_0, ty_of_48_1, ty_of_48_2, ty_of_48_3, ty_of_58_0, ty_of_58_9, ty_ok_61, ty_ok_63, ty_ok_81, ty_pl_61_0, ty_pl_61_1, ty_pl_61_2, ty_pl_61_3, ty_pl_63_0, ty_pl_63_1, ty_pl_81_0, ty_pl_81_1, ty_sl_27, ty_sl_36, ty_sl_46, ty_sl_82, ty_sr_46, ty_sz_27, ty_sz_29, ty_sz_3, ty_sz_31, ty_sz_33, ty_sz_35, ty_sz_4, ty_sz_40, ty_sz_42, ty_sz_45, ty_sz_46, ty_sz_48, ty_sz_5, ty_sz_51, ty_sz_58, ty_sz_63, ty_sz_67, ty_sz_73, ty_sz_81, ty_ze_35, ty_ze_42, ty_ze_48, ty_ze_61, ty_ze_63, ty_ze_73, ty_ze_81, ty_zs_46]
            | (with_reducible refine drawK_id ?_); refine drawK_auto hmix (by kernel_rfl) ?_
            | (with_reducible refine draw_fin ?_ ?_); · kernel_rfl
            | (with_reducible refine draw_id ?_); kernel_rfl
            | (with_reducible refine And.intro ?_ ?_; · omega)
          refine ⟨x.fs.length - (i + 1), _, _, by omega, Wk.gc [0, 1, 2, 3, 4, 5, 6, 7, 8, 9, 10, 11, 12, 13, 14, 15, 16, 17, 18] rfl (by decide), i + 1, cf, Lf, rfl, by omega, hF, ?_, ?_, ?_, ?_, ?_, ?_⟩
          · simp [Function.comp_def, get_gcT, get, put, gcI, pullI, pullS, gcH, patL, canL, canH, canTL, canT, rows_pull, ix, g1, g3, g4, g5, g7, g26, g27, g28]
          · simp [Function.comp_def, get_gcT, get, put, gcI, pullI, pullS, gcH, patL, canL, canH, canTL, canT, rows_pull, ix, g1, g3, g4, g5, g7, g26, g27, g28]
          · simp [Function.comp_def, get_gcT, get, put, gcI, pullI, pullS, gcH, patL, canL, canH, canTL, canT, rows_pull, ix, g1, g3, g4, g5, g7, g26, g27, g28]
          · simp [Function.comp_def, get_gcT, get, put, gcI, pullI, pullS, gcH, patL, canL, canH, canTL, canT, rows_pull, ix, g1, g3, g4, g5, g7, g26, g27, g28]
          · simp [Function.comp_def, get_gcT, get, put, gcI, pullI, pullS, gcH, patL, canL, canH, canTL, canT, rows_pull, ix, g1, g3, g4, g5, g7, g26, g27, g28]
          · simp [Function.comp_def, get_gcT, get, put, gcI, pullI, pullS, gcH, patL, canL, canH, canTL, canT, rows_pull, ix, HH, HX, HB, HC, playC, rC, stC_pull, poC_pull, stQ_pull, fqC_pull, prC_pull, pull_mV, pull_mS, pull_mE]
  · cases q1 : decide ((i : Int) < (x.fs.length : Int)) with
    | true =>
      have q2 : decide ((i : Int) < 40) = false := decide_eq_false (by have := of_decide_eq_true q1; omega)
      repeat' first
        | with_reducible rfl
        | simp only [q1, q2, List.length_map, g1, g3, g4, g5, g7, RS_, argsTM, stepE, stBuiltin, stBox, stAlloc, stLoad, stStore, stField, stExtract, stBin, stUn, stConv, stNilCheck, stFieldV, stIndex, stIndexAddr, stLen, stMin, stMax, stBuild, fillI, stBuildSlice, setRows, stMakeSlice, stAppend, srcR, segR, rdCells, stSlice, bnd, stArr, stCopy, stConv2, isIntV, cutR, byteRows, rowByte, binStr, Option.map_some, Option.map_none, eq_self, canTL, canT, canH, canL, patL, gcH, gcT, gcI, get_gcT, pullS, pullI, pushS, push1, pushI, pullHW, roC, ix, List.map_map, Function.comp_def, List.zip_cons_cons, List.zip_nil_left, List.zip_nil_right, List.range'_zero, List.range'_succ, rd, get, put, IV.cells, ofValue, seg, spl, ldIV, binInt, eqI, cellsEq, leafEq, resI, flat, isT, upd, up1, nextM, cR, ptrC, nAl, isAl, ST_, Nat.reduceAdd, Nat.reduceMul, Nat.reduceEqDiff, Nat.reduceLeDiff, ne_eq, reduceCtorEq, reduceIte, forall_const, implies_true, Int.reduceToNat, Int.reduceLE, Int.reduceLT, bne, Int.reduceEq, Int.reduceNe, Int.reduceNeg, Int.reduceAdd, Int.reduceSub, Int.reduceMul, Int.reduceBEq, Int.reduceBNe, Nat.reduceLT, Nat.reduceSub, WLS, Tryd.underlying3, Tryd.underlying4, Tryd.underlying5, ty_ag_27, ty_ag_29, ty_ag_3, ty_ag_31, ty_ag_33, ty_ag_35, ty_ag_4, ty_ag_40, ty_ag_42, ty_ag_45, ty_ag_46, ty_ag_5, ty_ag_51, ty_ag_58, ty_ag_63, ty_ag_67, ty_ag_73, ty_ag_81, ty_ar_61, ty_by_46, ty_eg_67, ty_eg_81, ty_lv_67, ty_lv_81, ty_of_29_4, ty_of_35_0, ty_of_35_2, ty_of_42_0, ty_of_42_1, ty_of_45_0, ty_of_48_0, ty_of_48_1, ty_of_48_2, ty_of_48_3, ty_of_58_0, ty_of_58_9, ty_ok_61, ty_ok_63, ty_ok_81, ty_pl_61_0, ty_pl_61_1, ty_pl_61_2, ty_pl_61_3, ty_pl_63_0, ty_pl_63_1, ty_pl_81_0, ty_pl_81_1, ty_sl_27, ty_sl_36, ty_sl_46, ty_sl_82, ty_sr_46, ty_sz_27, ty_sz_29, ty_sz_3, ty_sz_31, ty_sz_33, ty_sz_35, ty_sz_4, ty_sz_40, ty_sz_42, ty_sz_45, ty_sz_46, ty_sz_48, ty_sz_5, ty_sz_51, ty_sz_58, ty_sz_63, ty_sz_67, ty_sz_73, ty_sz_81, ty_ze_35, ty_ze_42, ty_ze_48, ty_ze_61, ty_ze_63, ty_ze_73, ty_ze_81, ty_zs_46]
        | (with_reducible refine drawK_id ?_); refine drawK_auto hmix (by kernel_rfl) ?_
        | (with_reducible refine draw_fin ?_ ?_); · kernel_rfl
        | (with_reducible refine draw_id ?_); kernel_rfl
        | (with_reducible refine And.intro ?_ ?_; · omega)
    | false =>
      repeat' first
        | with_reducible rfl
        | simp only [q1, List.length_map, g1, g3, g4, g5, g7, RS_, argsTM, stepE, stBuiltin, stBox, stAlloc, stLoad, stStore, stField, stExtract, stBin, stUn, stConv, stNilCheck, stFieldV, stIndex, stIndexAddr, stLen, stMin, stMax, stBuild, fillI, stBuildSlice, setRows, stMakeSlice, stAppend, srcR, segR, rdCells, stSlice, bnd, stArr, stCopy, stConv2, isIntV, cutR, byteRows, rowByte, binStr, Option.map_some, Option.map_none, eq_self, canTL, canT, canH, canL, patL, gcH, gcT, gcI, get_gcT, pullS, pullI, pushS, push1, pushI, pullHW, roC, ix, List.map_map, Function.comp_def, List.zip_cons_cons, List.zip_nil_left, List.zip_nil_right, List.range'_zero, List.range'_succ, rd, get, put, IV.cells, ofValue, seg, spl, ldIV, binInt, eqI, cellsEq, leafEq, resI, flat, isT, upd, up1, nextM, cR, ptrC, nAl, isAl, ST_, Nat.reduceAdd, Nat.reduceMul, Nat.reduceEqDiff, Nat.reduceLeDiff, ne_eq, reduceCtorEq, reduceIte, forall_const, implies_true, Int.reduceToNat, Int.reduceLE, Int.reduceLT, bne, Int.reduceEq, Int.reduceNe, Int.reduceNeg, Int.reduceAdd, Int.reduceSub, Int.reduceMul, Int.reduceBEq, Int.reduceBNe, Nat.reduceLT, Nat.reduceSub, WLS, Tryd.underlying3, Tryd.underlying4, Tryd.underlying5, ty_ag_27, ty_ag_29, ty_ag_3, ty_ag_31, ty_ag_33, ty_ag_35, ty_ag_4, ty_ag_40, ty_ag_42, ty_ag_45, ty_ag_46, ty_ag_5, ty_ag_51, ty_ag_58, ty_ag_63, ty_ag_67, ty_ag_73, ty_ag_81, ty_ar_61, ty_by_46, ty_eg_67, ty_eg_81, ty_lv_67, ty_lv_81, ty_of_29_4, ty_of_35_0, ty_of_35_2, ty_of_42_0, ty_of_42_1, ty_of_45_0, ty_of_48_0, ty_of_48_1, ty_of_48_2, ty_of_48_3, ty_of_58_0, ty_of_58_9, ty_ok_61, ty_ok_63, ty_ok_81, ty_pl_61_0, ty_pl_61_1, ty_pl_61_2, ty_pl_61_3, ty_pl_63_0, ty_pl_63_1, ty_pl_81_0, ty_pl_81_1, ty_sl_27, ty_sl_36, ty_sl_46, ty_sl_82, ty_sr_46, ty_sz_27, ty_sz_29, ty_sz_3, ty_sz_31, ty_sz_33, ty_sz_35, ty_sz_4, ty_sz_40, ty_sz_42, ty_sz_45, ty_sz_46, ty_sz_48, ty_sz_5, ty_sz_51, ty_sz_58, ty_sz_63, ty_sz_67, ty_sz_73, ty_sz_81, ty_ze_35, ty_ze_42, ty_ze_48, ty_ze_61, ty_ze_63, ty_ze_73, ty_ze_81, ty_zs_46]
        | (with_reducible refine drawK_id ?_); refine drawK_auto hmix (by kernel_rfl) ?_
        | (with_reducible refine draw_fin ?_ ?_); · kernel_rfl
        | (with_reducible refine draw_id ?_); kernel_rfl
        | (with_reducible refine And.intro ?_ ?_; · omega)
end Go.Ev
