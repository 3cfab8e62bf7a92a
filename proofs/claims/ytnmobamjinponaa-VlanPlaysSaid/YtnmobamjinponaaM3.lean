/- A part of the proof: contracts of the functions that the statement reaches. -/
import Derived.Test.YtnmobamjinponaaEvC
import Derived.Test.YtnmobamjinponaaM2
namespace Go.Ev
open Go.Proofs
set_option maxRecDepth 100000
set_option linter.unusedSimpArgs false
set_option linter.unusedVariables false
set_option maxHeartbeats 4000000
open Srt Go.RowKit
theorem pull_w (σ : List Nat) (L : List Int) : (L.map w16).map (fun r => r.map (pullS σ)) = L.map w16 := by rw [List.map_map]; rfl
/-- slices.Collect of a table's keys. -/
theorem collectW (cv : Nat) (L : List VEN) (hL : L.length ≤ 1000) : FunW Try.prog 77 [] [mpV cv L, .rows true 1 [[.ref 0]], kClo] [.s (.ref 2)]
    fun r Hn => ∃ ys : List Int, ys.Perm (L.map (·.v)) ∧ r = .s (.slice 3 0 ys.length) ∧ Hn = [mpV cv L, .rows true 1 [[.ref 0]], kClo, .rows true 1 (ys.map w16)] := by
  refine funW_of fun X => ?_
  have cA := appendW cv L hL
  refine callK_inline (rs := [.tmp 2]) (n := 5) Try.func77 rfl rfl rfl (by kernel_rfl) (by kernel_rfl) (by simp only [List.length_cons, List.length_nil]; decide) ?_
  repeat' first
    | with_reducible rfl
    | simp only [List.length_map, push_V, pull_V, rwp1, clo_pull, clo_push, pw16, w16_push, RS_, argsTM, stepE, stBuiltin, stBox, stAlloc, stLoad, stStore, stField, stExtract, stBin, stUn, stConv, stNilCheck, stFieldV, stIndex, stIndexAddr, stLen, stMin, stMax, stBuild, fillI, stBuildSlice, setRows, stMakeSlice, stAppend, srcR, segR, rdCells, stSlice, bnd, stArr, stCopy, stConv2, isIntV, cutR, byteRows, rowByte, binStr, Option.map_some, Option.map_none, eq_self, canTL, canT, canH, canL, patL, gcH, gcT, gcI, get_gcT, pullS, pullI, pushS, push1, pushI, pullHW, roC, ix, List.map_map, Function.comp_def, List.zip_cons_cons, List.zip_nil_left, List.zip_nil_right, List.range'_zero, List.range'_succ, rd, get, put, IV.cells, ofValue, seg, spl, ldIV, binInt, eqI, cellsEq, leafEq, resI, flat, isT, upd, up1, nextM, cR, ptrC, nAl, isAl, ST_, Nat.reduceAdd, Nat.reduceMul, Nat.reduceEqDiff, Nat.reduceLeDiff, ne_eq, reduceCtorEq, reduceIte, forall_const, implies_true, Int.reduceToNat, Int.reduceLE, Int.reduceLT, bne, Int.reduceEq, Int.reduceNe, Int.reduceNeg, Int.reduceAdd, Int.reduceSub, Int.reduceMul, Int.reduceBEq, Int.reduceBNe, Nat.reduceLT, Nat.reduceSub, WLS, ]
    | (with_reducible refine drawK_id ?_); refine drawK_auto hmix (by kernel_rfl) ?_
    | (with_reducible refine draw_fin ?_ ?_); · kernel_rfl
    | (with_reducible refine draw_id ?_); kernel_rfl
    | ((with_reducible refine callK_id (f := 94) ?_); refine callK_funW [] [0, 1, 2] (cA) (by simp [pullHW, roC, Function.comp_def, rows_pull, pullS, ix, push_V, pull_V, rwp1, clo_pull, clo_push, pw16, w16_push, kClo, pullI, push1, pushI, pushS, w16_pull]) rfl rfl (by decide) (by simp [ne_V, kClo, clo_push]) (by simp [pullI, pullS, ix]) ?_; rintro r Hn ⟨ys, hys, rfl, rfl⟩ -; skip)
    | (with_reducible refine And.intro ?_ ?_; · omega)
  refine ⟨_, _, (WkR.gc [0, 1, 2, 3] rfl (by decide)).to ?_ ?_, by simp, ys, hys, rfl, rfl⟩
  · simp [gcI, pullI, pullS, ix]
  · simp [Function.comp_def, get_gcT, get, put, gcI, pullI, pullS, gcH, patL, canL, canH, canTL, canT, rows_pull, ix, kClo, pull_V, clo_pull, clo_push, pushI, push1, pushS, w16_pull, pull_w]
def leV (a b : VEN) : Bool := decide (a.v ≤ b.v)
/-- A table's entries in the order of their numbers. -/
def srtV (L : List VEN) : List VEN := L.mergeSort leV
theorem srtV_perm (L : List VEN) : (srtV L).Perm L := List.mergeSort_perm L leV
theorem srtV_len (L : List VEN) : (srtV L).length = L.length := (srtV_perm L).length_eq
theorem srtV_mem {L : List VEN} {e : VEN} : e ∈ srtV L ↔ e ∈ L := (srtV_perm L).mem_iff
theorem srtV_asc (L : List VEN) : ((srtV L).map (·.v)).Pairwise (· ≤ ·) := by
  rw [List.pairwise_map]
  have := List.pairwise_mergeSort (le := leV) (fun a b c h1 h2 => by unfold leV at *; have := of_decide_eq_true h1; have := of_decide_eq_true h2; exact decide_eq_true (by omega)) (fun a b => by unfold leV; rcases Int.le_total a.v b.v with h | h <;> simp [h]) L
  exact this.imp fun h => of_decide_eq_true h
theorem asc_pw {M : List Int} (h : Asc M 0 M.length) : M.Pairwise (· ≤ ·) := by
  rw [List.pairwise_iff_getElem]
  intro i j hi hj hij
  have := h i j (Nat.zero_le _) hij hj
  simpa [gI, hi, hj] using this
theorem asc_one {L : List VEN} {M : List Int} (hp : M.Perm (L.map (·.v))) (ha : Asc M 0 M.length) : M = (srtV L).map (·.v) :=
  List.Perm.eq_of_pairwise (le := (· ≤ ·)) (fun a b _ _ h1 h2 => Int.le_antisymm h1 h2) (asc_pw ha) (srtV_asc L) (hp.trans ((srtV_perm L).map _).symm)
/-- slices.Sorted of a table's keys. -/
theorem sortedW (cv : Nat) (L : List VEN) (hL : L.length ≤ 16) (hn : NDkV L) : FunW Try.prog 50 [] [mpV cv L, .rows true 1 [[.ref 0]], kClo] [.s (.ref 2)]
    fun r Hn => r = .s (.slice 3 0 L.length) ∧ Hn = [mpV cv L, .rows true 1 [[.ref 0]], kClo, .rows true 1 (((srtV L).map (·.v)).map w16)] := by
  refine funW_of fun X => ?_
  have cC := collectW cv L (by omega)
  refine callK_inline (rs := [.tmp 2]) (n := 9) Try.func50 rfl rfl rfl (by kernel_rfl) (by kernel_rfl) (by simp only [List.length_cons, List.length_nil]; decide) ?_
  repeat' first
    | with_reducible rfl
    | simp only [List.length_map, push_V, pull_V, rwp1, clo_pull, clo_push, pw16, w16_push, RS_, argsTM, stepE, stBuiltin, stBox, stAlloc, stLoad, stStore, stField, stExtract, stBin, stUn, stConv, stNilCheck, stFieldV, stIndex, stIndexAddr, stLen, stMin, stMax, stBuild, fillI, stBuildSlice, setRows, stMakeSlice, stAppend, srcR, segR, rdCells, stSlice, bnd, stArr, stCopy, stConv2, isIntV, cutR, byteRows, rowByte, binStr, Option.map_some, Option.map_none, eq_self, canTL, canT, canH, canL, patL, gcH, gcT, gcI, get_gcT, pullS, pullI, pushS, push1, pushI, pullHW, roC, ix, List.map_map, Function.comp_def, List.zip_cons_cons, List.zip_nil_left, List.zip_nil_right, List.range'_zero, List.range'_succ, rd, get, put, IV.cells, ofValue, seg, spl, ldIV, binInt, eqI, cellsEq, leafEq, resI, flat, isT, upd, up1, nextM, cR, ptrC, nAl, isAl, ST_, Nat.reduceAdd, Nat.reduceMul, Nat.reduceEqDiff, Nat.reduceLeDiff, ne_eq, reduceCtorEq, reduceIte, forall_const, implies_true, Int.reduceToNat, Int.reduceLE, Int.reduceLT, bne, Int.reduceEq, Int.reduceNe, Int.reduceNeg, Int.reduceAdd, Int.reduceSub, Int.reduceMul, Int.reduceBEq, Int.reduceBNe, Nat.reduceLT, Nat.reduceSub, WLS, ]
    | (with_reducible refine drawK_id ?_); refine drawK_auto hmix (by kernel_rfl) ?_
    | (with_reducible refine draw_fin ?_ ?_); · kernel_rfl
    | (with_reducible refine draw_id ?_); kernel_rfl
    | ((with_reducible refine callK_id (f := 77) ?_); refine callK_funW [] [0, 1, 2] (cC) (by simp [pullHW, roC, Function.comp_def, rows_pull, pullS, ix, push_V, pull_V, rwp1, clo_pull, clo_push, pw16, w16_push, kClo, pullI, push1, pushI, pushS, w16_pull]) rfl rfl (by decide) (by simp [ne_V, kClo, clo_push]) (by simp [pullI, pullS, ix]) ?_; rintro r Hn ⟨ys, hys, rfl, rfl⟩ -; skip)
    | (with_reducible refine And.intro ?_ ?_; · omega)
  have hl : ys.length = L.length := by rw [hys.length_eq]; simp
  have cS := sortW ys (hys.nodup_iff.2 hn) (by omega)
  repeat' first
    | with_reducible rfl
    | simp only [List.length_map, push_V, pull_V, rwp1, clo_pull, clo_push, pw16, w16_push, RS_, argsTM, stepE, stBuiltin, stBox, stAlloc, stLoad, stStore, stField, stExtract, stBin, stUn, stConv, stNilCheck, stFieldV, stIndex, stIndexAddr, stLen, stMin, stMax, stBuild, fillI, stBuildSlice, setRows, stMakeSlice, stAppend, srcR, segR, rdCells, stSlice, bnd, stArr, stCopy, stConv2, isIntV, cutR, byteRows, rowByte, binStr, Option.map_some, Option.map_none, eq_self, canTL, canT, canH, canL, patL, gcH, gcT, gcI, get_gcT, pullS, pullI, pushS, push1, pushI, pullHW, roC, ix, List.map_map, Function.comp_def, List.zip_cons_cons, List.zip_nil_left, List.zip_nil_right, List.range'_zero, List.range'_succ, rd, get, put, IV.cells, ofValue, seg, spl, ldIV, binInt, eqI, cellsEq, leafEq, resI, flat, isT, upd, up1, nextM, cR, ptrC, nAl, isAl, ST_, Nat.reduceAdd, Nat.reduceMul, Nat.reduceEqDiff, Nat.reduceLeDiff, ne_eq, reduceCtorEq, reduceIte, forall_const, implies_true, Int.reduceToNat, Int.reduceLE, Int.reduceLT, bne, Int.reduceEq, Int.reduceNe, Int.reduceNeg, Int.reduceAdd, Int.reduceSub, Int.reduceMul, Int.reduceBEq, Int.reduceBNe, Nat.reduceLT, Nat.reduceSub, WLS, ]
    | (with_reducible refine drawK_id ?_); refine drawK_auto hmix (by kernel_rfl) ?_
    | (with_reducible refine draw_fin ?_ ?_); · kernel_rfl
    | (with_reducible refine draw_id ?_); kernel_rfl
    | ((with_reducible refine callK_id (f := 78) ?_); refine callK_funW [] [3] (cS) (by simp [pullHW, roC, Function.comp_def, rows_pull, pullS, ix, push_V, pull_V, rwp1, clo_pull, clo_push, pw16, w16_push, kClo, pullI, push1, pushI, pushS, w16_pull]) rfl rfl (by decide) (by simp [ne_V, kClo, clo_push]) (by simp [pullI, pullS, ix]) ?_; rintro r Hn ⟨rfl, M, hM, hA, rfl⟩ -; skip)
    | (with_reducible refine And.intro ?_ ?_; · omega)
  have hml := hM.length_eq
  rw [asc_one (hM.trans hys) (hml ▸ hA), hl]
  refine ⟨_, _, (WkR.gc [0, 1, 2, 3] rfl (by decide)).to ?_ ?_, by simp, rfl, rfl⟩
  · simp [gcI, pullI, pullS, ix]
  · simp [Function.comp_def, get_gcT, get, put, gcI, pullI, pullS, gcH, patL, canL, canH, canTL, canT, rows_pull, ix, kClo, pull_V, clo_pull, clo_push, pushI, push1, pushS, w16_pull]
/-- A table's entry, looked up. -/
theorem hitL {X : Ctx} {tm : TM} {H : Heap} {k : TM → Heap → Prop} {d : Tmp} {m' key : Operand} {t : TypeId} {p : String} {af : Array Edge} {g : Option (Tmp × Bool)} {c cv : Nat} {L : List VEN} {e : VEN} (hn : NDkV L) (he : e ∈ L) (hm : rd tm m' = .s (.ref c))
    (hkey : rd tm key = .s (.raw (.int .u16 e.v))) (hc : H[c]? = some (mpV cv L)) (hk : k (put tm (some d) (.a (eV e))) H) : genK Try.prog X ⟨some d, .lookup 115 m' key false, t, p, af, g⟩ k tm H := by
  obtain ⟨l1, l2, rfl, h0⟩ := mem_splitV hn he
  have hsh := shpV (l1 ++ e :: l2)
  have h2 := noKV e.v _ h0
  have hh := hitV e.v
  rw [List.map_append, List.map_cons] at hsh
  rw [List.map_append] at h2
  unfold mpV at hc
  rw [List.map_append, List.map_cons] at hc
  exact lookup_hit ty_mpV ty_lkV hm hkey (sh_v _) hc hsh hh h2 hk
def HL (cv : Nat) (L : List VEN) (K : List Int) (i : Nat) : Heap := [tabV, mpV cv L, .rows true 1 (K.map w16), .rows true 3 (((srtV L).take i).map eV)]
def IL (cv : Nat) (L : List VEN) (K : List Int) (mm : Nat) (tm : TM) (H : Heap) : Prop := ∃ i : Nat, mm = L.length - i ∧ i ≤ L.length ∧ get tm 0 = .s (.ptr 0 0 0) ∧ get tm 13 = .s (.slice 2 0 L.length) ∧ get tm 14 = .s (.raw (.int .i64 (L.length : Int))) ∧ get tm 15 = .s (.raw (.int .i64 (i : Int))) ∧ get tm 3 = .s (.slice 3 0 i) ∧ H = HL cv L K i
/-- vlan.List. -/
theorem listW (cv : Nat) (L : List VEN) (hL : L.length ≤ 16) (hn : NDkV L) : FunW Try.prog 18 [] [tabV, mpV cv L] [.s (.ptr 0 0 0)] fun r Hn => r = .s (.slice 2 0 L.length) ∧ Hn = [tabV, mpV cv L, .rows true 3 ((srtV L).map eV)] := by
  refine funW_of fun X => ?_
  have cK := keysW cv L
  have cS := sortedW cv L hL hn
  have hK : ∀ (i : Nat) (e : VEN), (srtV L)[i]? = some e → (((srtV L).map (·.v)).map w16)[i]? = some (w16 e.v) := fun i e he => by rw [List.getElem?_map, List.getElem?_map, he]; rfl
  generalize (srtV L).map (·.v) = K at cS hK
  unfold tabV
  refine callK_inline (rs := [.tmp 2]) (n := 30) Try.func18 rfl rfl rfl (by kernel_rfl) (by kernel_rfl) (by simp only [List.length_cons, List.length_nil]; decide) ?_
  repeat' first
    | with_reducible rfl
    | simp only [List.length_map, push_V, pull_V, rwp1, clo_pull, clo_push, pw16, w16_push, RS_, argsTM, stepE, stBuiltin, stBox, stAlloc, stLoad, stStore, stField, stExtract, stBin, stUn, stConv, stNilCheck, stFieldV, stIndex, stIndexAddr, stLen, stMin, stMax, stBuild, fillI, stBuildSlice, setRows, stMakeSlice, stAppend, srcR, segR, rdCells, stSlice, bnd, stArr, stCopy, stConv2, isIntV, cutR, byteRows, rowByte, binStr, Option.map_some, Option.map_none, eq_self, canTL, canT, canH, canL, patL, gcH, gcT, gcI, get_gcT, pullS, pullI, pushS, push1, pushI, pullHW, roC, ix, List.map_map, Function.comp_def, List.zip_cons_cons, List.zip_nil_left, List.zip_nil_right, List.range'_zero, List.range'_succ, rd, get, put, IV.cells, ofValue, seg, spl, ldIV, binInt, eqI, cellsEq, leafEq, resI, flat, isT, upd, up1, nextM, cR, ptrC, nAl, isAl, ST_, Nat.reduceAdd, Nat.reduceMul, Nat.reduceEqDiff, Nat.reduceLeDiff, ne_eq, reduceCtorEq, reduceIte, forall_const, implies_true, Int.reduceToNat, Int.reduceLE, Int.reduceLT, bne, Int.reduceEq, Int.reduceNe, Int.reduceNeg, Int.reduceAdd, Int.reduceSub, Int.reduceMul, Int.reduceBEq, Int.reduceBNe, Nat.reduceLT, Nat.reduceSub, WLS, Try.underlying24, ty_ag_115, ty_ag_27, ty_by_45, ty_of_117_0, ty_sl_120, ty_sr_45, ty_sz_115, ty_sz_27, ty_zs_45]
    | (with_reducible refine drawK_id ?_); refine drawK_auto hmix (by kernel_rfl) ?_
    | (with_reducible refine draw_fin ?_ ?_); · kernel_rfl
    | (with_reducible refine draw_id ?_); kernel_rfl
    | ((with_reducible refine callK_id (f := 51) ?_); refine callK_funW [] [1] (cK) (by simp [pullHW, roC, Function.comp_def, rows_pull, pullS, ix, push_V, pull_V, rwp1, clo_pull, clo_push, pw16, w16_push, kClo, pullI, push1, pushI, pushS, w16_pull]) rfl rfl (by decide) (by simp [ne_V, kClo, clo_push]) (by simp [pullI, pullS, ix]) ?_; rintro r Hn ⟨rfl, rfl⟩ -; skip)
    | ((with_reducible refine callK_id (f := 50) ?_); refine callK_funW [] [1, 2, 3] (cS) (by simp [pullHW, roC, Function.comp_def, rows_pull, pullS, ix, push_V, pull_V, rwp1, clo_pull, clo_push, pw16, w16_push, kClo, pullI, push1, pushI, pushS, w16_pull]) rfl rfl (by decide) (by simp [ne_V, kClo, clo_push]) (by simp [pullI, pullS, ix]) ?_; rintro r Hn ⟨rfl, rfl⟩ -; skip)
    | (with_reducible refine And.intro ?_ ?_; · omega)
  refine loopK_wk (by kernel_rfl) (IL cv L K) L.length ⟨_, _, Wk.can2 [(3, 3)] [] [.inl 0, .inl 1, .inl 4, .inr 0] rfl (by simp [patL]), 0, by omega, by omega, by simp [Function.comp_def, get_gcT, get, put, gcI, pullI, pullS, gcH, patL, canL, canH, canTL, canT, rows_pull, ix, segR], by simp [Function.comp_def, get_gcT, get, put, gcI, pullI, pullS, gcH, patL, canL, canH, canTL, canT, rows_pull, ix, segR], by simp [Function.comp_def, get_gcT, get, put, gcI, pullI, pullS, gcH, patL, canL, canH, canTL, canT, rows_pull, ix, segR], by simp [Function.comp_def, get_gcT, get, put, gcI, pullI, pullS, gcH, patL, canL, canH, canTL, canT, rows_pull, ix, segR], by simp [Function.comp_def, get_gcT, get, put, gcI, pullI, pullS, gcH, patL, canL, canH, canTL, canT, rows_pull, ix, segR], ?_⟩ ?_
  · simp [Function.comp_def, get_gcT, get, put, gcI, pullI, pullS, gcH, patL, canL, canH, canTL, canT, rows_pull, ix, segR, HL, tabV, pull_V, w16_pull]
  rintro mm tm H ⟨i, rfl, hi, g0, g13, g14, g15, g3, rfl⟩
  have hR := srtV_len L
  unfold HL tabV
  by_cases hq : i < L.length
  · have q1 : decide ((i : Int) < (L.length : Int)) = true := decide_eq_true (by omega)
    have z0 : (0 : Int) ≤ (i : Int) := by omega
    have z1 : (i : Int) < (L.length : Int) := by omega
    have hi1 : IntKind.i64.wrap ((i : Int) + 1) = ((i + 1 : Nat) : Int) := by rw [wr_i64 (by omega) (by omega)]; rfl
    obtain ⟨e, he⟩ : ∃ e, (srtV L)[i]? = some e := ⟨_, List.getElem?_eq_getElem (by omega)⟩
    have hel := hK i e he
    have hm : e ∈ L := srtV_mem.1 (List.mem_of_getElem? he)
    have htl : ((srtV L).take i).length = i := by simp; omega
    have hbig : (i + 1) * 12 ≤ 140737488355328 := by omega
    repeat' first
      | with_reducible rfl
      | simp only [q1, g0, g13, g14, g15, g3, List.length_map, eV_len, push_V, pull_V, rwp1, clo_pull, clo_push, pw16, w16_push, z0, z1, hi1, hel, htl, hbig, w16_ap, Int.toNat_natCast, RS_, argsTM, stepE, stBuiltin, stBox, stAlloc, stLoad, stStore, stField, stExtract, stBin, stUn, stConv, stNilCheck, stFieldV, stIndex, stIndexAddr, stLen, stMin, stMax, stBuild, fillI, stBuildSlice, setRows, stMakeSlice, stAppend, srcR, segR, rdCells, stSlice, bnd, stArr, stCopy, stConv2, isIntV, cutR, byteRows, rowByte, binStr, Option.map_some, Option.map_none, eq_self, canTL, canT, canH, canL, patL, gcH, gcT, gcI, get_gcT, pullS, pullI, pushS, push1, pushI, pullHW, roC, ix, List.map_map, Function.comp_def, List.zip_cons_cons, List.zip_nil_left, List.zip_nil_right, List.range'_zero, List.range'_succ, rd, get, put, IV.cells, ofValue, seg, spl, ldIV, binInt, eqI, cellsEq, leafEq, resI, flat, isT, upd, up1, nextM, cR, ptrC, nAl, isAl, ST_, Nat.reduceAdd, Nat.reduceMul, Nat.reduceEqDiff, Nat.reduceLeDiff, ne_eq, reduceCtorEq, reduceIte, forall_const, implies_true, Int.reduceToNat, Int.reduceLE, Int.reduceLT, bne, Int.reduceEq, Int.reduceNe, Int.reduceNeg, Int.reduceAdd, Int.reduceSub, Int.reduceMul, Int.reduceBEq, Int.reduceBNe, Nat.reduceLT, Nat.reduceSub, WLS, Try.underlying24, ty_ag_115, ty_ag_27, ty_by_45, ty_of_117_0, ty_sl_120, ty_sr_45, ty_sz_115, ty_sz_27, ty_zs_45]
      | (with_reducible refine drawK_id ?_); refine drawK_auto hmix (by kernel_rfl) ?_
      | (with_reducible refine draw_fin ?_ ?_); · kernel_rfl
      | (with_reducible refine draw_id ?_); kernel_rfl
      | ((with_reducible refine genK_id ?_); refine hitL hn hm rfl rfl rfl ?_)
      | (with_reducible refine And.intro ?_ ?_; · omega)
    refine ⟨L.length - (i + 1), _, _, by omega, Wk.gc [0, 1, 2, 5] rfl (by decide), i + 1, rfl, by omega, ?_, ?_, ?_, ?_, ?_, ?_⟩ <;> first | with_reducible rfl | (simp [Function.comp_def, get_gcT, get, put, gcI, pullI, pullS, gcH, patL, canL, canH, canTL, canT, rows_pull, ix, segR, g0, g13, g14, hi1]; done) | skip
    have ht : (srtV L).take (i + 1) = (srtV L).take i ++ [e] := by rw [List.take_add_one, he]; rfl
    simp [Function.comp_def, get_gcT, get, put, gcI, pullI, pullS, gcH, patL, canL, canH, canTL, canT, rows_pull, ix, segR, HL, tabV, pull_V, w16_pull, eV_pull, ht]
  · have q1 : decide ((i : Int) < (L.length : Int)) = false := decide_eq_false (by omega)
    obtain rfl : i = L.length := by omega
    have hta : (srtV L).take L.length = srtV L := List.take_of_length_le (by omega)
    rw [hta]
    repeat' first
      | with_reducible rfl
      | simp only [q1, g0, g13, g14, g15, g3, List.length_map, eV_len, push_V, pull_V, rwp1, clo_pull, clo_push, pw16, w16_push, RS_, argsTM, stepE, stBuiltin, stBox, stAlloc, stLoad, stStore, stField, stExtract, stBin, stUn, stConv, stNilCheck, stFieldV, stIndex, stIndexAddr, stLen, stMin, stMax, stBuild, fillI, stBuildSlice, setRows, stMakeSlice, stAppend, srcR, segR, rdCells, stSlice, bnd, stArr, stCopy, stConv2, isIntV, cutR, byteRows, rowByte, binStr, Option.map_some, Option.map_none, eq_self, canTL, canT, canH, canL, patL, gcH, gcT, gcI, get_gcT, pullS, pullI, pushS, push1, pushI, pullHW, roC, ix, List.map_map, Function.comp_def, List.zip_cons_cons, List.zip_nil_left, List.zip_nil_right, List.range'_zero, List.range'_succ, rd, get, put, IV.cells, ofValue, seg, spl, ldIV, binInt, eqI, cellsEq, leafEq, resI, flat, isT, upd, up1, nextM, cR, ptrC, nAl, isAl, ST_, Nat.reduceAdd, Nat.reduceMul, Nat.reduceEqDiff, Nat.reduceLeDiff, ne_eq, reduceCtorEq, reduceIte, forall_const, implies_true, Int.reduceToNat, Int.reduceLE, Int.reduceLT, bne, Int.reduceEq, Int.reduceNe, Int.reduceNeg, Int.reduceAdd, Int.reduceSub, Int.reduceMul, Int.reduceBEq, Int.reduceBNe, Nat.reduceLT, Nat.reduceSub, WLS, Try.underlying24, ty_ag_115, ty_ag_27, ty_by_45, ty_of_117_0, ty_sl_120, ty_sr_45, ty_sz_115, ty_sz_27, ty_zs_45]
      | (with_reducible refine drawK_id ?_); refine drawK_auto hmix (by kernel_rfl) ?_
      | (with_reducible refine draw_fin ?_ ?_); · kernel_rfl
      | (with_reducible refine draw_id ?_); kernel_rfl
      | (with_reducible refine And.intro ?_ ?_; · omega)
    refine ⟨_, _, (WkR.gc [0, 1, 3] rfl (by decide)).to ?_ ?_, by simp, rfl, rfl⟩
    · simp [gcI, pullI, pullS, ix]
    · simp [Function.comp_def, get_gcT, get, put, gcI, pullI, pullS, gcH, patL, canL, canH, canTL, canT, rows_pull, ix, segR, pull_V, eV_pull]
end Go.Ev
