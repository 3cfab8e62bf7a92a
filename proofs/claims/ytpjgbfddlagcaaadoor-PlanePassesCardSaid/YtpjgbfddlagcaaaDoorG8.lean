/- A part of the proof: contracts of the functions that the statement reaches. -/
import Derived.Test.YtpjgbfddlagcaaaDoorEvC
import Derived.Test.YtpjgbfddlagcaaaDoorG7
namespace Go.Ev
open Go.Proofs
set_option maxRecDepth 100000
set_option linter.unusedSimpArgs false
set_option linter.unusedVariables false
set_option maxHeartbeats 4000000
def zEN : EN := ⟨⟨0, ⟨0, 0, 0, 0, 0, 0⟩⟩, 0, 0, 0⟩
def delE (L : List EN) (k : KEY) : List EN := L.filter fun e => !decide (e.k = k)
def putE (clock : Nat) (L : List EN) (k : KEY) (p g : Int) : Nat × List EN := if (look L k).isSome then (clock, L.map fun e => if e.k = k then ⟨e.k, p, g, e.s⟩ else e) else (clock + 1, L ++ [⟨k, p, g, clock⟩])
def learnK (m : Int) (clock : Nat) (L : List EN) (k : KEY) (p : Int) : (Nat × List EN) × EN × Bool :=
  if goodB k p then if fullB m L k then (putE clock (delE L (minL (srt L)).k) k p 0, minL (srt L), true) else (putE clock L k p 0, zEN, false) else ((clock, L), zEN, false)
theorem put_miss (clock : Nat) (L : List EN) (k : KEY) (p g : Int) (h : look L k = none) : putE clock L k p g = (clock + 1, L ++ [⟨k, p, g, clock⟩]) := by simp [putE, h]
theorem map_off (k : KEY) (p g : Int) : ∀ (L : List EN), (∀ x ∈ L, x.k ≠ k) → (L.map fun e => if e.k = k then (⟨e.k, p, g, e.s⟩ : EN) else e) = L
  | [], _ => rfl
  | x :: L, h => by rw [List.map_cons, if_neg (h x (by simp)), map_off k p g L fun y hy => h y (List.mem_cons_of_mem _ hy)]
theorem put_hit (clock : Nat) (l1 : List EN) (e : EN) (l2 : List EN) (p g : Int) (h : look (l1 ++ e :: l2) e.k = some e) (h0 : ∀ x ∈ l1 ++ l2, x.k ≠ e.k) : putE clock (l1 ++ e :: l2) e.k p g = (clock, l1 ++ ⟨e.k, p, g, e.s⟩ :: l2) := by
  simp only [putE, h, Option.isSome_some, if_true, List.map_append, List.map_cons]
  rw [map_off _ _ _ l1 fun x hx => h0 x (by simp [hx]), map_off _ _ _ l2 fun x hx => h0 x (by simp [hx])]
theorem filter_off (k : KEY) : ∀ (L : List EN), (∀ x ∈ L, x.k ≠ k) → L.filter (fun e => !decide (e.k = k)) = L := fun L h => List.filter_eq_self.2 fun x hx => by simp [h x hx]
theorem del_hit (l1 : List EN) (e : EN) (l2 : List EN) (h0 : ∀ x ∈ l1 ++ l2, x.k ≠ e.k) : delE (l1 ++ e :: l2) e.k = l1 ++ l2 := by
  simp only [delE, List.filter_append, List.filter_cons]
  rw [filter_off _ l1 fun x hx => h0 x (by simp [hx]), filter_off _ l2 fun x hx => h0 x (by simp [hx])]
  simp
theorem minL_fold : ∀ (R : List EN) (e : EN), R.foldl (fun m x => if cmpA x m < 0 then x else m) e ∈ e :: R
  | [], e => by simp
  | x :: R, e => by
    have := minL_fold R (if cmpA x e < 0 then x else e)
    rw [List.foldl_cons]
    rcases List.mem_cons.1 this with h | h
    · rw [h]; split <;> simp
    · simp [h]
theorem minL_mem (L : List EN) (h : 1 ≤ L.length) : minL L ∈ L := by
  cases L with
  | nil => simp at h
  | cons e R => exact minL_fold R e
theorem mem_split {L : List EN} (hn : NDk L) {e : EN} (he : e ∈ L) : ∃ l1 l2, L = l1 ++ e :: l2 ∧ ∀ x ∈ l1 ++ l2, x.k ≠ e.k := by
  obtain ⟨l1, l2, rfl⟩ := List.append_of_mem he
  refine ⟨l1, l2, rfl, fun x hx h => ?_⟩
  unfold NDk at hn
  rw [List.map_append, List.map_cons, List.nodup_append] at hn
  rcases List.mem_append.1 hx with hx | hx
  · exact hn.2.2 _ (List.mem_map.2 ⟨x, hx, rfl⟩) _ (by simp) h
  · exact (List.nodup_cons.1 hn.2.1).1 (List.mem_map.2 ⟨x, hx, h⟩)
theorem eR_take (e : EN) : List.take 7 (eR e) = kC e.k := rfl
theorem look_none {L : List EN} {k : KEY} (h : ∀ x ∈ L, x.k ≠ k) : look L k = none := List.find?_eq_none.2 fun x hx => by simp [h x hx]
theorem f34 (m l : Int) (clock : Nat) (L : List EN) (hn : NDk L) (hs : NDs L) (hc : ∀ e ∈ L, e.s < clock) (hm : 1 ≤ m) (hb : L.length ≤ 100000) (hS : SortOK L) (k : KEY) (p : Int) : FunW Tryd.prog 13 [] [fdbC m l, mpC clock L] [.s (.ptr 0 0 0), .a (kC k), .s (.raw (.int .i64 p))] fun r Hn => r = .t [.a (eR (learnK m clock L k p).2.1), .s (.raw (.bool (learnK m clock L k p).2.2))] ∧ Hn = [fdbC m l, mpC (learnK m clock L k p).1.1 (learnK m clock L k p).1.2] := by
  refine funW_of fun X => ?_
  cases hg : goodB k p with
  | false =>
    have hL : learnK m clock L k p = ((clock, L), zEN, false) := by simp [learnK, hg]
    rw [hL]
    unfold fdbC mpC
    refine callK_inline (rs := [.cell 6 67, .tmp 7]) (n := 40) Tryd.func13 rfl rfl rfl (by kernel_rfl) (by kernel_rfl) (by simp only [List.length_cons, List.length_nil]; decide) ?_
    repeat' first
      | with_reducible rfl
      | simp only [hg, kC_len, List.map_append, push_one, pull_one, kC_push, kC_pull, mE_k, mE_v, mE_fold, eR_len, RS_, argsTM, stepE, stBuiltin, stBox, stAlloc, stLoad, stStore, stField, stExtract, stBin, stUn, stConv, stNilCheck, stFieldV, stIndex, stIndexAddr, stLen, stMin, stMax, stBuild, fillI, stBuildSlice, setRows, stMakeSlice, stAppend, srcR, segR, rdCells, stSlice, bnd, stArr, stCopy, stConv2, isIntV, cutR, byteRows, rowByte, binStr, Option.map_some, Option.map_none, eq_self, canTL, canT, canH, canL, patL, gcH, gcT, gcI, get_gcT, mapC, pullS, pullI, pushS, push1, pushI, pushC, pullHW, roC, ix, List.map_map, Function.comp_def, List.zip_cons_cons, List.zip_nil_left, List.zip_nil_right, List.range'_zero, List.range'_succ, rd, get, put, IV.cells, ofValue, seg, spl, ldIV, binInt, eqI, cellsEq, leafEq, resI, flat, isT, upd, up1, nextM, cR, ptrC, nAl, isAl, ST_, Nat.reduceAdd, Nat.reduceMul, Nat.reduceEqDiff, Nat.reduceLeDiff, ne_eq, reduceCtorEq, reduceIte, forall_const, implies_true, Int.reduceToNat, Int.reduceLE, Int.reduceLT, bne, Int.reduceEq, Int.reduceNe, Int.reduceNeg, Int.reduceAdd, Int.reduceSub, Int.reduceMul, Int.reduceBEq, Int.reduceBNe, Nat.reduceLT, Nat.reduceSub, WLS, Tryd.underlying33, ty_ag_104, ty_ag_63, ty_ag_67, ty_of_106_2, ty_of_67_0, ty_ok_102, ty_ok_67, ty_pl_102_0, ty_pl_102_1, ty_sz_104, ty_sz_63, ty_sz_67, ty_ze_102, ty_ze_67]
      | with_reducible refine gdb_split (fun h => ?_) (fun h => ?_)
      | (with_reducible refine drawK_id ?_); refine drawK_auto hmix (by kernel_rfl) ?_
      | (with_reducible refine draw_fin ?_ ?_); · kernel_rfl
      | (with_reducible refine draw_id ?_); kernel_rfl
      | (with_reducible refine callK_id (f := 30) ?_); refine callK_fun (f63 k p) rfl rfl ?_
      | exact ⟨_, _, WkR.gc [0, 1] rfl (by decide), by simp [gcH], by (simp [gcI, pullI, pull_one, pullS]; try rfl), by (simp [gcH, Function.comp_def, rows_pull, pullS, ix, mapC, pullI, kC_pull, mE_k, mE_v, mE_fold]; try rfl)⟩
      | (with_reducible refine And.intro ?_ ?_; · omega)
  | true =>
    rcases look_cases L hn k with ⟨h1, h0⟩ | ⟨l1, e, l2, rfl, rfl, h1, h0⟩
    · cases hf : fullB m L k with
      | false =>
        have hL : learnK m clock L k p = ((clock + 1, L ++ [⟨k, p, 0, clock⟩]), zEN, false) := by simp only [learnK, hg, hf, if_true, Bool.false_eq_true, if_false, put_miss clock L k p 0 h1]
        have c64 := f64 m l clock L hn k
        rw [hL]
        rw [hf] at c64
        unfold fdbC mpC at c64 ⊢
        refine callK_inline (rs := [.cell 6 67, .tmp 7]) (n := 40) Tryd.func13 rfl rfl rfl (by kernel_rfl) (by kernel_rfl) (by simp only [List.length_cons, List.length_nil]; decide) ?_
        repeat' first
          | with_reducible rfl
          | simp only [hg, kC_len, List.map_append, push_one, pull_one, kC_push, kC_pull, mE_k, mE_v, mE_fold, eR_len, RS_, argsTM, stepE, stBuiltin, stBox, stAlloc, stLoad, stStore, stField, stExtract, stBin, stUn, stConv, stNilCheck, stFieldV, stIndex, stIndexAddr, stLen, stMin, stMax, stBuild, fillI, stBuildSlice, setRows, stMakeSlice, stAppend, srcR, segR, rdCells, stSlice, bnd, stArr, stCopy, stConv2, isIntV, cutR, byteRows, rowByte, binStr, Option.map_some, Option.map_none, eq_self, canTL, canT, canH, canL, patL, gcH, gcT, gcI, get_gcT, mapC, pullS, pullI, pushS, push1, pushI, pushC, pullHW, roC, ix, List.map_map, Function.comp_def, List.zip_cons_cons, List.zip_nil_left, List.zip_nil_right, List.range'_zero, List.range'_succ, rd, get, put, IV.cells, ofValue, seg, spl, ldIV, binInt, eqI, cellsEq, leafEq, resI, flat, isT, upd, up1, nextM, cR, ptrC, nAl, isAl, ST_, Nat.reduceAdd, Nat.reduceMul, Nat.reduceEqDiff, Nat.reduceLeDiff, ne_eq, reduceCtorEq, reduceIte, forall_const, implies_true, Int.reduceToNat, Int.reduceLE, Int.reduceLT, bne, Int.reduceEq, Int.reduceNe, Int.reduceNeg, Int.reduceAdd, Int.reduceSub, Int.reduceMul, Int.reduceBEq, Int.reduceBNe, Nat.reduceLT, Nat.reduceSub, WLS, Tryd.underlying33, ty_ag_104, ty_ag_63, ty_ag_67, ty_of_106_2, ty_of_67_0, ty_ok_102, ty_ok_67, ty_pl_102_0, ty_pl_102_1, ty_sz_104, ty_sz_63, ty_sz_67, ty_ze_102, ty_ze_67]
          | with_reducible refine gdb_split (fun h => ?_) (fun h => ?_)
          | (with_reducible refine drawK_id ?_); refine drawK_auto hmix (by kernel_rfl) ?_
          | (with_reducible refine draw_fin ?_ ?_); · kernel_rfl
          | (with_reducible refine draw_id ?_); kernel_rfl
          | (with_reducible refine callK_id (f := 30) ?_); refine callK_fun (f63 k p) rfl rfl ?_
          | ((with_reducible refine callK_id (f := 31) ?_); refine callK_funW [] [0, 1] (c64) (by simp [pullHW, Function.comp_def, rows_pull, pullS, ix, mapC, pullI, kC_pull, mE_k, mE_v, mE_fold]) rfl rfl (by decide) (by simp) (by simp [pullI, pullS, ix, kC_pull, kC]) ?_; rintro r Hn ⟨rfl, rfl⟩ -; skip)
          | ((with_reducible refine genD_id ?_); refine updD_new ty_mp ty_lk rfl rfl (sh_k _) rfl rfl (fun _ h => by cases h) rfl (shp (L)) (noK _ (L) h0) ?_)
          | exact ⟨_, _, WkR.gc [0, 1] rfl (by decide), by simp [gcH], by (simp [gcI, pullI, pull_one, pullS]; try rfl), by (simp [gcH, Function.comp_def, rows_pull, pullS, ix, mapC, pullI, kC_pull, mE_k, mE_v, mE_fold]; try rfl)⟩
          | (with_reducible refine And.intro ?_ ?_; · omega)
      | true =>
        have hlen : 1 ≤ L.length := by
          simp only [fullB, Bool.and_eq_true, decide_eq_true_eq] at hf
          omega
        obtain ⟨e, hee⟩ : ∃ e, minL (srt L) = e := ⟨_, rfl⟩
        have c64 := f64 m l clock L hn k
        have c65 := f65 m l clock L hs hc hlen hb hS
        have hmem : e ∈ L := by
          rw [← hee]
          exact (List.mergeSort_perm L leK).mem_iff.1 (minL_mem (srt L) (by rw [srt_len]; exact hlen))
        obtain ⟨l1, l2, rfl, h3⟩ := mem_split hn hmem
        have h4 : ∀ x ∈ l1 ++ l2, x.k ≠ k := fun x hx => h0 x (by rcases List.mem_append.1 hx with h | h <;> simp [h])
        have hL : learnK m clock (l1 ++ e :: l2) k p = ((clock + 1, (l1 ++ l2) ++ [⟨k, p, 0, clock⟩]), e, true) := by simp only [learnK, hg, hf, if_true, hee, del_hit l1 e l2 h3, put_miss clock _ k p 0 (look_none h4)]
        rw [hL]
        rw [hf] at c64
        rw [hee] at c65
        have hsh := shp (l1 ++ e :: l2)
        have h2 := noK e.k _ h3
        have hh := hitK e.k
        have hsh2 := shp (l1 ++ l2)
        have h22 := noK k _ h4
        rw [List.map_append, List.map_cons] at hsh
        rw [List.map_append] at h2 hsh2 h22
        unfold fdbC mpC at c64 c65 ⊢
        simp only [List.map_append, List.map_cons] at c64 c65 ⊢
        refine callK_inline (rs := [.cell 6 67, .tmp 7]) (n := 40) Tryd.func13 rfl rfl rfl (by kernel_rfl) (by kernel_rfl) (by simp only [List.length_cons, List.length_nil]; decide) ?_
        repeat' first
          | with_reducible rfl
          | simp only [hg, kC_len, eR_take, List.map_append, push_one, pull_one, kC_push, kC_pull, mE_k, mE_v, mE_fold, eR_len, RS_, argsTM, stepE, stBuiltin, stBox, stAlloc, stLoad, stStore, stField, stExtract, stBin, stUn, stConv, stNilCheck, stFieldV, stIndex, stIndexAddr, stLen, stMin, stMax, stBuild, fillI, stBuildSlice, setRows, stMakeSlice, stAppend, srcR, segR, rdCells, stSlice, bnd, stArr, stCopy, stConv2, isIntV, cutR, byteRows, rowByte, binStr, Option.map_some, Option.map_none, eq_self, canTL, canT, canH, canL, patL, gcH, gcT, gcI, get_gcT, mapC, pullS, pullI, pushS, push1, pushI, pushC, pullHW, roC, ix, List.map_map, Function.comp_def, List.zip_cons_cons, List.zip_nil_left, List.zip_nil_right, List.range'_zero, List.range'_succ, rd, get, put, IV.cells, ofValue, seg, spl, ldIV, binInt, eqI, cellsEq, leafEq, resI, flat, isT, upd, up1, nextM, cR, ptrC, nAl, isAl, ST_, Nat.reduceAdd, Nat.reduceMul, Nat.reduceEqDiff, Nat.reduceLeDiff, ne_eq, reduceCtorEq, reduceIte, forall_const, implies_true, Int.reduceToNat, Int.reduceLE, Int.reduceLT, bne, Int.reduceEq, Int.reduceNe, Int.reduceNeg, Int.reduceAdd, Int.reduceSub, Int.reduceMul, Int.reduceBEq, Int.reduceBNe, Nat.reduceLT, Nat.reduceSub, WLS, Tryd.underlying33, ty_ag_104, ty_ag_63, ty_ag_67, ty_of_106_2, ty_of_67_0, ty_ok_102, ty_ok_67, ty_pl_102_0, ty_pl_102_1, ty_sz_104, ty_sz_63, ty_sz_67, ty_ze_102, ty_ze_67]
          | with_reducible refine gdb_split (fun h => ?_) (fun h => ?_)
          | (with_reducible refine drawK_id ?_); refine drawK_auto hmix (by kernel_rfl) ?_
          | (with_reducible refine draw_fin ?_ ?_); · kernel_rfl
          | (with_reducible refine draw_id ?_); kernel_rfl
          | (with_reducible refine callK_id (f := 30) ?_); refine callK_fun (f63 k p) rfl rfl ?_
          | ((with_reducible refine callK_id (f := 31) ?_); refine callK_funW [] [0, 1] (c64) (by simp [pullHW, Function.comp_def, rows_pull, pullS, ix, mapC, pullI, kC_pull, mE_k, mE_v, mE_fold]) rfl rfl (by decide) (by simp) (by simp [pullI, pullS, ix, kC_pull, kC]) ?_; rintro r Hn ⟨rfl, rfl⟩ -; skip)
          | ((with_reducible refine callK_id (f := 32) ?_); refine callK_funW [] [0, 1] (c65) (by simp [pullHW, Function.comp_def, rows_pull, pullS, ix, mapC, pullI, kC_pull, mE_k, mE_v, mE_fold]) rfl rfl (by decide) (by simp) (by simp [pullI, pullS, ix, kC_pull, kC]) ?_; rintro r Hn ⟨rfl, rfl⟩ -; skip)
          | ((with_reducible refine genD_id ?_); refine deleteD_hit ty_mp ty_lk rfl rfl (sh_k _) rfl hsh hh h2 ?_)
          | ((with_reducible refine genD_id ?_); refine updD_new ty_mp ty_lk rfl rfl (sh_k _) rfl rfl (fun _ h => by cases h) rfl hsh2 h22 ?_)
          | exact ⟨_, _, WkR.gc [0, 1] rfl (by decide), by simp [gcH], by (simp [gcI, pullI, pull_one, pullS]; try rfl), by (simp [gcH, Function.comp_def, rows_pull, pullS, ix, mapC, pullI, kC_pull, mE_k, mE_v, mE_fold]; try rfl)⟩
          | (with_reducible refine And.intro ?_ ?_; · omega)
    · have hf : fullB m (l1 ++ e :: l2) e.k = false := by simp [fullB, h1]
      have hL : learnK m clock (l1 ++ e :: l2) e.k p = ((clock, l1 ++ ⟨e.k, p, 0, e.s⟩ :: l2), zEN, false) := by simp only [learnK, hg, hf, if_true, Bool.false_eq_true, if_false, put_hit clock l1 e l2 p 0 h1 h0]
      have c64 := f64 m l clock (l1 ++ e :: l2) hn e.k
      rw [hL]
      rw [hf] at c64
      have hsh := shp (l1 ++ e :: l2)
      have h2 := noK e.k _ h0
      have hh := hitK e.k
      rw [List.map_append, List.map_cons] at hsh
      rw [List.map_append] at h2
      unfold fdbC mpC at c64 ⊢
      simp only [List.map_append, List.map_cons] at c64 ⊢
      refine callK_inline (rs := [.cell 6 67, .tmp 7]) (n := 40) Tryd.func13 rfl rfl rfl (by kernel_rfl) (by kernel_rfl) (by simp only [List.length_cons, List.length_nil]; decide) ?_
      repeat' first
        | with_reducible rfl
        | simp only [hg, kC_len, List.map_append, push_one, pull_one, kC_push, kC_pull, mE_k, mE_v, mE_fold, eR_len, RS_, argsTM, stepE, stBuiltin, stBox, stAlloc, stLoad, stStore, stField, stExtract, stBin, stUn, stConv, stNilCheck, stFieldV, stIndex, stIndexAddr, stLen, stMin, stMax, stBuild, fillI, stBuildSlice, setRows, stMakeSlice, stAppend, srcR, segR, rdCells, stSlice, bnd, stArr, stCopy, stConv2, isIntV, cutR, byteRows, rowByte, binStr, Option.map_some, Option.map_none, eq_self, canTL, canT, canH, canL, patL, gcH, gcT, gcI, get_gcT, mapC, pullS, pullI, pushS, push1, pushI, pushC, pullHW, roC, ix, List.map_map, Function.comp_def, List.zip_cons_cons, List.zip_nil_left, List.zip_nil_right, List.range'_zero, List.range'_succ, rd, get, put, IV.cells, ofValue, seg, spl, ldIV, binInt, eqI, cellsEq, leafEq, resI, flat, isT, upd, up1, nextM, cR, ptrC, nAl, isAl, ST_, Nat.reduceAdd, Nat.reduceMul, Nat.reduceEqDiff, Nat.reduceLeDiff, ne_eq, reduceCtorEq, reduceIte, forall_const, implies_true, Int.reduceToNat, Int.reduceLE, Int.reduceLT, bne, Int.reduceEq, Int.reduceNe, Int.reduceNeg, Int.reduceAdd, Int.reduceSub, Int.reduceMul, Int.reduceBEq, Int.reduceBNe, Nat.reduceLT, Nat.reduceSub, WLS, Tryd.underlying33, ty_ag_104, ty_ag_63, ty_ag_67, ty_of_106_2, ty_of_67_0, ty_ok_102, ty_ok_67, ty_pl_102_0, ty_pl_102_1, ty_sz_104, ty_sz_63, ty_sz_67, ty_ze_102, ty_ze_67]
        | with_reducible refine gdb_split (fun h => ?_) (fun h => ?_)
        | (with_reducible refine drawK_id ?_); refine drawK_auto hmix (by kernel_rfl) ?_
        | (with_reducible refine draw_fin ?_ ?_); · kernel_rfl
        | (with_reducible refine draw_id ?_); kernel_rfl
        | (with_reducible refine callK_id (f := 30) ?_); refine callK_fun (f63 e.k p) rfl rfl ?_
        | ((with_reducible refine callK_id (f := 31) ?_); refine callK_funW [] [0, 1] (c64) (by simp [pullHW, Function.comp_def, rows_pull, pullS, ix, mapC, pullI, kC_pull, mE_k, mE_v, mE_fold]) rfl rfl (by decide) (by simp) (by simp [pullI, pullS, ix, kC_pull, kC]) ?_; rintro r Hn ⟨rfl, rfl⟩ -; skip)
        | ((with_reducible refine genD_id ?_); refine updD_old ty_mp ty_lk rfl rfl (sh_k _) rfl (fun _ h => by cases h) rfl hsh hh h2 ?_)
        | exact ⟨_, _, WkR.gc [0, 1] rfl (by decide), by simp [gcH], by (simp [gcI, pullI, pull_one, pullS]; try rfl), by (simp [gcH, Function.comp_def, rows_pull, pullS, ix, mapC, pullI, kC_pull, mE_k, mE_v, mE_fold]; try rfl)⟩
        | (with_reducible refine And.intro ?_ ?_; · omega)
end Go.Ev
