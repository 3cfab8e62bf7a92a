/- A part of the proof: contracts of the functions that the statement reaches. -/
import Derived.Test.YtpjgbfddlagcaaaDoorEvC
import Derived.Test.YtpjgbfddlagcaaaDoorG4
namespace Go.Ev
open Go.Proofs
set_option maxRecDepth 100000
set_option linter.unusedSimpArgs false
set_option linter.unusedVariables false
set_option maxHeartbeats 4000000
def eR (e : EN) : List SV := kC e.k ++ [.raw (.int .i64 e.p), .raw (.int .i64 e.g)]
def leK (a b : EN) : Bool := decide (cmpK a.k b.k ≤ 0)
def srt (L : List EN) : List EN := L.mergeSort leK
def SortOK (L : List EN) : Prop := ∀ (X : Ctx) (k : IV → Heap → Prop) (H : Heap) (c : Nat) (M : List EN), H[c]? = some (.rows true 9 (M.map eR)) → M.Perm L → k (.t []) (H.set c (.rows true 9 ((srt L).map eR))) →
  callK Tryd.prog X 38 [.s (.slice c 0 M.length), .s (.raw (.func (.func 39) #[] #[]))] k H
theorem pull_eR (σ : List Nat) (L : List EN) : (L.map eR).map (fun r => r.map (pullS σ)) = L.map eR := by rw [List.map_map]; rfl
def NDs (L : List EN) : Prop := (L.map (·.s)).Nodup
def I37 (m l : Int) (clock : Nat) (L : List EN) (mm : Nat) (tm : TM) (H : Heap) : Prop := ∃ (seen : List Nat) (M R : List EN), mm = R.length ∧ (M ++ R).Perm L ∧ M.map (·.s) = seen ∧
  get tm 0 = .s (.ptr 0 0 0) ∧ get tm 12 = .s (.ref 2) ∧ get tm 3 = .s (.slice 3 0 M.length) ∧ H = [fdbC m l, mpC clock L, .iter (.ref 1) clock seen clock, .rows true 9 (M.map eR)]
theorem f37 (m l : Int) (clock : Nat) (L : List EN) (hs : NDs L) (hc : ∀ e ∈ L, e.s < clock) (hb : L.length ≤ 100000) (hS : SortOK L) : FunW Tryd.prog 20 [] [fdbC m l, mpC clock L] [.s (.ptr 0 0 0)] fun r Hn => r = .s (.slice 2 0 L.length) ∧ Hn = [fdbC m l, mpC clock L, .rows true 9 ((srt L).map eR)] := by
  refine funW_of fun X => ?_
  refine callK_inline (rs := [.tmp 2]) (n := 30) Tryd.func20 rfl rfl rfl (by kernel_rfl) (by kernel_rfl) (by simp only [List.length_cons, List.length_nil]; decide) ?_
  unfold fdbC mpC
  repeat' first
    | with_reducible rfl
    | simp only [*, RS_, argsTM, stepE, stBuiltin, stBox, stAlloc, stLoad, stStore, stField, stExtract, stBin, stUn, stConv, stNilCheck, stFieldV, stIndex, stIndexAddr, stLen, stMin, stMax, stBuild, fillI, stBuildSlice, setRows, stMakeSlice, stAppend, srcR, segR, rdCells, stSlice, bnd, stArr, stCopy, stConv2, isIntV, cutR, byteRows, rowByte, binStr, Option.map_some, Option.map_none, eq_self, canTL, canT, canH, canL, patL, gcH, gcT, gcI, get_gcT, mapC, pullS, pullI, pushS, push1, pushI, pushC, pullHW, roC, ix, List.map_map, Function.comp_def, List.zip_cons_cons, List.zip_nil_left, List.zip_nil_right, List.range'_zero, List.range'_succ, rd, get, put, IV.cells, ofValue, seg, spl, ldIV, binInt, eqI, cellsEq, leafEq, resI, flat, isT, upd, up1, nextM, cR, ptrC, nAl, isAl, ST_, Nat.reduceAdd, Nat.reduceMul, Nat.reduceEqDiff, Nat.reduceLeDiff, ne_eq, reduceCtorEq, reduceIte, forall_const, implies_true, Int.reduceToNat, Int.reduceLE, Int.reduceLT, bne, Int.reduceEq, Int.reduceNe, Int.reduceNeg, Int.reduceAdd, Int.reduceSub, Int.reduceMul, Int.reduceBEq, Int.reduceBNe, Nat.reduceLT, Nat.reduceSub, WLS, Tryd.underlying33, ty_ag_104, ty_ag_3, ty_ag_63, ty_by_82, ty_of_106_2, ty_of_102_0, ty_of_102_1, ty_ok_67, ty_pl_67_0, ty_pl_67_1, ty_pl_67_2, ty_sr_82, ty_sz_104, ty_sz_102, ty_sz_3, ty_sz_63, ty_ze_102, ty_ze_63, ty_ze_67, ty_zs_82]
    | with_reducible refine gdb_split (fun h => ?_) (fun h => ?_)
    | (with_reducible refine drawK_id ?_); refine drawK_auto hmix (by kernel_rfl) ?_
    | (with_reducible refine draw_fin ?_ ?_); · kernel_rfl
    | (with_reducible refine draw_id ?_); kernel_rfl
    | ((with_reducible refine genK_id ?_); refine range_gen ty_mp rfl rfl ?_)
    | (with_reducible refine And.intro ?_ ?_; · omega)
  refine loopK_wk (by kernel_rfl) (I37 m l clock L) L.length ⟨_, _, Wk.can2 [(9, 3)] [] [.inl 0, .inl 1, .inl 2, .inr 0] rfl (by simp [patL]), [], [], L, rfl, by simp, rfl, ?_, ?_, ?_, ?_⟩ ?_
  · simp [Function.comp_def, get_gcT, get, put, gcI, pullI, pullS, gcH, patL, canL, canH, canTL, canT, segR, rows_pull, iter_pull, map_pull, pull_eR, ix]
  · simp [Function.comp_def, get_gcT, get, put, gcI, pullI, pullS, gcH, patL, canL, canH, canTL, canT, segR, rows_pull, iter_pull, map_pull, pull_eR, ix]
  · simp [Function.comp_def, get_gcT, get, put, gcI, pullI, pullS, gcH, patL, canL, canH, canTL, canT, segR, rows_pull, iter_pull, map_pull, pull_eR, ix]
  · simp [Function.comp_def, get_gcT, get, put, gcI, pullI, pullS, gcH, patL, canL, canH, canTL, canT, segR, rows_pull, iter_pull, map_pull, pull_eR, ix, fdbC, mpC]
  rintro mm tm H ⟨seen, M, R, rfl, hp, rfl, g0, g12, g3, rfl⟩
  unfold fdbC mpC
  repeat' first
    | with_reducible rfl
    | simp only [g0, g12, g3, RS_, argsTM, stepE, stBuiltin, stBox, stAlloc, stLoad, stStore, stField, stExtract, stBin, stUn, stConv, stNilCheck, stFieldV, stIndex, stIndexAddr, stLen, stMin, stMax, stBuild, fillI, stBuildSlice, setRows, stMakeSlice, stAppend, srcR, segR, rdCells, stSlice, bnd, stArr, stCopy, stConv2, isIntV, cutR, byteRows, rowByte, binStr, Option.map_some, Option.map_none, eq_self, canTL, canT, canH, canL, patL, gcH, gcT, gcI, get_gcT, mapC, pullS, pullI, pushS, push1, pushI, pushC, pullHW, roC, ix, List.map_map, Function.comp_def, List.zip_cons_cons, List.zip_nil_left, List.zip_nil_right, List.range'_zero, List.range'_succ, rd, get, put, IV.cells, ofValue, seg, spl, ldIV, binInt, eqI, cellsEq, leafEq, resI, flat, isT, upd, up1, nextM, cR, ptrC, nAl, isAl, ST_, Nat.reduceAdd, Nat.reduceMul, Nat.reduceEqDiff, Nat.reduceLeDiff, ne_eq, reduceCtorEq, reduceIte, forall_const, implies_true, Int.reduceToNat, Int.reduceLE, Int.reduceLT, bne, Int.reduceEq, Int.reduceNe, Int.reduceNeg, Int.reduceAdd, Int.reduceSub, Int.reduceMul, Int.reduceBEq, Int.reduceBNe, Nat.reduceLT, Nat.reduceSub, WLS, Tryd.underlying33, ty_ag_104, ty_ag_3, ty_ag_63, ty_by_82, ty_of_106_2, ty_of_102_0, ty_of_102_1, ty_ok_67, ty_pl_67_0, ty_pl_67_1, ty_pl_67_2, ty_sr_82, ty_sz_104, ty_sz_102, ty_sz_3, ty_sz_63, ty_ze_102, ty_ze_63, ty_ze_67, ty_zs_82]
    | with_reducible refine gdb_split (fun h => ?_) (fun h => ?_)
    | (with_reducible refine drawK_id ?_); refine drawK_auto hmix (by kernel_rfl) ?_
    | (with_reducible refine draw_fin ?_ ?_); · kernel_rfl
    | (with_reducible refine draw_id ?_); kernel_rfl
    | (with_reducible refine And.intro ?_ ?_; · omega)
  refine next_gen (c := 2) (m := 1) (seen := M.map (·.s)) (by simp only [rd, g12]) rfl rfl (fun x hx => by obtain ⟨e, he, rfl⟩ := List.mem_map.1 hx; exact hc e he) (Nat.le_refl _) (fun hall => ?_) (fun x hx hns => ?_)
  · have hR : R = [] := by
      cases R with
      | nil => rfl
      | cons x R' =>
        exfalso
        have h1 := hall (mE x) (List.mem_map.2 ⟨x, hp.mem_iff.1 (by simp), rfl⟩)
        have h2 : ((M ++ x :: R').map (·.s)).Nodup := (hp.map fun e : EN => e.s).nodup_iff.2 (show (L.map fun e : EN => e.s).Nodup from hs)
        rw [List.map_append, List.nodup_append] at h2
        exact h2.2.2 _ h1 _ (List.mem_map.2 ⟨x, by simp, rfl⟩) rfl
    subst hR
    rw [List.append_nil] at hp
    have hlen := hp.length_eq
    repeat' first
      | with_reducible rfl
      | simp only [g0, g12, g3, RS_, argsTM, stepE, stBuiltin, stBox, stAlloc, stLoad, stStore, stField, stExtract, stBin, stUn, stConv, stNilCheck, stFieldV, stIndex, stIndexAddr, stLen, stMin, stMax, stBuild, fillI, stBuildSlice, setRows, stMakeSlice, stAppend, srcR, segR, rdCells, stSlice, bnd, stArr, stCopy, stConv2, isIntV, cutR, byteRows, rowByte, binStr, Option.map_some, Option.map_none, eq_self, canTL, canT, canH, canL, patL, gcH, gcT, gcI, get_gcT, mapC, pullS, pullI, pushS, push1, pushI, pushC, pullHW, roC, ix, List.map_map, Function.comp_def, List.zip_cons_cons, List.zip_nil_left, List.zip_nil_right, List.range'_zero, List.range'_succ, rd, get, put, IV.cells, ofValue, seg, spl, ldIV, binInt, eqI, cellsEq, leafEq, resI, flat, isT, upd, up1, nextM, cR, ptrC, nAl, isAl, ST_, Nat.reduceAdd, Nat.reduceMul, Nat.reduceEqDiff, Nat.reduceLeDiff, ne_eq, reduceCtorEq, reduceIte, forall_const, implies_true, Int.reduceToNat, Int.reduceLE, Int.reduceLT, bne, Int.reduceEq, Int.reduceNe, Int.reduceNeg, Int.reduceAdd, Int.reduceSub, Int.reduceMul, Int.reduceBEq, Int.reduceBNe, Nat.reduceLT, Nat.reduceSub, WLS, Tryd.underlying33, ty_ag_104, ty_ag_3, ty_ag_63, ty_by_82, ty_of_106_2, ty_of_102_0, ty_of_102_1, ty_ok_67, ty_pl_67_0, ty_pl_67_1, ty_pl_67_2, ty_sr_82, ty_sz_104, ty_sz_102, ty_sz_3, ty_sz_63, ty_ze_102, ty_ze_63, ty_ze_67, ty_zs_82]
      | with_reducible refine gdb_split (fun h => ?_) (fun h => ?_)
      | (with_reducible refine drawK_id ?_); refine drawK_auto hmix (by kernel_rfl) ?_
      | (with_reducible refine draw_fin ?_ ?_); · kernel_rfl
      | (with_reducible refine draw_id ?_); kernel_rfl
      | ((with_reducible refine callK_id (f := 38) ?_); refine hS _ _ _ 3 M rfl hp ?_)
      | exact ⟨_, _, WkR.gc [0, 1, 3] rfl (by decide), by simp [gcH], by simp [gcI, pullI, pullS, ix, hlen], by (simp [gcH, map_pull, rows_pull, pull_eR, pullS, ix]; intros; rfl)⟩
      | (with_reducible refine And.intro ?_ ?_; · omega)
  · obtain ⟨e, he, rfl⟩ := List.mem_map.1 hx
    have heR : e ∈ R := by
      rcases List.mem_append.1 (hp.mem_iff.2 he) with h | h
      · exact absurd (List.mem_map.2 ⟨e, h, rfl⟩) hns
      · exact h
    obtain ⟨R1, R2, rfl⟩ := List.append_of_mem heR
    have hlen := hp.length_eq
    simp only [List.length_append, List.length_cons] at hlen
    have hM : M.length + 1 ≤ 100000 := by omega
    simp only [List.set_cons_succ, List.set_cons_zero]
    repeat' first
      | with_reducible rfl
      | simp only [g0, g12, g3, mE_v, mE_k, kC, List.length_map, RS_, argsTM, stepE, stBuiltin, stBox, stAlloc, stLoad, stStore, stField, stExtract, stBin, stUn, stConv, stNilCheck, stFieldV, stIndex, stIndexAddr, stLen, stMin, stMax, stBuild, fillI, stBuildSlice, setRows, stMakeSlice, stAppend, srcR, segR, rdCells, stSlice, bnd, stArr, stCopy, stConv2, isIntV, cutR, byteRows, rowByte, binStr, Option.map_some, Option.map_none, eq_self, canTL, canT, canH, canL, patL, gcH, gcT, gcI, get_gcT, mapC, pullS, pullI, pushS, push1, pushI, pushC, pullHW, roC, ix, List.map_map, Function.comp_def, List.zip_cons_cons, List.zip_nil_left, List.zip_nil_right, List.range'_zero, List.range'_succ, rd, get, put, IV.cells, ofValue, seg, spl, ldIV, binInt, eqI, cellsEq, leafEq, resI, flat, isT, upd, up1, nextM, cR, ptrC, nAl, isAl, ST_, Nat.reduceAdd, Nat.reduceMul, Nat.reduceEqDiff, Nat.reduceLeDiff, ne_eq, reduceCtorEq, reduceIte, forall_const, implies_true, Int.reduceToNat, Int.reduceLE, Int.reduceLT, bne, Int.reduceEq, Int.reduceNe, Int.reduceNeg, Int.reduceAdd, Int.reduceSub, Int.reduceMul, Int.reduceBEq, Int.reduceBNe, Nat.reduceLT, Nat.reduceSub, WLS, Tryd.underlying33, ty_ag_104, ty_ag_3, ty_ag_63, ty_by_82, ty_of_106_2, ty_of_102_0, ty_of_102_1, ty_ok_67, ty_pl_67_0, ty_pl_67_1, ty_pl_67_2, ty_sr_82, ty_sz_104, ty_sz_102, ty_sz_3, ty_sz_63, ty_ze_102, ty_ze_63, ty_ze_67, ty_zs_82]
      | with_reducible refine gdb_split (fun h => ?_) (fun h => ?_)
      | (with_reducible refine drawK_id ?_); refine drawK_auto hmix (by kernel_rfl) ?_
      | (with_reducible refine draw_fin ?_ ?_); · kernel_rfl
      | (with_reducible refine draw_id ?_); kernel_rfl
      | ((with_reducible refine genK_id ?_); refine entry_gen (c := 2) (m := 1) (e := mE e) (st := (mE e).2.2) (by simp [rd, put, get, g12]) rfl rfl (List.mem_map.2 ⟨e, he, rfl⟩) rfl ?_)
      | (with_reducible refine And.intro ?_ ?_; · omega)
    refine ⟨R1.length + R2.length, _, _, by simp, Wk.gc [0, 1, 2, 7] rfl (by decide), M.map (·.s) ++ [e.s], M ++ [e], R1 ++ R2, by simp, ?_, by simp, ?_, ?_, ?_, ?_⟩
    · refine List.Perm.trans ?_ hp
      rw [List.append_assoc]
      exact List.Perm.append_left _ (show (e :: (R1 ++ R2)).Perm (R1 ++ e :: R2) from List.perm_middle.symm)
    · simp [Function.comp_def, get_gcT, get, put, gcI, pullI, pullS, gcH, patL, canL, canH, canTL, canT, segR, rows_pull, iter_pull, map_pull, pull_eR, ix, g0]
    · simp [Function.comp_def, get_gcT, get, put, gcI, pullI, pullS, gcH, patL, canL, canH, canTL, canT, segR, rows_pull, iter_pull, map_pull, pull_eR, ix, g12]
    · simp [Function.comp_def, get_gcT, get, put, gcI, pullI, pullS, gcH, patL, canL, canH, canTL, canT, segR, rows_pull, iter_pull, map_pull, pull_eR, ix]
    · simp [Function.comp_def, get_gcT, get, put, gcI, pullI, pullS, gcH, patL, canL, canH, canTL, canT, segR, rows_pull, iter_pull, map_pull, pull_eR, ix, fdbC, mpC]
      exact ⟨rfl, fun _ _ => rfl, rfl⟩
end Go.Ev
