/- A part of the proof: contracts of the functions that the statement reaches. -/
import Derived.Test.YtpjgbfddlagcaaaDoorEvC
import Derived.Test.YtpjgbfddlagcaaaDoorGK
import Derived.Test.YtpjgbfddlagcaaaDoorJsE
import Derived.Test.YtpjgbfddlagcaaaDoorEvS
namespace Go.Ev
open Go.Proofs
set_option maxRecDepth 100000
set_option linter.unusedSimpArgs false
set_option linter.unusedVariables false
set_option maxHeartbeats 4000000
open Srt
theorem ty_mpS : Tryd.prog.underlying 122 = some (.map 63 70) := by kernel_rfl
structure SEN where
  k : KEY
  q : Int
  s : Nat
  deriving Inhabited
def sE (e : SEN) : IV × IV × Nat := (.a (kC e.k), .s (.raw (.int .u32 e.q)), e.s)
def eS (e : SEN) : List SV := kC e.k ++ [.raw (.int .u32 e.q)]
def mpS (clock : Nat) (L : List SEN) : Chunk := .map clock (L.map sE)
def tabC : Chunk := .rows true 1 [[.ref 1]]
theorem sE_k (e : SEN) : (sE e).1 = .a (kC e.k) := rfl
theorem sE_v (e : SEN) : (sE e).2.1 = .s (.raw (.int .u32 e.q)) := rfl
theorem sE_fold (e : SEN) : (IV.a (kC e.k), IV.s (.raw (.int .u32 e.q)), (sE e).2.2) = sE e := rfl
theorem eS_len (e : SEN) : (eS e).length = 8 := rfl
theorem eS_pull (σ : List Nat) (e : SEN) : (eS e).map (pullS σ) = eS e := rfl
theorem eS_push (σ : List Nat) (e : SEN) : (eS e).map (pushS σ) = eS e := rfl
theorem eS_take (e : SEN) : List.take 7 (eS e) = kC e.k := rfl
theorem eS_7 (e : SEN) : List.take 1 (List.drop 7 (eS e)) = [.raw (.int .u32 e.q)] := rfl
theorem eS_def (e : SEN) : eS e = [.raw (.int .u16 e.k.v), .raw (.int .u8 e.k.m.m0), .raw (.int .u8 e.k.m.m1), .raw (.int .u8 e.k.m.m2), .raw (.int .u8 e.k.m.m3), .raw (.int .u8 e.k.m.m4), .raw (.int .u8 e.k.m.m5), .raw (.int .u32 e.q)] := rfl
theorem shpS (L : List SEN) : shaped Tryd.prog 63 (L.map sE) := fun y hy => by
  obtain ⟨e, _, rfl⟩ := List.mem_map.1 hy
  exact sh_k _
theorem noKS (k : KEY) (L : List SEN) (h : ∀ e ∈ L, e.k ≠ k) : noKey lsK (.a (kC k)) (L.map sE) := fun y hy => by
  obtain ⟨e, he, rfl⟩ := List.mem_map.1 hy
  show cellsEq lsK (kC k) (kC e.k) = _
  rw [kEq, decide_eq_false (fun e1 => h e he e1.symm)]
def NDkS (L : List SEN) : Prop := (L.map (·.k)).Nodup
def lookS (L : List SEN) (k : KEY) : Option SEN := L.find? fun e => decide (e.k = k)
theorem mem_splitS {L : List SEN} (hn : NDkS L) {e : SEN} (he : e ∈ L) : ∃ l1 l2, L = l1 ++ e :: l2 ∧ ∀ x ∈ l1 ++ l2, x.k ≠ e.k := by
  obtain ⟨l1, l2, rfl⟩ := List.append_of_mem he
  refine ⟨l1, l2, rfl, fun x hx h => ?_⟩
  unfold NDkS at hn
  rw [List.map_append, List.map_cons, List.nodup_append] at hn
  rcases List.mem_append.1 hx with hx | hx
  · exact hn.2.2 _ (List.mem_map.2 ⟨x, hx, rfl⟩) _ (by simp) h
  · exact (List.nodup_cons.1 hn.2.1).1 (List.mem_map.2 ⟨x, hx, h⟩)
theorem lookS_none {L : List SEN} {k : KEY} (h : ∀ x ∈ L, x.k ≠ k) : lookS L k = none := List.find?_eq_none.2 fun x hx => by simp [h x hx]
theorem lookS_mid {l1 l2 : List SEN} {e : SEN} (h0 : ∀ x ∈ l1 ++ l2, x.k ≠ e.k) : lookS (l1 ++ e :: l2) e.k = some e := by
  unfold lookS
  rw [List.find?_append, List.find?_eq_none.2 (fun x hx => by simp [h0 x (by simp [hx])])]
  simp
theorem lookS_cases (L : List SEN) (hn : NDkS L) (k : KEY) : (lookS L k = none ∧ ∀ e ∈ L, e.k ≠ k) ∨ ∃ l1 e l2, L = l1 ++ e :: l2 ∧ e.k = k ∧ lookS L k = some e ∧ ∀ x ∈ l1 ++ l2, x.k ≠ k := by
  by_cases h : ∃ e ∈ L, e.k = k
  · obtain ⟨e, he, rfl⟩ := h
    obtain ⟨l1, l2, rfl, h0⟩ := mem_splitS hn he
    exact .inr ⟨l1, e, l2, rfl, rfl, lookS_mid h0, h0⟩
  · have h0 : ∀ e ∈ L, e.k ≠ k := fun e he hk => h ⟨e, he, hk⟩
    exact .inl ⟨lookS_none h0, h0⟩
theorem zv35 (w : World) : (zeroValue 70).run Tryd.prog w = .ok (.int .u32 0) w := by
  have h : (Tryd.prog.info? 70).bind (·.zero) = some (.int .u32 0) := by kernel_rfl
  cases hi : Tryd.prog.info? 70 with
  | none => rw [hi] at h; cases h
  | some i => rw [hi] at h; exact run_zeroValue' _ _ hi h
def putS (clock : Nat) (L : List SEN) (k : KEY) (q : Int) : Nat × List SEN := if (lookS L k).isSome then (clock, L.map fun e => if e.k = k then ⟨e.k, q, e.s⟩ else e) else (clock + 1, L ++ [⟨k, q, clock⟩])
theorem putS_miss (clock : Nat) (L : List SEN) (k : KEY) (q : Int) (h : lookS L k = none) : putS clock L k q = (clock + 1, L ++ [⟨k, q, clock⟩]) := by simp [putS, h]
theorem mapS_off (k : KEY) (q : Int) : ∀ (L : List SEN), (∀ x ∈ L, x.k ≠ k) → (L.map fun e => if e.k = k then (⟨e.k, q, e.s⟩ : SEN) else e) = L
  | [], _ => rfl
  | x :: L, h => by rw [List.map_cons, if_neg (h x (by simp)), mapS_off k q L fun y hy => h y (List.mem_cons_of_mem _ hy)]
theorem putS_hit (clock : Nat) (l1 : List SEN) (e : SEN) (l2 : List SEN) (q : Int) (h : lookS (l1 ++ e :: l2) e.k = some e) (h0 : ∀ x ∈ l1 ++ l2, x.k ≠ e.k) : putS clock (l1 ++ e :: l2) e.k q = (clock, l1 ++ ⟨e.k, q, e.s⟩ :: l2) := by
  simp only [putS, h, Option.isSome_some, if_true, List.map_append, List.map_cons]
  rw [mapS_off _ _ l1 fun x hx => h0 x (by simp [hx]), mapS_off _ _ l2 fun x hx => h0 x (by simp [hx])]
theorem f21 : FunW Tryd.prog 23 [] [] [] fun r Hn => r = .s (.ptr 0 0 0) ∧ Hn = [tabC, mpS 0 []] := by
  refine funW_of fun X => ?_
  unfold tabC mpS
  refine callK_inline (rs := [.tmp 0]) (n := 4) Tryd.func23 rfl rfl rfl (by kernel_rfl) (by kernel_rfl) (by simp only [List.length_cons, List.length_nil]; decide) ?_
  repeat' first
    | with_reducible rfl
    | simp only [*, RS_, argsTM, stepE, stBuiltin, stBox, stAlloc, stLoad, stStore, stField, stExtract, stBin, stUn, stConv, stNilCheck, stFieldV, stIndex, stIndexAddr, stLen, stMin, stMax, stBuild, fillI, stBuildSlice, setRows, stMakeSlice, stAppend, srcR, segR, rdCells, stSlice, bnd, stArr, stCopy, stConv2, isIntV, cutR, byteRows, rowByte, binStr, Option.map_some, Option.map_none, eq_self, canTL, canT, canH, canL, patL, gcH, gcT, gcI, get_gcT, mapC, pullS, pullI, pushS, push1, pushI, pushC, pullHW, roC, ix, List.map_map, Function.comp_def, List.zip_cons_cons, List.zip_nil_left, List.zip_nil_right, List.range'_zero, List.range'_succ, rd, get, put, IV.cells, ofValue, seg, spl, ldIV, binInt, eqI, cellsEq, leafEq, resI, flat, isT, upd, up1, nextM, cR, ptrC, nAl, isAl, ST_, Nat.reduceAdd, Nat.reduceMul, Nat.reduceEqDiff, Nat.reduceLeDiff, ne_eq, reduceCtorEq, reduceIte, forall_const, implies_true, Int.reduceToNat, Int.reduceLE, Int.reduceLT, bne, Int.reduceEq, Int.reduceNe, Int.reduceNeg, Int.reduceAdd, Int.reduceSub, Int.reduceMul, Int.reduceBEq, Int.reduceBNe, Nat.reduceLT, Nat.reduceSub, WLS, ty_ok_124, ty_pl_124_0, ty_ze_124]
    | with_reducible refine gdb_split (fun h => ?_) (fun h => ?_)
    | (with_reducible refine drawK_id ?_); refine drawK_auto hmix (by kernel_rfl) ?_
    | (with_reducible refine draw_fin ?_ ?_); · kernel_rfl
    | (with_reducible refine draw_id ?_); kernel_rfl
    | ((with_reducible refine genK_id ?_); refine makeMap_gen ?_)
    | exact ⟨_, _, WkR.gc [1, 0] rfl (by decide), by simp [gcH], by simp [gcI, pullI, pullS, ix], by simp [gcH, mapC, pullS, ix]⟩
    | (with_reducible refine And.intro ?_ ?_; · omega)
theorem f24 (clock : Nat) (L : List SEN) (hn : NDkS L) (k : KEY) : FunW Tryd.prog 35 [] [tabC, mpS clock L] [.s (.ptr 0 0 0), .a (kC k)] fun r Hn => r = .t [.s (.raw (.int .u32 (((lookS L k).map (·.q)).getD 0))), .s (.raw (.bool (lookS L k).isSome))] ∧ Hn = [tabC, mpS clock L] := by
  refine funW_of fun X => ?_
  refine callK_inline (rs := [.tmp 4, .tmp 5]) (n := 21) Tryd.func35 rfl rfl rfl (by kernel_rfl) (by kernel_rfl) (by simp only [List.length_cons, List.length_nil]; decide) ?_
  unfold tabC mpS
  rcases lookS_cases L hn k with ⟨h1, h0⟩ | ⟨l1, e, l2, rfl, rfl, h1, h0⟩
  · rw [h1]
    repeat' first
      | with_reducible rfl
      | simp only [kC, Option.isSome_none, RS_, argsTM, stepE, stBuiltin, stBox, stAlloc, stLoad, stStore, stField, stExtract, stBin, stUn, stConv, stNilCheck, stFieldV, stIndex, stIndexAddr, stLen, stMin, stMax, stBuild, fillI, stBuildSlice, setRows, stMakeSlice, stAppend, srcR, segR, rdCells, stSlice, bnd, stArr, stCopy, stConv2, isIntV, cutR, byteRows, rowByte, binStr, Option.map_some, Option.map_none, eq_self, canTL, canT, canH, canL, patL, gcH, gcT, gcI, get_gcT, mapC, pullS, pullI, pushS, push1, pushI, pushC, pullHW, roC, ix, List.map_map, Function.comp_def, List.zip_cons_cons, List.zip_nil_left, List.zip_nil_right, List.range'_zero, List.range'_succ, rd, get, put, IV.cells, ofValue, seg, spl, ldIV, binInt, eqI, cellsEq, leafEq, resI, flat, isT, upd, up1, nextM, cR, ptrC, nAl, isAl, ST_, Nat.reduceAdd, Nat.reduceMul, Nat.reduceEqDiff, Nat.reduceLeDiff, ne_eq, reduceCtorEq, reduceIte, forall_const, implies_true, Int.reduceToNat, Int.reduceLE, Int.reduceLT, bne, Int.reduceEq, Int.reduceNe, Int.reduceNeg, Int.reduceAdd, Int.reduceSub, Int.reduceMul, Int.reduceBEq, Int.reduceBNe, Nat.reduceLT, Nat.reduceSub, WLS, Tryd.underlying32, ty_ag_122, ty_ag_63, ty_of_124_0, ty_sz_122, ty_sz_63]
      | (with_reducible refine drawK_id ?_); refine drawK_auto hmix (by kernel_rfl) ?_
      | (with_reducible refine draw_fin ?_ ?_); · kernel_rfl
      | (with_reducible refine draw_id ?_); kernel_rfl
      | ((with_reducible refine genD_id ?_); refine lookupD_miss (z := .int .u32 0) (zi := .s (.raw (.int .u32 0))) ty_mpS ty_lk rfl rfl (sh_k _) rfl rfl (shpS L) (noKS _ L h0) zv35 (fun ρ => ⟨rfl, rfl⟩) ?_)
      | exact ⟨_, _, WkR.gc [0, 1] rfl (by decide), by simp [gcH], by simp [gcI, pullI, pullS], by (simp [gcH, Function.comp_def, rows_pull, pullS, ix, mapC, pullI, kC_pull, sE_k, sE_v, sE_fold]; try rfl)⟩
      | (with_reducible refine And.intro ?_ ?_; · omega)
  · rw [h1]
    have hsh := shpS (l1 ++ e :: l2)
    have h2 := noKS e.k _ h0
    have hh := hitK e.k
    rw [List.map_append, List.map_cons] at hsh
    rw [List.map_append] at h2
    simp only [List.map_append, List.map_cons]
    repeat' first
      | with_reducible rfl
      | simp only [kC, sE_v, Option.isSome_some, RS_, argsTM, stepE, stBuiltin, stBox, stAlloc, stLoad, stStore, stField, stExtract, stBin, stUn, stConv, stNilCheck, stFieldV, stIndex, stIndexAddr, stLen, stMin, stMax, stBuild, fillI, stBuildSlice, setRows, stMakeSlice, stAppend, srcR, segR, rdCells, stSlice, bnd, stArr, stCopy, stConv2, isIntV, cutR, byteRows, rowByte, binStr, Option.map_some, Option.map_none, eq_self, canTL, canT, canH, canL, patL, gcH, gcT, gcI, get_gcT, mapC, pullS, pullI, pushS, push1, pushI, pushC, pullHW, roC, ix, List.map_map, Function.comp_def, List.zip_cons_cons, List.zip_nil_left, List.zip_nil_right, List.range'_zero, List.range'_succ, rd, get, put, IV.cells, ofValue, seg, spl, ldIV, binInt, eqI, cellsEq, leafEq, resI, flat, isT, upd, up1, nextM, cR, ptrC, nAl, isAl, ST_, Nat.reduceAdd, Nat.reduceMul, Nat.reduceEqDiff, Nat.reduceLeDiff, ne_eq, reduceCtorEq, reduceIte, forall_const, implies_true, Int.reduceToNat, Int.reduceLE, Int.reduceLT, bne, Int.reduceEq, Int.reduceNe, Int.reduceNeg, Int.reduceAdd, Int.reduceSub, Int.reduceMul, Int.reduceBEq, Int.reduceBNe, Nat.reduceLT, Nat.reduceSub, WLS, Tryd.underlying32, ty_ag_122, ty_ag_63, ty_of_124_0, ty_sz_122, ty_sz_63]
      | (with_reducible refine drawK_id ?_); refine drawK_auto hmix (by kernel_rfl) ?_
      | (with_reducible refine draw_fin ?_ ?_); · kernel_rfl
      | (with_reducible refine draw_id ?_); kernel_rfl
      | ((with_reducible refine genD_id ?_); refine lookupD_hit ty_mpS ty_lk rfl rfl (sh_k _) rfl hsh hh h2 ?_)
      | exact ⟨_, _, WkR.gc [0, 1] rfl (by decide), by simp [gcH], by simp [gcI, pullI, pullS], by (simp [gcH, Function.comp_def, rows_pull, pullS, ix, mapC, pullI, kC_pull, sE_k, sE_v, sE_fold]; try rfl)⟩
      | (with_reducible refine And.intro ?_ ?_; · omega)
def goodS (k : KEY) (q : Int) : Int := if badV k.v then 15 else if resS k.m.m0 k.m.m1 k.m.m2 k.m.m3 k.m.m4 k.m.m5 then 6 else if decide (65536 ≤ q) then 14 else 0
theorem f53 (e : SEN) : Fun Tryd.prog 43 [.a (eS e)] (.s (.raw (.int .i64 (goodS e.k e.q)))) := by
  refine fun_of rfl fun X => ?_
  have c81 := f81 e.k.m.m0 e.k.m.m1 e.k.m.m2 e.k.m.m3 e.k.m.m4 e.k.m.m5
  unfold goodS badV
  refine callK_inline (rs := [.tmp 2]) (n := 23) Tryd.func43 rfl rfl rfl (by kernel_rfl) (by kernel_rfl) (by simp only [List.length_cons, List.length_nil]; decide) ?_
  cases h1 : decide (e.k.v < 1) with
  | true =>
    repeat' first
      | with_reducible rfl
      | simp only [eS_def, h1, RS_, argsTM, stepE, stBuiltin, stBox, stAlloc, stLoad, stStore, stField, stExtract, stBin, stUn, stConv, stNilCheck, stFieldV, stIndex, stIndexAddr, stLen, stMin, stMax, stBuild, fillI, stBuildSlice, setRows, stMakeSlice, stAppend, srcR, segR, rdCells, stSlice, bnd, stArr, stCopy, stConv2, isIntV, cutR, byteRows, rowByte, binStr, Option.map_some, Option.map_none, eq_self, canTL, canT, canH, canL, patL, gcH, gcT, gcI, get_gcT, mapC, pullS, pullI, pushS, push1, pushI, pushC, pullHW, roC, ix, List.map_map, Function.comp_def, List.zip_cons_cons, List.zip_nil_left, List.zip_nil_right, List.range'_zero, List.range'_succ, rd, get, put, IV.cells, ofValue, seg, spl, ldIV, binInt, eqI, cellsEq, leafEq, resI, flat, isT, upd, up1, nextM, cR, ptrC, nAl, isAl, ST_, Nat.reduceAdd, Nat.reduceMul, Nat.reduceEqDiff, Nat.reduceLeDiff, ne_eq, reduceCtorEq, reduceIte, forall_const, implies_true, Int.reduceToNat, Int.reduceLE, Int.reduceLT, bne, Int.reduceEq, Int.reduceNe, Int.reduceNeg, Int.reduceAdd, Int.reduceSub, Int.reduceMul, Int.reduceBEq, Int.reduceBNe, Nat.reduceLT, Nat.reduceSub, WLS, ty_ag_23, ty_ag_70, ty_ag_40, ty_of_63_0, ty_of_63_1, ty_of_95_0, ty_of_95_1, ty_sz_23, ty_sz_70, ty_sz_40]
      | (with_reducible refine drawK_id ?_); refine drawK_auto hmix (by kernel_rfl) ?_
      | (with_reducible refine draw_fin ?_ ?_); · kernel_rfl
      | (with_reducible refine draw_id ?_); kernel_rfl
      | (with_reducible refine callK_id (f := 10) ?_); refine callK_fun (c81) rfl rfl ?_
      | (with_reducible refine And.intro ?_ ?_; · omega)
  | false =>
    cases h2 : decide (4094 < e.k.v) with
    | true =>
      repeat' first
        | with_reducible rfl
        | simp only [eS_def, h1, h2, RS_, argsTM, stepE, stBuiltin, stBox, stAlloc, stLoad, stStore, stField, stExtract, stBin, stUn, stConv, stNilCheck, stFieldV, stIndex, stIndexAddr, stLen, stMin, stMax, stBuild, fillI, stBuildSlice, setRows, stMakeSlice, stAppend, srcR, segR, rdCells, stSlice, bnd, stArr, stCopy, stConv2, isIntV, cutR, byteRows, rowByte, binStr, Option.map_some, Option.map_none, eq_self, canTL, canT, canH, canL, patL, gcH, gcT, gcI, get_gcT, mapC, pullS, pullI, pushS, push1, pushI, pushC, pullHW, roC, ix, List.map_map, Function.comp_def, List.zip_cons_cons, List.zip_nil_left, List.zip_nil_right, List.range'_zero, List.range'_succ, rd, get, put, IV.cells, ofValue, seg, spl, ldIV, binInt, eqI, cellsEq, leafEq, resI, flat, isT, upd, up1, nextM, cR, ptrC, nAl, isAl, ST_, Nat.reduceAdd, Nat.reduceMul, Nat.reduceEqDiff, Nat.reduceLeDiff, ne_eq, reduceCtorEq, reduceIte, forall_const, implies_true, Int.reduceToNat, Int.reduceLE, Int.reduceLT, bne, Int.reduceEq, Int.reduceNe, Int.reduceNeg, Int.reduceAdd, Int.reduceSub, Int.reduceMul, Int.reduceBEq, Int.reduceBNe, Nat.reduceLT, Nat.reduceSub, WLS, ty_ag_23, ty_ag_70, ty_ag_40, ty_of_63_0, ty_of_63_1, ty_of_95_0, ty_of_95_1, ty_sz_23, ty_sz_70, ty_sz_40]
        | (with_reducible refine drawK_id ?_); refine drawK_auto hmix (by kernel_rfl) ?_
        | (with_reducible refine draw_fin ?_ ?_); · kernel_rfl
        | (with_reducible refine draw_id ?_); kernel_rfl
        | (with_reducible refine callK_id (f := 10) ?_); refine callK_fun (c81) rfl rfl ?_
        | (with_reducible refine And.intro ?_ ?_; · omega)
    | false =>
      cases h3 : resS e.k.m.m0 e.k.m.m1 e.k.m.m2 e.k.m.m3 e.k.m.m4 e.k.m.m5 with
      | true =>
        rw [h3] at c81
        repeat' first
          | with_reducible rfl
          | simp only [eS_def, h1, h2, RS_, argsTM, stepE, stBuiltin, stBox, stAlloc, stLoad, stStore, stField, stExtract, stBin, stUn, stConv, stNilCheck, stFieldV, stIndex, stIndexAddr, stLen, stMin, stMax, stBuild, fillI, stBuildSlice, setRows, stMakeSlice, stAppend, srcR, segR, rdCells, stSlice, bnd, stArr, stCopy, stConv2, isIntV, cutR, byteRows, rowByte, binStr, Option.map_some, Option.map_none, eq_self, canTL, canT, canH, canL, patL, gcH, gcT, gcI, get_gcT, mapC, pullS, pullI, pushS, push1, pushI, pushC, pullHW, roC, ix, List.map_map, Function.comp_def, List.zip_cons_cons, List.zip_nil_left, List.zip_nil_right, List.range'_zero, List.range'_succ, rd, get, put, IV.cells, ofValue, seg, spl, ldIV, binInt, eqI, cellsEq, leafEq, resI, flat, isT, upd, up1, nextM, cR, ptrC, nAl, isAl, ST_, Nat.reduceAdd, Nat.reduceMul, Nat.reduceEqDiff, Nat.reduceLeDiff, ne_eq, reduceCtorEq, reduceIte, forall_const, implies_true, Int.reduceToNat, Int.reduceLE, Int.reduceLT, bne, Int.reduceEq, Int.reduceNe, Int.reduceNeg, Int.reduceAdd, Int.reduceSub, Int.reduceMul, Int.reduceBEq, Int.reduceBNe, Nat.reduceLT, Nat.reduceSub, WLS, ty_ag_23, ty_ag_70, ty_ag_40, ty_of_63_0, ty_of_63_1, ty_of_95_0, ty_of_95_1, ty_sz_23, ty_sz_70, ty_sz_40]
          | (with_reducible refine drawK_id ?_); refine drawK_auto hmix (by kernel_rfl) ?_
          | (with_reducible refine draw_fin ?_ ?_); · kernel_rfl
          | (with_reducible refine draw_id ?_); kernel_rfl
          | (with_reducible refine callK_id (f := 10) ?_); refine callK_fun (c81) rfl rfl ?_
          | (with_reducible refine And.intro ?_ ?_; · omega)
      | false =>
        rw [h3] at c81
        cases h4 : decide (65536 ≤ e.q) with
        | true =>
          repeat' first
            | with_reducible rfl
            | simp only [eS_def, h1, h2, h4, RS_, argsTM, stepE, stBuiltin, stBox, stAlloc, stLoad, stStore, stField, stExtract, stBin, stUn, stConv, stNilCheck, stFieldV, stIndex, stIndexAddr, stLen, stMin, stMax, stBuild, fillI, stBuildSlice, setRows, stMakeSlice, stAppend, srcR, segR, rdCells, stSlice, bnd, stArr, stCopy, stConv2, isIntV, cutR, byteRows, rowByte, binStr, Option.map_some, Option.map_none, eq_self, canTL, canT, canH, canL, patL, gcH, gcT, gcI, get_gcT, mapC, pullS, pullI, pushS, push1, pushI, pushC, pullHW, roC, ix, List.map_map, Function.comp_def, List.zip_cons_cons, List.zip_nil_left, List.zip_nil_right, List.range'_zero, List.range'_succ, rd, get, put, IV.cells, ofValue, seg, spl, ldIV, binInt, eqI, cellsEq, leafEq, resI, flat, isT, upd, up1, nextM, cR, ptrC, nAl, isAl, ST_, Nat.reduceAdd, Nat.reduceMul, Nat.reduceEqDiff, Nat.reduceLeDiff, ne_eq, reduceCtorEq, reduceIte, forall_const, implies_true, Int.reduceToNat, Int.reduceLE, Int.reduceLT, bne, Int.reduceEq, Int.reduceNe, Int.reduceNeg, Int.reduceAdd, Int.reduceSub, Int.reduceMul, Int.reduceBEq, Int.reduceBNe, Nat.reduceLT, Nat.reduceSub, WLS, ty_ag_23, ty_ag_70, ty_ag_40, ty_of_63_0, ty_of_63_1, ty_of_95_0, ty_of_95_1, ty_sz_23, ty_sz_70, ty_sz_40]
            | (with_reducible refine drawK_id ?_); refine drawK_auto hmix (by kernel_rfl) ?_
            | (with_reducible refine draw_fin ?_ ?_); · kernel_rfl
            | (with_reducible refine draw_id ?_); kernel_rfl
            | (with_reducible refine callK_id (f := 10) ?_); refine callK_fun (c81) rfl rfl ?_
            | (with_reducible refine And.intro ?_ ?_; · omega)
        | false =>
          repeat' first
            | with_reducible rfl
            | simp only [eS_def, h1, h2, h4, RS_, argsTM, stepE, stBuiltin, stBox, stAlloc, stLoad, stStore, stField, stExtract, stBin, stUn, stConv, stNilCheck, stFieldV, stIndex, stIndexAddr, stLen, stMin, stMax, stBuild, fillI, stBuildSlice, setRows, stMakeSlice, stAppend, srcR, segR, rdCells, stSlice, bnd, stArr, stCopy, stConv2, isIntV, cutR, byteRows, rowByte, binStr, Option.map_some, Option.map_none, eq_self, canTL, canT, canH, canL, patL, gcH, gcT, gcI, get_gcT, mapC, pullS, pullI, pushS, push1, pushI, pushC, pullHW, roC, ix, List.map_map, Function.comp_def, List.zip_cons_cons, List.zip_nil_left, List.zip_nil_right, List.range'_zero, List.range'_succ, rd, get, put, IV.cells, ofValue, seg, spl, ldIV, binInt, eqI, cellsEq, leafEq, resI, flat, isT, upd, up1, nextM, cR, ptrC, nAl, isAl, ST_, Nat.reduceAdd, Nat.reduceMul, Nat.reduceEqDiff, Nat.reduceLeDiff, ne_eq, reduceCtorEq, reduceIte, forall_const, implies_true, Int.reduceToNat, Int.reduceLE, Int.reduceLT, bne, Int.reduceEq, Int.reduceNe, Int.reduceNeg, Int.reduceAdd, Int.reduceSub, Int.reduceMul, Int.reduceBEq, Int.reduceBNe, Nat.reduceLT, Nat.reduceSub, WLS, ty_ag_23, ty_ag_70, ty_ag_40, ty_of_63_0, ty_of_63_1, ty_of_95_0, ty_of_95_1, ty_sz_23, ty_sz_70, ty_sz_40]
            | (with_reducible refine drawK_id ?_); refine drawK_auto hmix (by kernel_rfl) ?_
            | (with_reducible refine draw_fin ?_ ?_); · kernel_rfl
            | (with_reducible refine draw_id ?_); kernel_rfl
            | (with_reducible refine callK_id (f := 10) ?_); refine callK_fun (c81) rfl rfl ?_
            | (with_reducible refine And.intro ?_ ?_; · omega)
end Go.Ev
