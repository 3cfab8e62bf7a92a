/- A part of the proof: contracts of the functions that the statement reaches. -/
import Derived.Test.YtpjgbfddlagcaaaDoorEvC
import Derived.Test.YtpjgbfddlagcaaaDoorGK
namespace Go.Ev
open Go.Proofs
set_option maxRecDepth 100000
set_option linter.unusedSimpArgs false
set_option linter.unusedVariables false
set_option maxHeartbeats 4000000
theorem ty_mp : Tryd.prog.underlying 104 = some (.map 63 102) := by kernel_rfl
structure EN where
  k : KEY
  p : Int
  g : Int
  s : Nat
  deriving Inhabited
def mE (e : EN) : IV × IV × Nat := (.a (kC e.k), .a [.raw (.int .i64 e.p), .raw (.int .i64 e.g)], e.s)
def mpC (clock : Nat) (L : List EN) : Chunk := .map clock (L.map mE)
def fdbC (m l : Int) : Chunk := .rows true 3 [[.raw (.int .i64 m), .raw (.int .i64 l), .ref 1]]
theorem shp (L : List EN) : shaped Tryd.prog 63 (L.map mE) := fun y hy => by
  obtain ⟨e, _, rfl⟩ := List.mem_map.1 hy
  exact sh_k _
theorem noK (k : KEY) (L : List EN) (h : ∀ e ∈ L, e.k ≠ k) : noKey lsK (.a (kC k)) (L.map mE) := fun y hy => by
  obtain ⟨e, he, rfl⟩ := List.mem_map.1 hy
  show cellsEq lsK (kC k) (kC e.k) = _
  rw [kEq, decide_eq_false (fun e1 => h e he e1.symm)]
def NDk (L : List EN) : Prop := (L.map (·.k)).Nodup
def look (L : List EN) (k : KEY) : Option EN := L.find? fun e => decide (e.k = k)
theorem look_cases (L : List EN) (hn : NDk L) (k : KEY) : (look L k = none ∧ ∀ e ∈ L, e.k ≠ k) ∨ ∃ l1 e l2, L = l1 ++ e :: l2 ∧ e.k = k ∧ look L k = some e ∧ ∀ x ∈ l1 ++ l2, x.k ≠ k := by
  cases h : look L k with
  | none =>
    left
    refine ⟨rfl, fun e he h2 => ?_⟩
    have := List.find?_eq_none.1 h e he
    simp [h2] at this
  | some e =>
    right
    obtain ⟨h1, l1, l2, rfl, h2⟩ := List.find?_eq_some_iff_append.1 h
    have hk : e.k = k := by simpa using h1
    refine ⟨l1, e, l2, rfl, hk, rfl, fun x hx => ?_⟩
    rcases List.mem_append.1 hx with hx | hx
    · have := h2 x hx; simpa using this
    · intro h3
      unfold NDk at hn
      rw [List.map_append, List.map_cons, List.nodup_append] at hn
      have := (List.nodup_cons.1 hn.2.1).1
      exact this (List.mem_map.2 ⟨x, hx, by rw [h3, hk]⟩)
theorem map_pull (σ : List Nat) (clock : Nat) (L : List EN) : mapC (pullS σ) (pullI σ) (.map clock (L.map mE)) = .map clock (L.map mE) := by
  simp only [mapC, List.map_map]
  congr 1
theorem map_pull2 (σ : List Nat) (clock : Nat) (l1 : List EN) (e : EN) (l2 : List EN) : mapC (pullS σ) (pullI σ) (.map clock (l1.map mE ++ mE e :: l2.map mE)) = .map clock (l1.map mE ++ mE e :: l2.map mE) := by
  have := map_pull σ clock (l1 ++ e :: l2)
  simpa using this
theorem mE_v (e : EN) : (mE e).2.1 = .a [.raw (.int .i64 e.p), .raw (.int .i64 e.g)] := rfl
theorem mE_k (e : EN) : (mE e).1 = .a (kC e.k) := rfl
theorem zv146 (w : World) : (zeroValue 102).run Tryd.prog w = .ok (.agg #[.int .i64 0, .int .i64 0]) w := by
  have h : (Tryd.prog.info? 102).bind (·.zero) = some (.agg #[.int .i64 0, .int .i64 0]) := by kernel_rfl
  cases hi : Tryd.prog.info? 102 with
  | none => rw [hi] at h; cases h
  | some i => rw [hi] at h; exact run_zeroValue' _ _ hi h
def goodB (k : KEY) (p : Int) : Bool := !(bAnd .u8 k.m.m0 1 == 1) && (decide (1 ≤ p) && decide (p ≤ 16))
theorem f63 (k : KEY) (p : Int) : Fun Tryd.prog 30 [.a (kC k), .s (.raw (.int .i64 p))] (.s (.raw (.bool (goodB k p)))) := by
  refine fun_of rfl fun X => ?_
  refine callK_inline (rs := [.tmp 4]) (n := 17) Tryd.func30 rfl rfl rfl (by kernel_rfl) (by kernel_rfl) (by simp only [List.length_cons, List.length_nil]; decide) ?_
  repeat' first
    | with_reducible rfl
    | simp only [*, kC, goodB, RS_, argsTM, stepE, stBuiltin, stBox, stAlloc, stLoad, stStore, stField, stExtract, stBin, stUn, stConv, stNilCheck, stFieldV, stIndex, stIndexAddr, stLen, stMin, stMax, stBuild, fillI, stBuildSlice, setRows, stMakeSlice, stAppend, srcR, segR, rdCells, stSlice, bnd, stArr, stCopy, stConv2, isIntV, cutR, byteRows, rowByte, binStr, Option.map_some, Option.map_none, eq_self, canTL, canT, canH, canL, patL, gcH, gcT, gcI, get_gcT, mapC, pullS, pullI, pushS, push1, pushI, pushC, pullHW, roC, ix, List.map_map, Function.comp_def, List.zip_cons_cons, List.zip_nil_left, List.zip_nil_right, List.range'_zero, List.range'_succ, rd, get, put, IV.cells, ofValue, seg, spl, ldIV, binInt, eqI, cellsEq, leafEq, resI, flat, isT, upd, up1, nextM, cR, ptrC, nAl, isAl, ST_, Nat.reduceAdd, Nat.reduceMul, Nat.reduceEqDiff, Nat.reduceLeDiff, ne_eq, reduceCtorEq, reduceIte, forall_const, implies_true, Int.reduceToNat, Int.reduceLE, Int.reduceLT, bne, Int.reduceEq, Int.reduceNe, Int.reduceNeg, Int.reduceAdd, Int.reduceSub, Int.reduceMul, Int.reduceBEq, Int.reduceBNe, Nat.reduceLT, Nat.reduceSub, WLS, ty_ag_40, ty_of_63_1, ty_sz_40]
    | with_reducible refine gdb_split (fun h => ?_) (fun h => ?_)
    | (with_reducible refine drawK_id ?_); refine drawK_auto hmix (by kernel_rfl) ?_
    | (with_reducible refine draw_fin ?_ ?_); · kernel_rfl
    | (with_reducible refine draw_id ?_); kernel_rfl
    | (with_reducible refine callD_id (f := 14) ?_); refine callD_of (f36 _ _ _ _ _ _) rfl rfl ?_
    | (with_reducible refine callK_id (f := 14) ?_); refine callK_fun (f36 _ _ _ _ _ _) rfl rfl ?_
    | (with_reducible refine And.intro ?_ ?_; · omega)
theorem f35 (m l : Int) (clock : Nat) (L : List EN) (hn : NDk L) (k : KEY) : FunW Tryd.prog 12 [] [fdbC m l, mpC clock L] [.s (.ptr 0 0 0), .a (kC k)] fun r Hn => r = .t [.s (.raw (.int .i64 (((look L k).map (·.p)).getD 0))), .s (.raw (.bool (look L k).isSome))] ∧ Hn = [fdbC m l, mpC clock L] := by
  refine funW_of fun X => ?_
  refine callK_inline (rs := [.tmp 4, .tmp 5]) (n := 22) Tryd.func12 rfl rfl rfl (by kernel_rfl) (by kernel_rfl) (by simp only [List.length_cons, List.length_nil]; decide) ?_
  unfold fdbC mpC
  rcases look_cases L hn k with ⟨h1, h0⟩ | ⟨l1, e, l2, rfl, rfl, h1, h0⟩
  · rw [h1]
    repeat' first
      | with_reducible rfl
      | simp only [kC, RS_, argsTM, stepE, stBuiltin, stBox, stAlloc, stLoad, stStore, stField, stExtract, stBin, stUn, stConv, stNilCheck, stFieldV, stIndex, stIndexAddr, stLen, stMin, stMax, stBuild, fillI, stBuildSlice, setRows, stMakeSlice, stAppend, srcR, segR, rdCells, stSlice, bnd, stArr, stCopy, stConv2, isIntV, cutR, byteRows, rowByte, binStr, Option.map_some, Option.map_none, eq_self, canTL, canT, canH, canL, patL, gcH, gcT, gcI, get_gcT, mapC, pullS, pullI, pushS, push1, pushI, pushC, pullHW, roC, ix, List.map_map, Function.comp_def, List.zip_cons_cons, List.zip_nil_left, List.zip_nil_right, List.range'_zero, List.range'_succ, rd, get, put, IV.cells, ofValue, seg, spl, ldIV, binInt, eqI, cellsEq, leafEq, resI, flat, isT, upd, up1, nextM, cR, ptrC, nAl, isAl, ST_, Nat.reduceAdd, Nat.reduceMul, Nat.reduceEqDiff, Nat.reduceLeDiff, ne_eq, reduceCtorEq, reduceIte, forall_const, implies_true, Int.reduceToNat, Int.reduceLE, Int.reduceLT, bne, Int.reduceEq, Int.reduceNe, Int.reduceNeg, Int.reduceAdd, Int.reduceSub, Int.reduceMul, Int.reduceBEq, Int.reduceBNe, Nat.reduceLT, Nat.reduceSub, WLS, Tryd.underlying33, ty_ag_104, ty_ag_3, ty_ag_63, ty_of_106_2, ty_of_102_0, ty_sz_104, ty_sz_102, ty_sz_3, ty_sz_63, ty_ze_102]
      | with_reducible refine gdb_split (fun h => ?_) (fun h => ?_)
      | (with_reducible refine drawK_id ?_); refine drawK_auto hmix (by kernel_rfl) ?_
      | (with_reducible refine draw_fin ?_ ?_); · kernel_rfl
      | (with_reducible refine draw_id ?_); kernel_rfl
      | ((with_reducible refine genD_id ?_); refine lookupD_miss (z := .agg #[.int .i64 0, .int .i64 0]) (zi := .a [.raw (.int .i64 0), .raw (.int .i64 0)]) ty_mp ty_lk rfl rfl (sh_k _) rfl rfl (shp L) (noK k L h0) zv146 (fun ρ => ⟨_, rfl, ⟨rfl, rfl⟩, ⟨rfl, rfl⟩, trivial⟩) ?_)
      | exact ⟨_, _, WkR.gc [0, 1] rfl (by decide), by simp [gcH], by simp [gcI, pullI, pullS], by simp [gcH, map_pull, map_pull2, rows_pull, pullS, ix]⟩
      | (with_reducible refine And.intro ?_ ?_; · omega)
  · rw [h1]
    have hsh := shp (l1 ++ e :: l2)
    have h2 := noK e.k _ h0
    have hh := hitK e.k
    rw [List.map_append, List.map_cons] at hsh
    rw [List.map_append] at h2
    simp only [List.map_append, List.map_cons]
    repeat' first
      | with_reducible rfl
      | simp only [kC, mE_v, RS_, argsTM, stepE, stBuiltin, stBox, stAlloc, stLoad, stStore, stField, stExtract, stBin, stUn, stConv, stNilCheck, stFieldV, stIndex, stIndexAddr, stLen, stMin, stMax, stBuild, fillI, stBuildSlice, setRows, stMakeSlice, stAppend, srcR, segR, rdCells, stSlice, bnd, stArr, stCopy, stConv2, isIntV, cutR, byteRows, rowByte, binStr, Option.map_some, Option.map_none, eq_self, canTL, canT, canH, canL, patL, gcH, gcT, gcI, get_gcT, mapC, pullS, pullI, pushS, push1, pushI, pushC, pullHW, roC, ix, List.map_map, Function.comp_def, List.zip_cons_cons, List.zip_nil_left, List.zip_nil_right, List.range'_zero, List.range'_succ, rd, get, put, IV.cells, ofValue, seg, spl, ldIV, binInt, eqI, cellsEq, leafEq, resI, flat, isT, upd, up1, nextM, cR, ptrC, nAl, isAl, ST_, Nat.reduceAdd, Nat.reduceMul, Nat.reduceEqDiff, Nat.reduceLeDiff, ne_eq, reduceCtorEq, reduceIte, forall_const, implies_true, Int.reduceToNat, Int.reduceLE, Int.reduceLT, bne, Int.reduceEq, Int.reduceNe, Int.reduceNeg, Int.reduceAdd, Int.reduceSub, Int.reduceMul, Int.reduceBEq, Int.reduceBNe, Nat.reduceLT, Nat.reduceSub, WLS, Tryd.underlying33, ty_ag_104, ty_ag_3, ty_ag_63, ty_of_106_2, ty_of_102_0, ty_sz_104, ty_sz_102, ty_sz_3, ty_sz_63, ty_ze_102]
      | with_reducible refine gdb_split (fun h => ?_) (fun h => ?_)
      | (with_reducible refine drawK_id ?_); refine drawK_auto hmix (by kernel_rfl) ?_
      | (with_reducible refine draw_fin ?_ ?_); · kernel_rfl
      | (with_reducible refine draw_id ?_); kernel_rfl
      | ((with_reducible refine genD_id ?_); refine lookupD_hit ty_mp ty_lk rfl rfl (sh_k _) rfl hsh hh h2 ?_)
      | exact ⟨_, _, WkR.gc [0, 1] rfl (by decide), by simp [gcH], by simp [gcI, pullI, pullS], by simp [gcH, map_pull, map_pull2, rows_pull, pullS, ix]⟩
      | (with_reducible refine And.intro ?_ ?_; · omega)
def fullB (m : Int) (L : List EN) (k : KEY) : Bool := !(look L k).isSome && decide (m ≤ (L.length : Int))
theorem f64 (m l : Int) (clock : Nat) (L : List EN) (hn : NDk L) (k : KEY) : FunW Tryd.prog 31 [] [fdbC m l, mpC clock L] [.s (.ptr 0 0 0), .a (kC k)] fun r Hn => r = .s (.raw (.bool (fullB m L k))) ∧ Hn = [fdbC m l, mpC clock L] := by
  refine funW_of fun X => ?_
  refine callK_inline (rs := [.tmp 4]) (n := 30) Tryd.func31 rfl rfl rfl (by kernel_rfl) (by kernel_rfl) (by simp only [List.length_cons, List.length_nil]; decide) ?_
  unfold fdbC mpC fullB
  rcases look_cases L hn k with ⟨h1, h0⟩ | ⟨l1, e, l2, rfl, rfl, h1, h0⟩
  · rw [h1]
    repeat' first
      | with_reducible rfl
      | simp only [kC, Option.isSome_none, RS_, argsTM, stepE, stBuiltin, stBox, stAlloc, stLoad, stStore, stField, stExtract, stBin, stUn, stConv, stNilCheck, stFieldV, stIndex, stIndexAddr, stLen, stMin, stMax, stBuild, fillI, stBuildSlice, setRows, stMakeSlice, stAppend, srcR, segR, rdCells, stSlice, bnd, stArr, stCopy, stConv2, isIntV, cutR, byteRows, rowByte, binStr, Option.map_some, Option.map_none, eq_self, canTL, canT, canH, canL, patL, gcH, gcT, gcI, get_gcT, mapC, pullS, pullI, pushS, push1, pushI, pushC, pullHW, roC, ix, List.map_map, Function.comp_def, List.zip_cons_cons, List.zip_nil_left, List.zip_nil_right, List.range'_zero, List.range'_succ, rd, get, put, IV.cells, ofValue, seg, spl, ldIV, binInt, eqI, cellsEq, leafEq, resI, flat, isT, upd, up1, nextM, cR, ptrC, nAl, isAl, ST_, Nat.reduceAdd, Nat.reduceMul, Nat.reduceEqDiff, Nat.reduceLeDiff, ne_eq, reduceCtorEq, reduceIte, forall_const, implies_true, Int.reduceToNat, Int.reduceLE, Int.reduceLT, bne, Int.reduceEq, Int.reduceNe, Int.reduceNeg, Int.reduceAdd, Int.reduceSub, Int.reduceMul, Int.reduceBEq, Int.reduceBNe, Nat.reduceLT, Nat.reduceSub, WLS, Tryd.underlying104, ty_ag_104, ty_ag_3, ty_ag_63, ty_of_106_0, ty_of_106_2, ty_sz_104, ty_sz_102, ty_sz_3, ty_sz_63, ty_ze_102]
      | with_reducible refine gdb_split (fun h => ?_) (fun h => ?_)
      | (with_reducible refine drawK_id ?_); refine drawK_auto hmix (by kernel_rfl) ?_
      | (with_reducible refine draw_fin ?_ ?_); · kernel_rfl
      | (with_reducible refine draw_id ?_); kernel_rfl
      | ((with_reducible refine genD_id ?_); refine lookupD_miss (z := .agg #[.int .i64 0, .int .i64 0]) (zi := .a [.raw (.int .i64 0), .raw (.int .i64 0)]) ty_mp ty_lk rfl rfl (sh_k _) rfl rfl (shp L) (noK k L h0) zv146 (fun ρ => ⟨_, rfl, ⟨rfl, rfl⟩, ⟨rfl, rfl⟩, trivial⟩) ?_)
      | ((with_reducible refine genD_id ?_); refine lenD_map ty_mp rfl rfl ?_)
      | exact ⟨_, _, WkR.gc [0, 1] rfl (by decide), by simp [gcH], by simp [gcI, pullI, pullS], by simp [gcH, map_pull, map_pull2, rows_pull, pullS, ix]⟩
      | (with_reducible refine And.intro ?_ ?_; · omega)
  · rw [h1]
    have hsh := shp (l1 ++ e :: l2)
    have h2 := noK e.k _ h0
    have hh := hitK e.k
    rw [List.map_append, List.map_cons] at hsh
    rw [List.map_append] at h2
    simp only [List.map_append, List.map_cons]
    repeat' first
      | with_reducible rfl
      | simp only [kC, mE_v, Option.isSome_some, RS_, argsTM, stepE, stBuiltin, stBox, stAlloc, stLoad, stStore, stField, stExtract, stBin, stUn, stConv, stNilCheck, stFieldV, stIndex, stIndexAddr, stLen, stMin, stMax, stBuild, fillI, stBuildSlice, setRows, stMakeSlice, stAppend, srcR, segR, rdCells, stSlice, bnd, stArr, stCopy, stConv2, isIntV, cutR, byteRows, rowByte, binStr, Option.map_some, Option.map_none, eq_self, canTL, canT, canH, canL, patL, gcH, gcT, gcI, get_gcT, mapC, pullS, pullI, pushS, push1, pushI, pushC, pullHW, roC, ix, List.map_map, Function.comp_def, List.zip_cons_cons, List.zip_nil_left, List.zip_nil_right, List.range'_zero, List.range'_succ, rd, get, put, IV.cells, ofValue, seg, spl, ldIV, binInt, eqI, cellsEq, leafEq, resI, flat, isT, upd, up1, nextM, cR, ptrC, nAl, isAl, ST_, Nat.reduceAdd, Nat.reduceMul, Nat.reduceEqDiff, Nat.reduceLeDiff, ne_eq, reduceCtorEq, reduceIte, forall_const, implies_true, Int.reduceToNat, Int.reduceLE, Int.reduceLT, bne, Int.reduceEq, Int.reduceNe, Int.reduceNeg, Int.reduceAdd, Int.reduceSub, Int.reduceMul, Int.reduceBEq, Int.reduceBNe, Nat.reduceLT, Nat.reduceSub, WLS, Tryd.underlying104, ty_ag_104, ty_ag_3, ty_ag_63, ty_of_106_0, ty_of_106_2, ty_sz_104, ty_sz_102, ty_sz_3, ty_sz_63, ty_ze_102]
      | with_reducible refine gdb_split (fun h => ?_) (fun h => ?_)
      | (with_reducible refine drawK_id ?_); refine drawK_auto hmix (by kernel_rfl) ?_
      | (with_reducible refine draw_fin ?_ ?_); · kernel_rfl
      | (with_reducible refine draw_id ?_); kernel_rfl
      | ((with_reducible refine genD_id ?_); refine lookupD_hit ty_mp ty_lk rfl rfl (sh_k _) rfl hsh hh h2 ?_)
      | exact ⟨_, _, WkR.gc [0, 1] rfl (by decide), by simp [gcH], by simp [gcI, pullI, pullS], by simp [gcH, map_pull, map_pull2, rows_pull, pullS, ix]⟩
      | (with_reducible refine And.intro ?_ ?_; · omega)
def mostI (a : Int) : Int := if 64 < (if a < 1 then 1 else a) then 64 else (if a < 1 then 1 else a)
def liveI (a : Int) : Int := if 1000 < (if a < 1 then 1 else a) then 1000 else (if a < 1 then 1 else a)
theorem f33 (a b : Int) : FunW Tryd.prog 24 [] [] [.s (.raw (.int .i64 a)), .s (.raw (.int .i64 b))] fun r Hn => r = .s (.ptr 0 0 0) ∧ Hn = [fdbC (mostI a) (liveI b), mpC 0 []] := by
  refine funW_of fun X => ?_
  refine callK_inline (rs := [.tmp 4]) (n := 14) Tryd.func24 rfl rfl rfl (by kernel_rfl) (by kernel_rfl) (by simp only [List.length_cons, List.length_nil]; decide) ?_
  unfold fdbC mpC
  repeat' first
    | with_reducible rfl
    | simp only [*, RS_, argsTM, stepE, stBuiltin, stBox, stAlloc, stLoad, stStore, stField, stExtract, stBin, stUn, stConv, stNilCheck, stFieldV, stIndex, stIndexAddr, stLen, stMin, stMax, stBuild, fillI, stBuildSlice, setRows, stMakeSlice, stAppend, srcR, segR, rdCells, stSlice, bnd, stArr, stCopy, stConv2, isIntV, cutR, byteRows, rowByte, binStr, Option.map_some, Option.map_none, eq_self, canTL, canT, canH, canL, patL, gcH, gcT, gcI, get_gcT, mapC, pullS, pullI, pushS, push1, pushI, pushC, pullHW, roC, ix, List.map_map, Function.comp_def, List.zip_cons_cons, List.zip_nil_left, List.zip_nil_right, List.range'_zero, List.range'_succ, rd, get, put, IV.cells, ofValue, seg, spl, ldIV, binInt, eqI, cellsEq, leafEq, resI, flat, isT, upd, up1, nextM, cR, ptrC, nAl, isAl, ST_, Nat.reduceAdd, Nat.reduceMul, Nat.reduceEqDiff, Nat.reduceLeDiff, ne_eq, reduceCtorEq, reduceIte, forall_const, implies_true, Int.reduceToNat, Int.reduceLE, Int.reduceLT, bne, Int.reduceEq, Int.reduceNe, Int.reduceNeg, Int.reduceAdd, Int.reduceSub, Int.reduceMul, Int.reduceBEq, Int.reduceBNe, Nat.reduceLT, Nat.reduceSub, WLS, ty_ok_106, ty_pl_106_0, ty_pl_106_1, ty_pl_106_2, ty_ze_106]
    | with_reducible refine gdb_split (fun h => ?_) (fun h => ?_)
    | (with_reducible refine drawK_id ?_); refine drawK_auto hmix (by kernel_rfl) ?_
    | (with_reducible refine draw_fin ?_ ?_); · kernel_rfl
    | (with_reducible refine draw_id ?_); kernel_rfl
    | ((with_reducible refine genK_id ?_); refine makeMap_gen ?_)
    | exact ⟨_, _, WkR.gc [1, 0] rfl (by decide), by simp [gcH], by simp [gcI, pullI, pullS, ix], by simp [gcH, mapC, pullS, ix, mostI, liveI]⟩
    | (with_reducible refine And.intro ?_ ?_; · omega)
end Go.Ev
