/- A part of the proof: contracts of the functions that the statement reaches. -/
import Derived.Test.YtnmobamjinponaaEvC
import Derived.Test.YtnmobamjinponaaGK
import Derived.Test.YtnmobamjinponaaEvS
namespace Go.Ev
open Go.Proofs
set_option maxRecDepth 100000
set_option linter.unusedSimpArgs false
set_option linter.unusedVariables false
set_option maxHeartbeats 4000000
open Srt
theorem ty_mpV : Try.prog.underlying 115 = some (.map 27 37) := by kernel_rfl
def lsV : List Leaf := [.int .u16]
theorem ty_lkV : leavesOf Try.prog 60 27 = some lsV := by kernel_rfl
theorem sh_v (x : SV) : shapeB Try.prog 27 (.s x) = true := by unfold shapeB; rw [show aggT Try.prog 27 = some false by kernel_rfl]
structure VEN where
  v : Int
  m : Int
  u : Int
  s : Nat
  deriving Inhabited
def kV (v : Int) : IV := .s (.raw (.int .u16 v))
def eV (e : VEN) : List SV := [.raw (.int .u16 e.v), .raw (.int .u32 e.m), .raw (.int .u32 e.u)]
def vE (e : VEN) : IV × IV × Nat := (kV e.v, .a (eV e), e.s)
def mpV (clock : Nat) (L : List VEN) : Chunk := .map clock (L.map vE)
def tabV : Chunk := .rows true 1 [[.ref 1]]
theorem vE_v (e : VEN) : (vE e).2.1 = .a (eV e) := rfl
theorem eV_len (e : VEN) : (eV e).length = 3 := rfl
theorem eV_pull (σ : List Nat) (e : VEN) : (eV e).map (pullS σ) = eV e := rfl
theorem eV_push (σ : List Nat) (e : VEN) : (eV e).map (pushS σ) = eV e := rfl
theorem vE_pull (σ : List Nat) (e : VEN) : (pullI σ (vE e).1, pullI σ (vE e).2.1, (vE e).2.2) = vE e := rfl
theorem pullI_a (σ : List Nat) (l : List SV) : pullI σ (.a l) = .a (l.map (pullS σ)) := rfl
theorem kV_pull (σ : List Nat) (v : Int) : pullI σ (kV v) = kV v := rfl
theorem kV_eq (a b : Int) : cellsEq lsV (kV a).cells (kV b).cells = some (decide (a = b)) := by
  simp [cellsEq, leafEq, lsV, kV, IV.cells]
  rfl
theorem shpV (L : List VEN) : shaped Try.prog 27 (L.map vE) := fun y hy => by
  obtain ⟨e, _, rfl⟩ := List.mem_map.1 hy
  exact sh_v _
theorem noKV (v : Int) (L : List VEN) (h : ∀ e ∈ L, e.v ≠ v) : noKey lsV (kV v) (L.map vE) := fun y hy => by
  obtain ⟨e, he, rfl⟩ := List.mem_map.1 hy
  show cellsEq lsV (kV v).cells (kV e.v).cells = _
  rw [kV_eq, decide_eq_false (fun e1 => h e he e1.symm)]
theorem hitV (v : Int) : cellsEq lsV (kV v).cells (kV v).cells = some true := by rw [kV_eq]; simp
def NDkV (L : List VEN) : Prop := (L.map (·.v)).Nodup
def lookV (L : List VEN) (v : Int) : Option VEN := L.find? fun e => decide (e.v = v)
theorem mem_splitV {L : List VEN} (hn : NDkV L) {e : VEN} (he : e ∈ L) : ∃ l1 l2, L = l1 ++ e :: l2 ∧ ∀ x ∈ l1 ++ l2, x.v ≠ e.v := by
  obtain ⟨l1, l2, rfl⟩ := List.append_of_mem he
  refine ⟨l1, l2, rfl, fun x hx h => ?_⟩
  unfold NDkV at hn
  rw [List.map_append, List.map_cons, List.nodup_append] at hn
  rcases List.mem_append.1 hx with hx | hx
  · exact hn.2.2 _ (List.mem_map.2 ⟨x, hx, rfl⟩) _ (by simp) h
  · exact (List.nodup_cons.1 hn.2.1).1 (List.mem_map.2 ⟨x, hx, h⟩)
theorem lookV_none {L : List VEN} {v : Int} (h : ∀ x ∈ L, x.v ≠ v) : lookV L v = none := List.find?_eq_none.2 fun x hx => by simp [h x hx]
theorem lookV_mid {l1 l2 : List VEN} {e : VEN} (h0 : ∀ x ∈ l1 ++ l2, x.v ≠ e.v) : lookV (l1 ++ e :: l2) e.v = some e := by
  unfold lookV
  rw [List.find?_append, List.find?_eq_none.2 (fun x hx => by simp [h0 x (by simp [hx])])]
  simp
theorem lookV_cases (L : List VEN) (hn : NDkV L) (v : Int) : (lookV L v = none ∧ ∀ e ∈ L, e.v ≠ v) ∨ ∃ l1 e l2, L = l1 ++ e :: l2 ∧ e.v = v ∧ lookV L v = some e ∧ ∀ x ∈ l1 ++ l2, x.v ≠ v := by
  by_cases h : ∃ e ∈ L, e.v = v
  · obtain ⟨e, he, rfl⟩ := h
    obtain ⟨l1, l2, rfl, h0⟩ := mem_splitV hn he
    exact .inr ⟨l1, e, l2, rfl, rfl, lookV_mid h0, h0⟩
  · have h0 : ∀ e ∈ L, e.v ≠ v := fun e he hk => h ⟨e, he, hk⟩
    exact .inl ⟨lookV_none h0, h0⟩
theorem zv37 (w : World) : (zeroValue 37).run Try.prog w = .ok (.agg #[.int .u16 0, .int .u32 0, .int .u32 0]) w := by
  have h : (Try.prog.info? 37).bind (·.zero) = some (.agg #[.int .u16 0, .int .u32 0, .int .u32 0]) := by kernel_rfl
  cases hi : Try.prog.info? 37 with
  | none => rw [hi] at h; cases h
  | some i => rw [hi] at h; exact run_zeroValue' _ _ hi h
def delV (L : List VEN) (v : Int) : List VEN := L.filter fun e => !decide (e.v = v)
def putV (clock : Nat) (L : List VEN) (v m u : Int) : Nat × List VEN := if (lookV L v).isSome then (clock, L.map fun e => if e.v = v then ⟨e.v, m, u, e.s⟩ else e) else (clock + 1, L ++ [⟨v, m, u, clock⟩])
theorem putV_miss (clock : Nat) (L : List VEN) (v m u : Int) (h : lookV L v = none) : putV clock L v m u = (clock + 1, L ++ [⟨v, m, u, clock⟩]) := by simp [putV, h]
theorem mapV_off (v m u : Int) : ∀ (L : List VEN), (∀ x ∈ L, x.v ≠ v) → (L.map fun e => if e.v = v then (⟨e.v, m, u, e.s⟩ : VEN) else e) = L
  | [], _ => rfl
  | x :: L, h => by rw [List.map_cons, if_neg (h x (by simp)), mapV_off v m u L fun y hy => h y (List.mem_cons_of_mem _ hy)]
theorem putV_hit (clock : Nat) (l1 : List VEN) (e : VEN) (l2 : List VEN) (m u : Int) (h : lookV (l1 ++ e :: l2) e.v = some e) (h0 : ∀ x ∈ l1 ++ l2, x.v ≠ e.v) : putV clock (l1 ++ e :: l2) e.v m u = (clock, l1 ++ ⟨e.v, m, u, e.s⟩ :: l2) := by
  simp only [putV, h, Option.isSome_some, if_true, List.map_append, List.map_cons]
  rw [mapV_off _ _ _ l1 fun x hx => h0 x (by simp [hx]), mapV_off _ _ _ l2 fun x hx => h0 x (by simp [hx])]
theorem filterV_off (v : Int) : ∀ (L : List VEN), (∀ x ∈ L, x.v ≠ v) → L.filter (fun e => !decide (e.v = v)) = L := fun L h => List.filter_eq_self.2 fun x hx => by simp [h x hx]
theorem delV_hit (l1 : List VEN) (e : VEN) (l2 : List VEN) (h0 : ∀ x ∈ l1 ++ l2, x.v ≠ e.v) : delV (l1 ++ e :: l2) e.v = l1 ++ l2 := by
  simp only [delV, List.filter_append, List.filter_cons]
  rw [filterV_off _ l1 fun x hx => h0 x (by simp [hx]), filterV_off _ l2 fun x hx => h0 x (by simp [hx])]
  simp
theorem f11 : FunW Try.prog 11 [] [] [] fun r Hn => r = .s (.ptr 0 0 0) ∧ Hn = [tabV, mpV 0 []] := by
  refine funW_of fun X => ?_
  unfold tabV mpV
  refine callK_inline (rs := [.tmp 0]) (n := 4) Try.func11 rfl rfl rfl (by kernel_rfl) (by kernel_rfl) (by simp only [List.length_cons, List.length_nil]; decide) ?_
  repeat' first
    | with_reducible rfl
    | simp only [*, RS_, argsTM, stepE, stBuiltin, stBox, stAlloc, stLoad, stStore, stField, stExtract, stBin, stUn, stConv, stNilCheck, stFieldV, stIndex, stIndexAddr, stLen, stMin, stMax, stBuild, fillI, stBuildSlice, setRows, stMakeSlice, stAppend, srcR, segR, rdCells, stSlice, bnd, stArr, stCopy, stConv2, isIntV, cutR, byteRows, rowByte, binStr, Option.map_some, Option.map_none, eq_self, canTL, canT, canH, canL, patL, gcH, gcT, gcI, get_gcT, mapC, pullS, pullI, pushS, push1, pushI, pushC, pullHW, roC, ix, List.map_map, Function.comp_def, List.zip_cons_cons, List.zip_nil_left, List.zip_nil_right, List.range'_zero, List.range'_succ, rd, get, put, IV.cells, ofValue, seg, spl, ldIV, binInt, eqI, cellsEq, leafEq, resI, flat, isT, upd, up1, nextM, cR, ptrC, nAl, isAl, ST_, Nat.reduceAdd, Nat.reduceMul, Nat.reduceEqDiff, Nat.reduceLeDiff, ne_eq, reduceCtorEq, reduceIte, forall_const, implies_true, Int.reduceToNat, Int.reduceLE, Int.reduceLT, bne, Int.reduceEq, Int.reduceNe, Int.reduceNeg, Int.reduceAdd, Int.reduceSub, Int.reduceMul, Int.reduceBEq, Int.reduceBNe, Nat.reduceLT, Nat.reduceSub, WLS, ty_ok_117, ty_pl_117_0, ty_ze_117]
    | with_reducible refine gdb_split (fun h => ?_) (fun h => ?_)
    | (with_reducible refine drawK_id ?_); refine drawK_auto hmix (by kernel_rfl) ?_
    | (with_reducible refine draw_fin ?_ ?_); · kernel_rfl
    | (with_reducible refine draw_id ?_); kernel_rfl
    | ((with_reducible refine genK_id ?_); refine makeMap_gen ?_)
    | exact ⟨_, _, WkR.gc [1, 0] rfl (by decide), by simp [gcH], by simp [gcI, pullI, pullS, ix], by simp [gcH, mapC, pullS, ix]⟩
    | (with_reducible refine And.intro ?_ ?_; · omega)
def rowV (o : Option VEN) : List SV := match o with | some e => eV e | none => [.raw (.int .u16 0), .raw (.int .u32 0), .raw (.int .u32 0)]
theorem f14 (clock : Nat) (L : List VEN) (hn : NDkV L) (v : Int) : FunW Try.prog 14 [] [tabV, mpV clock L] [.s (.ptr 0 0 0), kV v] fun r Hn => r = .t [.a (rowV (lookV L v)), .s (.raw (.bool (lookV L v).isSome))] ∧ Hn = [tabV, mpV clock L] := by
  refine funW_of fun X => ?_
  refine callK_inline (rs := [.cell 4 37, .tmp 5]) (n := 22) Try.func14 rfl rfl rfl (by kernel_rfl) (by kernel_rfl) (by simp only [List.length_cons, List.length_nil]; decide) ?_
  unfold tabV mpV
  rcases lookV_cases L hn v with ⟨h1, h0⟩ | ⟨l1, e, l2, rfl, rfl, h1, h0⟩
  · rw [h1]
    unfold rowV
    repeat' first
      | with_reducible rfl
      | simp only [Option.isSome_none, RS_, argsTM, stepE, stBuiltin, stBox, stAlloc, stLoad, stStore, stField, stExtract, stBin, stUn, stConv, stNilCheck, stFieldV, stIndex, stIndexAddr, stLen, stMin, stMax, stBuild, fillI, stBuildSlice, setRows, stMakeSlice, stAppend, srcR, segR, rdCells, stSlice, bnd, stArr, stCopy, stConv2, isIntV, cutR, byteRows, rowByte, binStr, Option.map_some, Option.map_none, eq_self, canTL, canT, canH, canL, patL, gcH, gcT, gcI, get_gcT, mapC, pullS, pullI, pushS, push1, pushI, pushC, pullHW, roC, ix, List.map_map, Function.comp_def, List.zip_cons_cons, List.zip_nil_left, List.zip_nil_right, List.range'_zero, List.range'_succ, rd, get, put, IV.cells, ofValue, seg, spl, ldIV, binInt, eqI, cellsEq, leafEq, resI, flat, isT, upd, up1, nextM, cR, ptrC, nAl, isAl, ST_, Nat.reduceAdd, Nat.reduceMul, Nat.reduceEqDiff, Nat.reduceLeDiff, ne_eq, reduceCtorEq, reduceIte, forall_const, implies_true, Int.reduceToNat, Int.reduceLE, Int.reduceLT, bne, Int.reduceEq, Int.reduceNe, Int.reduceNeg, Int.reduceAdd, Int.reduceSub, Int.reduceMul, Int.reduceBEq, Int.reduceBNe, Nat.reduceLT, Nat.reduceSub, WLS, Try.underlying24, ty_ag_115, ty_ag_37, ty_of_117_0, ty_ok_37, ty_sz_115, ty_sz_37, ty_ze_37]
      | (with_reducible refine drawK_id ?_); refine drawK_auto hmix (by kernel_rfl) ?_
      | (with_reducible refine draw_fin ?_ ?_); · kernel_rfl
      | (with_reducible refine draw_id ?_); kernel_rfl
      | ((with_reducible refine genK_id ?_); refine lookup_miss (z := .agg #[.int .u16 0, .int .u32 0, .int .u32 0]) (zi := .a [.raw (.int .u16 0), .raw (.int .u32 0), .raw (.int .u32 0)]) ty_mpV ty_lkV rfl rfl (sh_v _) rfl rfl (shpV L) (noKV _ L h0) zv37 (fun ρ => ⟨_, rfl, ⟨rfl, rfl⟩, ⟨rfl, rfl⟩, ⟨rfl, rfl⟩, trivial⟩) ?_)
      | (refine ⟨_, _, WkR.gc [0, 1] rfl (by decide), by simp [gcH], ?_, ?_⟩ <;> (first | (simp [gcI, pullI, pullS, eV]; done) | (simp [gcH, Function.comp_def, rows_pull, pullS, ix, mapC, vE_pull, kV_pull, pullI_a, eV_pull]; done) | (simp [gcH, Function.comp_def, rows_pull, pullS, ix, mapC, vE_pull, kV_pull, pullI_a, eV_pull]; rfl)))
      | (with_reducible refine And.intro ?_ ?_; · omega)
  · rw [h1]
    have hsh := shpV (l1 ++ e :: l2)
    have h2 := noKV e.v _ h0
    have hh := hitV e.v
    rw [List.map_append, List.map_cons] at hsh
    rw [List.map_append] at h2
    unfold rowV
    simp only [List.map_append, List.map_cons]
    repeat' first
      | with_reducible rfl
      | simp only [vE_v, eV_len, Option.isSome_some, RS_, argsTM, stepE, stBuiltin, stBox, stAlloc, stLoad, stStore, stField, stExtract, stBin, stUn, stConv, stNilCheck, stFieldV, stIndex, stIndexAddr, stLen, stMin, stMax, stBuild, fillI, stBuildSlice, setRows, stMakeSlice, stAppend, srcR, segR, rdCells, stSlice, bnd, stArr, stCopy, stConv2, isIntV, cutR, byteRows, rowByte, binStr, Option.map_some, Option.map_none, eq_self, canTL, canT, canH, canL, patL, gcH, gcT, gcI, get_gcT, mapC, pullS, pullI, pushS, push1, pushI, pushC, pullHW, roC, ix, List.map_map, Function.comp_def, List.zip_cons_cons, List.zip_nil_left, List.zip_nil_right, List.range'_zero, List.range'_succ, rd, get, put, IV.cells, ofValue, seg, spl, ldIV, binInt, eqI, cellsEq, leafEq, resI, flat, isT, upd, up1, nextM, cR, ptrC, nAl, isAl, ST_, Nat.reduceAdd, Nat.reduceMul, Nat.reduceEqDiff, Nat.reduceLeDiff, ne_eq, reduceCtorEq, reduceIte, forall_const, implies_true, Int.reduceToNat, Int.reduceLE, Int.reduceLT, bne, Int.reduceEq, Int.reduceNe, Int.reduceNeg, Int.reduceAdd, Int.reduceSub, Int.reduceMul, Int.reduceBEq, Int.reduceBNe, Nat.reduceLT, Nat.reduceSub, WLS, Try.underlying24, ty_ag_115, ty_ag_37, ty_of_117_0, ty_ok_37, ty_sz_115, ty_sz_37, ty_ze_37]
      | (with_reducible refine drawK_id ?_); refine drawK_auto hmix (by kernel_rfl) ?_
      | (with_reducible refine draw_fin ?_ ?_); · kernel_rfl
      | (with_reducible refine draw_id ?_); kernel_rfl
      | ((with_reducible refine genK_id ?_); refine lookup_hit ty_mpV ty_lkV rfl rfl (sh_v _) rfl hsh hh h2 ?_)
      | (refine ⟨_, _, WkR.gc [0, 1] rfl (by decide), by simp [gcH], ?_, ?_⟩ <;> (first | (simp [gcI, pullI, pullS, eV]; done) | (simp [gcH, Function.comp_def, rows_pull, pullS, ix, mapC, vE_pull, kV_pull, pullI_a, eV_pull]; done) | (simp [gcH, Function.comp_def, rows_pull, pullS, ix, mapC, vE_pull, kV_pull, pullI_a, eV_pull]; rfl)))
      | (with_reducible refine And.intro ?_ ?_; · omega)
theorem f12 (clock : Nat) (L : List VEN) (hn : NDkV L) (v : Int) : FunW Try.prog 12 [] [tabV, mpV clock L] [.s (.ptr 0 0 0), kV v] fun r Hn => r = .s (.raw (.int .i64 (if (lookV L v).isSome then 0 else 11))) ∧ Hn = [tabV, mpV clock (delV L v)] := by
  refine funW_of fun X => ?_
  refine callK_inline (rs := [.tmp 4]) (n := 25) Try.func12 rfl rfl rfl (by kernel_rfl) (by kernel_rfl) (by simp only [List.length_cons, List.length_nil]; decide) ?_
  unfold tabV mpV
  rcases lookV_cases L hn v with ⟨h1, h0⟩ | ⟨l1, e, l2, rfl, rfl, h1, h0⟩
  · rw [h1]
    rw [show delV L v = L from filterV_off v L h0]
    repeat' first
      | with_reducible rfl
      | simp only [Option.isSome_none, RS_, argsTM, stepE, stBuiltin, stBox, stAlloc, stLoad, stStore, stField, stExtract, stBin, stUn, stConv, stNilCheck, stFieldV, stIndex, stIndexAddr, stLen, stMin, stMax, stBuild, fillI, stBuildSlice, setRows, stMakeSlice, stAppend, srcR, segR, rdCells, stSlice, bnd, stArr, stCopy, stConv2, isIntV, cutR, byteRows, rowByte, binStr, Option.map_some, Option.map_none, eq_self, canTL, canT, canH, canL, patL, gcH, gcT, gcI, get_gcT, mapC, pullS, pullI, pushS, push1, pushI, pushC, pullHW, roC, ix, List.map_map, Function.comp_def, List.zip_cons_cons, List.zip_nil_left, List.zip_nil_right, List.range'_zero, List.range'_succ, rd, get, put, IV.cells, ofValue, seg, spl, ldIV, binInt, eqI, cellsEq, leafEq, resI, flat, isT, upd, up1, nextM, cR, ptrC, nAl, isAl, ST_, Nat.reduceAdd, Nat.reduceMul, Nat.reduceEqDiff, Nat.reduceLeDiff, ne_eq, reduceCtorEq, reduceIte, forall_const, implies_true, Int.reduceToNat, Int.reduceLE, Int.reduceLT, bne, Int.reduceEq, Int.reduceNe, Int.reduceNeg, Int.reduceAdd, Int.reduceSub, Int.reduceMul, Int.reduceBEq, Int.reduceBNe, Nat.reduceLT, Nat.reduceSub, WLS, Try.underlying24, ty_ag_115, ty_of_117_0, ty_sz_115, ty_sz_37, ty_ze_37]
      | (with_reducible refine drawK_id ?_); refine drawK_auto hmix (by kernel_rfl) ?_
      | (with_reducible refine draw_fin ?_ ?_); · kernel_rfl
      | (with_reducible refine draw_id ?_); kernel_rfl
      | ((with_reducible refine genK_id ?_); refine lookup_miss (z := .agg #[.int .u16 0, .int .u32 0, .int .u32 0]) (zi := .a [.raw (.int .u16 0), .raw (.int .u32 0), .raw (.int .u32 0)]) ty_mpV ty_lkV rfl rfl (sh_v _) rfl rfl (shpV L) (noKV _ L h0) zv37 (fun ρ => ⟨_, rfl, ⟨rfl, rfl⟩, ⟨rfl, rfl⟩, ⟨rfl, rfl⟩, trivial⟩) ?_)
      | (refine ⟨_, _, WkR.gc [0, 1] rfl (by decide), by simp [gcH], ?_, ?_⟩ <;> (first | (simp [gcI, pullI, pullS, eV]; done) | (simp [gcH, Function.comp_def, rows_pull, pullS, ix, mapC, vE_pull, kV_pull, pullI_a, eV_pull]; done) | (simp [gcH, Function.comp_def, rows_pull, pullS, ix, mapC, vE_pull, kV_pull, pullI_a, eV_pull]; rfl)))
      | (with_reducible refine And.intro ?_ ?_; · omega)
  · rw [h1]
    have hsh := shpV (l1 ++ e :: l2)
    have h2 := noKV e.v _ h0
    have hh := hitV e.v
    rw [List.map_append, List.map_cons] at hsh
    rw [List.map_append] at h2
    rw [delV_hit l1 e l2 h0]
    simp only [List.map_append, List.map_cons]
    repeat' first
      | with_reducible rfl
      | simp only [vE_v, eV_len, Option.isSome_some, RS_, argsTM, stepE, stBuiltin, stBox, stAlloc, stLoad, stStore, stField, stExtract, stBin, stUn, stConv, stNilCheck, stFieldV, stIndex, stIndexAddr, stLen, stMin, stMax, stBuild, fillI, stBuildSlice, setRows, stMakeSlice, stAppend, srcR, segR, rdCells, stSlice, bnd, stArr, stCopy, stConv2, isIntV, cutR, byteRows, rowByte, binStr, Option.map_some, Option.map_none, eq_self, canTL, canT, canH, canL, patL, gcH, gcT, gcI, get_gcT, mapC, pullS, pullI, pushS, push1, pushI, pushC, pullHW, roC, ix, List.map_map, Function.comp_def, List.zip_cons_cons, List.zip_nil_left, List.zip_nil_right, List.range'_zero, List.range'_succ, rd, get, put, IV.cells, ofValue, seg, spl, ldIV, binInt, eqI, cellsEq, leafEq, resI, flat, isT, upd, up1, nextM, cR, ptrC, nAl, isAl, ST_, Nat.reduceAdd, Nat.reduceMul, Nat.reduceEqDiff, Nat.reduceLeDiff, ne_eq, reduceCtorEq, reduceIte, forall_const, implies_true, Int.reduceToNat, Int.reduceLE, Int.reduceLT, bne, Int.reduceEq, Int.reduceNe, Int.reduceNeg, Int.reduceAdd, Int.reduceSub, Int.reduceMul, Int.reduceBEq, Int.reduceBNe, Nat.reduceLT, Nat.reduceSub, WLS, Try.underlying24, ty_ag_115, ty_of_117_0, ty_sz_115, ty_sz_37, ty_ze_37]
      | (with_reducible refine drawK_id ?_); refine drawK_auto hmix (by kernel_rfl) ?_
      | (with_reducible refine draw_fin ?_ ?_); · kernel_rfl
      | (with_reducible refine draw_id ?_); kernel_rfl
      | ((with_reducible refine genK_id ?_); refine lookup_hit ty_mpV ty_lkV rfl rfl (sh_v _) rfl hsh hh h2 ?_)
      | ((with_reducible refine genK_id ?_); refine delete_hit ty_mpV ty_lkV rfl rfl (sh_v _) rfl hsh hh h2 ?_)
      | (refine ⟨_, _, WkR.gc [0, 1] rfl (by decide), by simp [gcH], ?_, ?_⟩ <;> (first | (simp [gcI, pullI, pullS, eV]; done) | (simp [gcH, Function.comp_def, rows_pull, pullS, ix, mapC, vE_pull, kV_pull, pullI_a, eV_pull]; done) | (simp [gcH, Function.comp_def, rows_pull, pullS, ix, mapC, vE_pull, kV_pull, pullI_a, eV_pull]; rfl)))
      | (with_reducible refine And.intro ?_ ?_; · omega)
theorem n14  : Fun Try.prog 14 [.s (.raw (.pointer none)), .s (.raw (.int .u16 1))] (.t [.a [.raw (.int .u16 0), .raw (.int .u32 0), .raw (.int .u32 0)], .s (.raw (.bool false))]) := by
  refine fun_of rfl fun X => ?_
  refine callK_inline (rs := [.cell 4 37, .tmp 5]) (n := 22) Try.func14 rfl rfl rfl (by kernel_rfl) (by kernel_rfl) (by simp only [List.length_cons, List.length_nil]; decide) ?_
  repeat' first
    | with_reducible rfl
    | simp only [*, RS_, argsTM, stepE, stBuiltin, stBox, stAlloc, stLoad, stStore, stField, stExtract, stBin, stUn, stConv, stNilCheck, stFieldV, stIndex, stIndexAddr, stLen, stMin, stMax, stBuild, fillI, stBuildSlice, setRows, stMakeSlice, stAppend, srcR, segR, rdCells, stSlice, bnd, stArr, stCopy, stConv2, isIntV, cutR, byteRows, rowByte, binStr, Option.map_some, Option.map_none, eq_self, canTL, canT, canH, canL, patL, gcH, gcT, gcI, get_gcT, mapC, pullS, pullI, pushS, push1, pushI, pushC, pullHW, roC, ix, List.map_map, Function.comp_def, List.zip_cons_cons, List.zip_nil_left, List.zip_nil_right, List.range'_zero, List.range'_succ, rd, get, put, IV.cells, ofValue, seg, spl, ldIV, binInt, eqI, cellsEq, leafEq, resI, flat, isT, upd, up1, nextM, cR, ptrC, nAl, isAl, ST_, Nat.reduceAdd, Nat.reduceMul, Nat.reduceEqDiff, Nat.reduceLeDiff, ne_eq, reduceCtorEq, reduceIte, forall_const, implies_true, Int.reduceToNat, Int.reduceLE, Int.reduceLT, bne, Int.reduceEq, Int.reduceNe, Int.reduceNeg, Int.reduceAdd, Int.reduceSub, Int.reduceMul, Int.reduceBEq, Int.reduceBNe, Nat.reduceLT, Nat.reduceSub, WLS, Try.underlying24, ty_ag_115, ty_ag_37, ty_of_117_0, ty_ok_37, ty_sz_115, ty_sz_37, ty_ze_37]
    | (with_reducible refine drawK_id ?_); refine drawK_auto hmix (by kernel_rfl) ?_
    | (with_reducible refine draw_fin ?_ ?_); · kernel_rfl
    | (with_reducible refine draw_id ?_); kernel_rfl
    | (with_reducible refine And.intro ?_ ?_; · omega)
theorem n12  : Fun Try.prog 12 [.s (.raw (.pointer none)), .s (.raw (.int .u16 1))] (.s (.raw (.int .i64 1))) := by
  refine fun_of rfl fun X => ?_
  refine callK_inline (rs := [.tmp 4]) (n := 25) Try.func12 rfl rfl rfl (by kernel_rfl) (by kernel_rfl) (by simp only [List.length_cons, List.length_nil]; decide) ?_
  repeat' first
    | with_reducible rfl
    | simp only [*, RS_, argsTM, stepE, stBuiltin, stBox, stAlloc, stLoad, stStore, stField, stExtract, stBin, stUn, stConv, stNilCheck, stFieldV, stIndex, stIndexAddr, stLen, stMin, stMax, stBuild, fillI, stBuildSlice, setRows, stMakeSlice, stAppend, srcR, segR, rdCells, stSlice, bnd, stArr, stCopy, stConv2, isIntV, cutR, byteRows, rowByte, binStr, Option.map_some, Option.map_none, eq_self, canTL, canT, canH, canL, patL, gcH, gcT, gcI, get_gcT, mapC, pullS, pullI, pushS, push1, pushI, pushC, pullHW, roC, ix, List.map_map, Function.comp_def, List.zip_cons_cons, List.zip_nil_left, List.zip_nil_right, List.range'_zero, List.range'_succ, rd, get, put, IV.cells, ofValue, seg, spl, ldIV, binInt, eqI, cellsEq, leafEq, resI, flat, isT, upd, up1, nextM, cR, ptrC, nAl, isAl, ST_, Nat.reduceAdd, Nat.reduceMul, Nat.reduceEqDiff, Nat.reduceLeDiff, ne_eq, reduceCtorEq, reduceIte, forall_const, implies_true, Int.reduceToNat, Int.reduceLE, Int.reduceLT, bne, Int.reduceEq, Int.reduceNe, Int.reduceNeg, Int.reduceAdd, Int.reduceSub, Int.reduceMul, Int.reduceBEq, Int.reduceBNe, Nat.reduceLT, Nat.reduceSub, WLS, Try.underlying24, ty_ag_115, ty_of_117_0, ty_sz_115, ty_sz_37, ty_ze_37]
    | (with_reducible refine drawK_id ?_); refine drawK_auto hmix (by kernel_rfl) ?_
    | (with_reducible refine draw_fin ?_ ?_); · kernel_rfl
    | (with_reducible refine draw_id ?_); kernel_rfl
    | (with_reducible refine And.intro ?_ ?_; · omega)
theorem n18  : Fun Try.prog 18 [.s (.raw (.pointer none))] (.s (.raw (.slice none 0 0))) := by
  refine fun_of rfl fun X => ?_
  refine callK_inline (rs := [.tmp 2]) (n := 30) Try.func18 rfl rfl rfl (by kernel_rfl) (by kernel_rfl) (by simp only [List.length_cons, List.length_nil]; decide) ?_
  repeat' first
    | with_reducible rfl
    | simp only [*, RS_, argsTM, stepE, stBuiltin, stBox, stAlloc, stLoad, stStore, stField, stExtract, stBin, stUn, stConv, stNilCheck, stFieldV, stIndex, stIndexAddr, stLen, stMin, stMax, stBuild, fillI, stBuildSlice, setRows, stMakeSlice, stAppend, srcR, segR, rdCells, stSlice, bnd, stArr, stCopy, stConv2, isIntV, cutR, byteRows, rowByte, binStr, Option.map_some, Option.map_none, eq_self, canTL, canT, canH, canL, patL, gcH, gcT, gcI, get_gcT, mapC, pullS, pullI, pushS, push1, pushI, pushC, pullHW, roC, ix, List.map_map, Function.comp_def, List.zip_cons_cons, List.zip_nil_left, List.zip_nil_right, List.range'_zero, List.range'_succ, rd, get, put, IV.cells, ofValue, seg, spl, ldIV, binInt, eqI, cellsEq, leafEq, resI, flat, isT, upd, up1, nextM, cR, ptrC, nAl, isAl, ST_, Nat.reduceAdd, Nat.reduceMul, Nat.reduceEqDiff, Nat.reduceLeDiff, ne_eq, reduceCtorEq, reduceIte, forall_const, implies_true, Int.reduceToNat, Int.reduceLE, Int.reduceLT, bne, Int.reduceEq, Int.reduceNe, Int.reduceNeg, Int.reduceAdd, Int.reduceSub, Int.reduceMul, Int.reduceBEq, Int.reduceBNe, Nat.reduceLT, Nat.reduceSub, WLS, Try.underlying24, ty_ag_115, ty_ag_27, ty_by_45, ty_of_117_0, ty_sl_120, ty_sr_45, ty_sz_115, ty_sz_27, ty_zs_45]
    | (with_reducible refine drawK_id ?_); refine drawK_auto hmix (by kernel_rfl) ?_
    | (with_reducible refine draw_fin ?_ ?_); · kernel_rfl
    | (with_reducible refine draw_id ?_); kernel_rfl
    | (with_reducible refine And.intro ?_ ?_; · omega)
theorem n16  : Fun Try.prog 16 [.s (.raw (.pointer none)), .a [.raw (.int .u16 1), .raw (.int .u32 0), .raw (.int .u32 0)]] (.s (.raw (.int .i64 1))) := by
  refine fun_of rfl fun X => ?_
  refine callK_inline (rs := [.tmp 4]) (n := 42) Try.func16 rfl rfl rfl (by kernel_rfl) (by kernel_rfl) (by simp only [List.length_cons, List.length_nil]; decide) ?_
  repeat' first
    | with_reducible rfl
    | simp only [*, RS_, argsTM, stepE, stBuiltin, stBox, stAlloc, stLoad, stStore, stField, stExtract, stBin, stUn, stConv, stNilCheck, stFieldV, stIndex, stIndexAddr, stLen, stMin, stMax, stBuild, fillI, stBuildSlice, setRows, stMakeSlice, stAppend, srcR, segR, rdCells, stSlice, bnd, stArr, stCopy, stConv2, isIntV, cutR, byteRows, rowByte, binStr, Option.map_some, Option.map_none, eq_self, canTL, canT, canH, canL, patL, gcH, gcT, gcI, get_gcT, mapC, pullS, pullI, pushS, push1, pushI, pushC, pullHW, roC, ix, List.map_map, Function.comp_def, List.zip_cons_cons, List.zip_nil_left, List.zip_nil_right, List.range'_zero, List.range'_succ, rd, get, put, IV.cells, ofValue, seg, spl, ldIV, binInt, eqI, cellsEq, leafEq, resI, flat, isT, upd, up1, nextM, cR, ptrC, nAl, isAl, ST_, Nat.reduceAdd, Nat.reduceMul, Nat.reduceEqDiff, Nat.reduceLeDiff, ne_eq, reduceCtorEq, reduceIte, forall_const, implies_true, Int.reduceToNat, Int.reduceLE, Int.reduceLT, bne, Int.reduceEq, Int.reduceNe, Int.reduceNeg, Int.reduceAdd, Int.reduceSub, Int.reduceMul, Int.reduceBEq, Int.reduceBNe, Nat.reduceLT, Nat.reduceSub, WLS, Try.underlying115, Try.underlying24, ty_ag_115, ty_ag_27, ty_ag_37, ty_of_117_0, ty_of_37_0, ty_sz_115, ty_sz_27, ty_sz_37, ty_ze_37]
    | (with_reducible refine drawK_id ?_); refine drawK_auto hmix (by kernel_rfl) ?_
    | (with_reducible refine draw_fin ?_ ?_); · kernel_rfl
    | (with_reducible refine draw_id ?_); kernel_rfl
    | (with_reducible refine And.intro ?_ ?_; · omega)
theorem f75 (s : Int) : Fun Try.prog 75 [.s (.raw (.int .u32 s))] (.s (.raw (.bool (decide (s < 65536))))) := by
  refine fun_of rfl fun X => ?_
  refine callK_inline (rs := [.tmp 2]) (n := 5) Try.func75 rfl rfl rfl (by kernel_rfl) (by kernel_rfl) (by simp only [List.length_cons, List.length_nil]; decide) ?_
  repeat' first
    | with_reducible rfl
    | simp only [*, RS_, argsTM, stepE, stBuiltin, stBox, stAlloc, stLoad, stStore, stField, stExtract, stBin, stUn, stConv, stNilCheck, stFieldV, stIndex, stIndexAddr, stLen, stMin, stMax, stBuild, fillI, stBuildSlice, setRows, stMakeSlice, stAppend, srcR, segR, rdCells, stSlice, bnd, stArr, stCopy, stConv2, isIntV, cutR, byteRows, rowByte, binStr, Option.map_some, Option.map_none, eq_self, canTL, canT, canH, canL, patL, gcH, gcT, gcI, get_gcT, mapC, pullS, pullI, pushS, push1, pushI, pushC, pullHW, roC, ix, List.map_map, Function.comp_def, List.zip_cons_cons, List.zip_nil_left, List.zip_nil_right, List.range'_zero, List.range'_succ, rd, get, put, IV.cells, ofValue, seg, spl, ldIV, binInt, eqI, cellsEq, leafEq, resI, flat, isT, upd, up1, nextM, cR, ptrC, nAl, isAl, ST_, Nat.reduceAdd, Nat.reduceMul, Nat.reduceEqDiff, Nat.reduceLeDiff, ne_eq, reduceCtorEq, reduceIte, forall_const, implies_true, Int.reduceToNat, Int.reduceLE, Int.reduceLT, bne, Int.reduceEq, Int.reduceNe, Int.reduceNeg, Int.reduceAdd, Int.reduceSub, Int.reduceMul, Int.reduceBEq, Int.reduceBNe, Nat.reduceLT, Nat.reduceSub, WLS, ]
    | with_reducible refine gdb_split (fun h => ?_) (fun h => ?_)
    | (with_reducible refine drawK_id ?_); refine drawK_auto hmix (by kernel_rfl) ?_
    | (with_reducible refine draw_fin ?_ ?_); · kernel_rfl
    | (with_reducible refine draw_id ?_); kernel_rfl
    | (with_reducible refine And.intro ?_ ?_; · omega)
def withinP (a b : Int) : Bool := bAndNot .u32 (bAnd .u32 a 65535) b == 0
theorem f76 (a b : Int) : Fun Try.prog 76 [.s (.raw (.int .u32 a)), .s (.raw (.int .u32 b))] (.s (.raw (.bool (withinP a b)))) := by
  refine fun_of rfl fun X => ?_
  refine callK_inline (rs := [.tmp 4]) (n := 10) Try.func76 rfl rfl rfl (by kernel_rfl) (by kernel_rfl) (by simp only [List.length_cons, List.length_nil]; decide) ?_
  repeat' first
    | with_reducible rfl
    | simp only [withinP, RS_, argsTM, stepE, stBuiltin, stBox, stAlloc, stLoad, stStore, stField, stExtract, stBin, stUn, stConv, stNilCheck, stFieldV, stIndex, stIndexAddr, stLen, stMin, stMax, stBuild, fillI, stBuildSlice, setRows, stMakeSlice, stAppend, srcR, segR, rdCells, stSlice, bnd, stArr, stCopy, stConv2, isIntV, cutR, byteRows, rowByte, binStr, Option.map_some, Option.map_none, eq_self, canTL, canT, canH, canL, patL, gcH, gcT, gcI, get_gcT, mapC, pullS, pullI, pushS, push1, pushI, pushC, pullHW, roC, ix, List.map_map, Function.comp_def, List.zip_cons_cons, List.zip_nil_left, List.zip_nil_right, List.range'_zero, List.range'_succ, rd, get, put, IV.cells, ofValue, seg, spl, ldIV, binInt, eqI, cellsEq, leafEq, resI, flat, isT, upd, up1, nextM, cR, ptrC, nAl, isAl, ST_, Nat.reduceAdd, Nat.reduceMul, Nat.reduceEqDiff, Nat.reduceLeDiff, ne_eq, reduceCtorEq, reduceIte, forall_const, implies_true, Int.reduceToNat, Int.reduceLE, Int.reduceLT, bne, Int.reduceEq, Int.reduceNe, Int.reduceNeg, Int.reduceAdd, Int.reduceSub, Int.reduceMul, Int.reduceBEq, Int.reduceBNe, Nat.reduceLT, Nat.reduceSub, WLS, ]
    | with_reducible refine gdb_split (fun h => ?_) (fun h => ?_)
    | (with_reducible refine drawK_id ?_); refine drawK_auto hmix (by kernel_rfl) ?_
    | (with_reducible refine draw_fin ?_ ?_); · kernel_rfl
    | (with_reducible refine draw_id ?_); kernel_rfl
    | (with_reducible refine And.intro ?_ ?_; · omega)
def goodV (v m u : Int) : Int := if badV v then 15 else if !decide (m < 65536) || (!decide (u < 65536) || !withinP u m) then 14 else 0
theorem f48 (e : VEN) : Fun Try.prog 48 [.a (eV e)] (.s (.raw (.int .i64 (goodV e.v e.m e.u)))) := by
  refine fun_of rfl fun X => ?_
  have c1 := f75 e.m
  have c2 := f75 e.u
  have c3 := f76 e.u e.m
  unfold goodV badV
  refine callK_inline (rs := [.tmp 2]) (n := 31) Try.func48 rfl rfl rfl (by kernel_rfl) (by kernel_rfl) (by simp only [List.length_cons, List.length_nil]; decide) ?_
  cases h1 : decide (e.v < 1) with
  | true =>
    repeat' first
      | with_reducible rfl
      | simp only [eV, h1, RS_, argsTM, stepE, stBuiltin, stBox, stAlloc, stLoad, stStore, stField, stExtract, stBin, stUn, stConv, stNilCheck, stFieldV, stIndex, stIndexAddr, stLen, stMin, stMax, stBuild, fillI, stBuildSlice, setRows, stMakeSlice, stAppend, srcR, segR, rdCells, stSlice, bnd, stArr, stCopy, stConv2, isIntV, cutR, byteRows, rowByte, binStr, Option.map_some, Option.map_none, eq_self, canTL, canT, canH, canL, patL, gcH, gcT, gcI, get_gcT, mapC, pullS, pullI, pushS, push1, pushI, pushC, pullHW, roC, ix, List.map_map, Function.comp_def, List.zip_cons_cons, List.zip_nil_left, List.zip_nil_right, List.range'_zero, List.range'_succ, rd, get, put, IV.cells, ofValue, seg, spl, ldIV, binInt, eqI, cellsEq, leafEq, resI, flat, isT, upd, up1, nextM, cR, ptrC, nAl, isAl, ST_, Nat.reduceAdd, Nat.reduceMul, Nat.reduceEqDiff, Nat.reduceLeDiff, ne_eq, reduceCtorEq, reduceIte, forall_const, implies_true, Int.reduceToNat, Int.reduceLE, Int.reduceLT, bne, Int.reduceEq, Int.reduceNe, Int.reduceNeg, Int.reduceAdd, Int.reduceSub, Int.reduceMul, Int.reduceBEq, Int.reduceBNe, Nat.reduceLT, Nat.reduceSub, WLS, ty_ag_27, ty_ag_35, ty_of_37_0, ty_of_37_1, ty_of_37_2, ty_sz_27, ty_sz_35]
      | (with_reducible refine drawK_id ?_); refine drawK_auto hmix (by kernel_rfl) ?_
      | (with_reducible refine draw_fin ?_ ?_); · kernel_rfl
      | (with_reducible refine draw_id ?_); kernel_rfl
      | (with_reducible refine callK_id (f := 75) (args := [.s (.raw (.int .u32 e.m))]) ?_); refine callK_fun (f75 e.m) rfl rfl ?_
      | (with_reducible refine callK_id (f := 75) (args := [.s (.raw (.int .u32 e.u))]) ?_); refine callK_fun (f75 e.u) rfl rfl ?_
      | (with_reducible refine callK_id (f := 76) ?_); refine callK_fun (f76 e.u e.m) rfl rfl ?_
      | (with_reducible refine And.intro ?_ ?_; · omega)
  | false =>
    cases h2 : decide (4094 < e.v) with
    | true =>
      repeat' first
        | with_reducible rfl
        | simp only [eV, h1, h2, RS_, argsTM, stepE, stBuiltin, stBox, stAlloc, stLoad, stStore, stField, stExtract, stBin, stUn, stConv, stNilCheck, stFieldV, stIndex, stIndexAddr, stLen, stMin, stMax, stBuild, fillI, stBuildSlice, setRows, stMakeSlice, stAppend, srcR, segR, rdCells, stSlice, bnd, stArr, stCopy, stConv2, isIntV, cutR, byteRows, rowByte, binStr, Option.map_some, Option.map_none, eq_self, canTL, canT, canH, canL, patL, gcH, gcT, gcI, get_gcT, mapC, pullS, pullI, pushS, push1, pushI, pushC, pullHW, roC, ix, List.map_map, Function.comp_def, List.zip_cons_cons, List.zip_nil_left, List.zip_nil_right, List.range'_zero, List.range'_succ, rd, get, put, IV.cells, ofValue, seg, spl, ldIV, binInt, eqI, cellsEq, leafEq, resI, flat, isT, upd, up1, nextM, cR, ptrC, nAl, isAl, ST_, Nat.reduceAdd, Nat.reduceMul, Nat.reduceEqDiff, Nat.reduceLeDiff, ne_eq, reduceCtorEq, reduceIte, forall_const, implies_true, Int.reduceToNat, Int.reduceLE, Int.reduceLT, bne, Int.reduceEq, Int.reduceNe, Int.reduceNeg, Int.reduceAdd, Int.reduceSub, Int.reduceMul, Int.reduceBEq, Int.reduceBNe, Nat.reduceLT, Nat.reduceSub, WLS, ty_ag_27, ty_ag_35, ty_of_37_0, ty_of_37_1, ty_of_37_2, ty_sz_27, ty_sz_35]
        | (with_reducible refine drawK_id ?_); refine drawK_auto hmix (by kernel_rfl) ?_
        | (with_reducible refine draw_fin ?_ ?_); · kernel_rfl
        | (with_reducible refine draw_id ?_); kernel_rfl
        | (with_reducible refine callK_id (f := 75) (args := [.s (.raw (.int .u32 e.m))]) ?_); refine callK_fun (f75 e.m) rfl rfl ?_
        | (with_reducible refine callK_id (f := 75) (args := [.s (.raw (.int .u32 e.u))]) ?_); refine callK_fun (f75 e.u) rfl rfl ?_
        | (with_reducible refine callK_id (f := 76) ?_); refine callK_fun (f76 e.u e.m) rfl rfl ?_
        | (with_reducible refine And.intro ?_ ?_; · omega)
    | false =>
      cases h3 : decide (e.m < 65536) with
      | false =>
        repeat' first
          | with_reducible rfl
          | simp only [eV, h1, h2, h3, RS_, argsTM, stepE, stBuiltin, stBox, stAlloc, stLoad, stStore, stField, stExtract, stBin, stUn, stConv, stNilCheck, stFieldV, stIndex, stIndexAddr, stLen, stMin, stMax, stBuild, fillI, stBuildSlice, setRows, stMakeSlice, stAppend, srcR, segR, rdCells, stSlice, bnd, stArr, stCopy, stConv2, isIntV, cutR, byteRows, rowByte, binStr, Option.map_some, Option.map_none, eq_self, canTL, canT, canH, canL, patL, gcH, gcT, gcI, get_gcT, mapC, pullS, pullI, pushS, push1, pushI, pushC, pullHW, roC, ix, List.map_map, Function.comp_def, List.zip_cons_cons, List.zip_nil_left, List.zip_nil_right, List.range'_zero, List.range'_succ, rd, get, put, IV.cells, ofValue, seg, spl, ldIV, binInt, eqI, cellsEq, leafEq, resI, flat, isT, upd, up1, nextM, cR, ptrC, nAl, isAl, ST_, Nat.reduceAdd, Nat.reduceMul, Nat.reduceEqDiff, Nat.reduceLeDiff, ne_eq, reduceCtorEq, reduceIte, forall_const, implies_true, Int.reduceToNat, Int.reduceLE, Int.reduceLT, bne, Int.reduceEq, Int.reduceNe, Int.reduceNeg, Int.reduceAdd, Int.reduceSub, Int.reduceMul, Int.reduceBEq, Int.reduceBNe, Nat.reduceLT, Nat.reduceSub, WLS, ty_ag_27, ty_ag_35, ty_of_37_0, ty_of_37_1, ty_of_37_2, ty_sz_27, ty_sz_35]
          | (with_reducible refine drawK_id ?_); refine drawK_auto hmix (by kernel_rfl) ?_
          | (with_reducible refine draw_fin ?_ ?_); · kernel_rfl
          | (with_reducible refine draw_id ?_); kernel_rfl
          | (with_reducible refine callK_id (f := 75) (args := [.s (.raw (.int .u32 e.m))]) ?_); refine callK_fun (f75 e.m) rfl rfl ?_
          | (with_reducible refine callK_id (f := 75) (args := [.s (.raw (.int .u32 e.u))]) ?_); refine callK_fun (f75 e.u) rfl rfl ?_
          | (with_reducible refine callK_id (f := 76) ?_); refine callK_fun (f76 e.u e.m) rfl rfl ?_
          | (with_reducible refine And.intro ?_ ?_; · omega)
      | true =>
        cases h4 : decide (e.u < 65536) with
        | false =>
          repeat' first
            | with_reducible rfl
            | simp only [eV, h1, h2, h3, h4, RS_, argsTM, stepE, stBuiltin, stBox, stAlloc, stLoad, stStore, stField, stExtract, stBin, stUn, stConv, stNilCheck, stFieldV, stIndex, stIndexAddr, stLen, stMin, stMax, stBuild, fillI, stBuildSlice, setRows, stMakeSlice, stAppend, srcR, segR, rdCells, stSlice, bnd, stArr, stCopy, stConv2, isIntV, cutR, byteRows, rowByte, binStr, Option.map_some, Option.map_none, eq_self, canTL, canT, canH, canL, patL, gcH, gcT, gcI, get_gcT, mapC, pullS, pullI, pushS, push1, pushI, pushC, pullHW, roC, ix, List.map_map, Function.comp_def, List.zip_cons_cons, List.zip_nil_left, List.zip_nil_right, List.range'_zero, List.range'_succ, rd, get, put, IV.cells, ofValue, seg, spl, ldIV, binInt, eqI, cellsEq, leafEq, resI, flat, isT, upd, up1, nextM, cR, ptrC, nAl, isAl, ST_, Nat.reduceAdd, Nat.reduceMul, Nat.reduceEqDiff, Nat.reduceLeDiff, ne_eq, reduceCtorEq, reduceIte, forall_const, implies_true, Int.reduceToNat, Int.reduceLE, Int.reduceLT, bne, Int.reduceEq, Int.reduceNe, Int.reduceNeg, Int.reduceAdd, Int.reduceSub, Int.reduceMul, Int.reduceBEq, Int.reduceBNe, Nat.reduceLT, Nat.reduceSub, WLS, ty_ag_27, ty_ag_35, ty_of_37_0, ty_of_37_1, ty_of_37_2, ty_sz_27, ty_sz_35]
            | (with_reducible refine drawK_id ?_); refine drawK_auto hmix (by kernel_rfl) ?_
            | (with_reducible refine draw_fin ?_ ?_); · kernel_rfl
            | (with_reducible refine draw_id ?_); kernel_rfl
            | (with_reducible refine callK_id (f := 75) (args := [.s (.raw (.int .u32 e.m))]) ?_); refine callK_fun (f75 e.m) rfl rfl ?_
            | (with_reducible refine callK_id (f := 75) (args := [.s (.raw (.int .u32 e.u))]) ?_); refine callK_fun (f75 e.u) rfl rfl ?_
            | (with_reducible refine callK_id (f := 76) ?_); refine callK_fun (f76 e.u e.m) rfl rfl ?_
            | (with_reducible refine And.intro ?_ ?_; · omega)
        | true =>
          cases h5 : withinP e.u e.m with
          | false =>
            repeat' first
              | with_reducible rfl
              | simp only [eV, h1, h2, h3, h4, h5, RS_, argsTM, stepE, stBuiltin, stBox, stAlloc, stLoad, stStore, stField, stExtract, stBin, stUn, stConv, stNilCheck, stFieldV, stIndex, stIndexAddr, stLen, stMin, stMax, stBuild, fillI, stBuildSlice, setRows, stMakeSlice, stAppend, srcR, segR, rdCells, stSlice, bnd, stArr, stCopy, stConv2, isIntV, cutR, byteRows, rowByte, binStr, Option.map_some, Option.map_none, eq_self, canTL, canT, canH, canL, patL, gcH, gcT, gcI, get_gcT, mapC, pullS, pullI, pushS, push1, pushI, pushC, pullHW, roC, ix, List.map_map, Function.comp_def, List.zip_cons_cons, List.zip_nil_left, List.zip_nil_right, List.range'_zero, List.range'_succ, rd, get, put, IV.cells, ofValue, seg, spl, ldIV, binInt, eqI, cellsEq, leafEq, resI, flat, isT, upd, up1, nextM, cR, ptrC, nAl, isAl, ST_, Nat.reduceAdd, Nat.reduceMul, Nat.reduceEqDiff, Nat.reduceLeDiff, ne_eq, reduceCtorEq, reduceIte, forall_const, implies_true, Int.reduceToNat, Int.reduceLE, Int.reduceLT, bne, Int.reduceEq, Int.reduceNe, Int.reduceNeg, Int.reduceAdd, Int.reduceSub, Int.reduceMul, Int.reduceBEq, Int.reduceBNe, Nat.reduceLT, Nat.reduceSub, WLS, ty_ag_27, ty_ag_35, ty_of_37_0, ty_of_37_1, ty_of_37_2, ty_sz_27, ty_sz_35]
              | (with_reducible refine drawK_id ?_); refine drawK_auto hmix (by kernel_rfl) ?_
              | (with_reducible refine draw_fin ?_ ?_); · kernel_rfl
              | (with_reducible refine draw_id ?_); kernel_rfl
              | (with_reducible refine callK_id (f := 75) (args := [.s (.raw (.int .u32 e.m))]) ?_); refine callK_fun (f75 e.m) rfl rfl ?_
              | (with_reducible refine callK_id (f := 75) (args := [.s (.raw (.int .u32 e.u))]) ?_); refine callK_fun (f75 e.u) rfl rfl ?_
              | (with_reducible refine callK_id (f := 76) ?_); refine callK_fun (f76 e.u e.m) rfl rfl ?_
              | (with_reducible refine And.intro ?_ ?_; · omega)
          | true =>
            repeat' first
              | with_reducible rfl
              | simp only [eV, h1, h2, h3, h4, h5, RS_, argsTM, stepE, stBuiltin, stBox, stAlloc, stLoad, stStore, stField, stExtract, stBin, stUn, stConv, stNilCheck, stFieldV, stIndex, stIndexAddr, stLen, stMin, stMax, stBuild, fillI, stBuildSlice, setRows, stMakeSlice, stAppend, srcR, segR, rdCells, stSlice, bnd, stArr, stCopy, stConv2, isIntV, cutR, byteRows, rowByte, binStr, Option.map_some, Option.map_none, eq_self, canTL, canT, canH, canL, patL, gcH, gcT, gcI, get_gcT, mapC, pullS, pullI, pushS, push1, pushI, pushC, pullHW, roC, ix, List.map_map, Function.comp_def, List.zip_cons_cons, List.zip_nil_left, List.zip_nil_right, List.range'_zero, List.range'_succ, rd, get, put, IV.cells, ofValue, seg, spl, ldIV, binInt, eqI, cellsEq, leafEq, resI, flat, isT, upd, up1, nextM, cR, ptrC, nAl, isAl, ST_, Nat.reduceAdd, Nat.reduceMul, Nat.reduceEqDiff, Nat.reduceLeDiff, ne_eq, reduceCtorEq, reduceIte, forall_const, implies_true, Int.reduceToNat, Int.reduceLE, Int.reduceLT, bne, Int.reduceEq, Int.reduceNe, Int.reduceNeg, Int.reduceAdd, Int.reduceSub, Int.reduceMul, Int.reduceBEq, Int.reduceBNe, Nat.reduceLT, Nat.reduceSub, WLS, ty_ag_27, ty_ag_35, ty_of_37_0, ty_of_37_1, ty_of_37_2, ty_sz_27, ty_sz_35]
              | (with_reducible refine drawK_id ?_); refine drawK_auto hmix (by kernel_rfl) ?_
              | (with_reducible refine draw_fin ?_ ?_); · kernel_rfl
              | (with_reducible refine draw_id ?_); kernel_rfl
              | (with_reducible refine callK_id (f := 75) (args := [.s (.raw (.int .u32 e.m))]) ?_); refine callK_fun (f75 e.m) rfl rfl ?_
              | (with_reducible refine callK_id (f := 75) (args := [.s (.raw (.int .u32 e.u))]) ?_); refine callK_fun (f75 e.u) rfl rfl ?_
              | (with_reducible refine callK_id (f := 76) ?_); refine callK_fun (f76 e.u e.m) rfl rfl ?_
              | (with_reducible refine And.intro ?_ ?_; · omega)
def setV (clock : Nat) (L : List VEN) (v m u : Int) : Int × Nat × List VEN :=
  if goodV v m u = 0 then if (lookV L v).isSome = false ∧ 16 ≤ L.length then (13, clock, L) else (0, putV clock L v m u) else (goodV v m u, clock, L)
theorem f16 (clock : Nat) (L : List VEN) (hn : NDkV L) (e : VEN) : FunW Try.prog 16 [] [tabV, mpV clock L] [.s (.ptr 0 0 0), .a (eV e)] fun r Hn => r = .s (.raw (.int .i64 (setV clock L e.v e.m e.u).1)) ∧ Hn = [tabV, mpV (setV clock L e.v e.m e.u).2.1 (setV clock L e.v e.m e.u).2.2] := by
  refine funW_of fun X => ?_
  have c48 := f48 e
  have kf : IV.s (.raw (.int .u16 e.v)) = kV e.v := rfl
  refine callK_inline (rs := [.tmp 4]) (n := 42) Try.func16 rfl rfl rfl (by kernel_rfl) (by kernel_rfl) (by simp only [List.length_cons, List.length_nil]; decide) ?_
  by_cases hg : goodV e.v e.m e.u = 0
  · rw [hg] at c48
    rcases lookV_cases L hn e.v with ⟨h1, h0⟩ | ⟨l1, x, l2, rfl, hk, h1, h0⟩
    · by_cases hl : 16 ≤ L.length
      · have hs : setV clock L e.v e.m e.u = (13, clock, L) := by simp [setV, hg, h1, hl]
        have hl2 : decide ((16 : Int) ≤ (L.length : Int)) = true := decide_eq_true (by omega)
        rw [hs]
        unfold tabV mpV
        repeat' first
          | with_reducible rfl
          | simp only [eV, List.length_map, List.map_append, vE_v, hl2, RS_, argsTM, stepE, stBuiltin, stBox, stAlloc, stLoad, stStore, stField, stExtract, stBin, stUn, stConv, stNilCheck, stFieldV, stIndex, stIndexAddr, stLen, stMin, stMax, stBuild, fillI, stBuildSlice, setRows, stMakeSlice, stAppend, srcR, segR, rdCells, stSlice, bnd, stArr, stCopy, stConv2, isIntV, cutR, byteRows, rowByte, binStr, Option.map_some, Option.map_none, eq_self, canTL, canT, canH, canL, patL, gcH, gcT, gcI, get_gcT, mapC, pullS, pullI, pushS, push1, pushI, pushC, pullHW, roC, ix, List.map_map, Function.comp_def, List.zip_cons_cons, List.zip_nil_left, List.zip_nil_right, List.range'_zero, List.range'_succ, rd, get, put, IV.cells, ofValue, seg, spl, ldIV, binInt, eqI, cellsEq, leafEq, resI, flat, isT, upd, up1, nextM, cR, ptrC, nAl, isAl, ST_, Nat.reduceAdd, Nat.reduceMul, Nat.reduceEqDiff, Nat.reduceLeDiff, ne_eq, reduceCtorEq, reduceIte, forall_const, implies_true, Int.reduceToNat, Int.reduceLE, Int.reduceLT, bne, Int.reduceEq, Int.reduceNe, Int.reduceNeg, Int.reduceAdd, Int.reduceSub, Int.reduceMul, Int.reduceBEq, Int.reduceBNe, Nat.reduceLT, Nat.reduceSub, WLS, Try.underlying115, Try.underlying24, ty_ag_115, ty_ag_27, ty_ag_37, ty_of_117_0, ty_of_37_0, ty_sz_115, ty_sz_27, ty_sz_37, ty_ze_37]
          | (with_reducible refine drawK_id ?_); refine drawK_auto hmix (by kernel_rfl) ?_
          | (with_reducible refine draw_fin ?_ ?_); · kernel_rfl
          | (with_reducible refine draw_id ?_); kernel_rfl
          | ((with_reducible refine callK_id (f := 48) ?_); refine callK_fun c48 rfl rfl ?_)
          | ((with_reducible refine genD_id ?_); refine lookupD_miss (z := .agg #[.int .u16 0, .int .u32 0, .int .u32 0]) (zi := .a [.raw (.int .u16 0), .raw (.int .u32 0), .raw (.int .u32 0)]) ty_mpV ty_lkV rfl rfl (sh_v _) rfl rfl (shpV L) (noKV _ L h0) zv37 (fun ρ => ⟨_, rfl, ⟨rfl, rfl⟩, ⟨rfl, rfl⟩, ⟨rfl, rfl⟩, trivial⟩) ?_)
          | ((with_reducible refine genK_id ?_); refine len_map ty_mpV rfl rfl ?_)
          | (refine ⟨_, _, WkR.gc [0, 1] rfl (by decide), by simp [gcH], ?_, ?_⟩ <;> (first | (simp [gcI, pullI, pullS, eV]; done) | (simp [gcH, Function.comp_def, rows_pull, pullS, ix, mapC, vE_pull, kV_pull, pullI_a, eV_pull]; done) | (simp [gcH, Function.comp_def, rows_pull, pullS, ix, mapC, vE_pull, kV_pull, pullI_a, eV_pull]; rfl)))
          | (with_reducible refine And.intro ?_ ?_; · omega)
      · have hs : setV clock L e.v e.m e.u = (0, clock + 1, L ++ [⟨e.v, e.m, e.u, clock⟩]) := by simp [setV, hg, h1, hl, putV_miss clock L e.v e.m e.u h1]
        have hl2 : decide ((16 : Int) ≤ (L.length : Int)) = false := decide_eq_false (by omega)
        rw [hs]
        unfold tabV mpV
        repeat' first
          | with_reducible rfl
          | simp only [eV, List.length_map, List.map_append, vE_v, hl2, RS_, argsTM, stepE, stBuiltin, stBox, stAlloc, stLoad, stStore, stField, stExtract, stBin, stUn, stConv, stNilCheck, stFieldV, stIndex, stIndexAddr, stLen, stMin, stMax, stBuild, fillI, stBuildSlice, setRows, stMakeSlice, stAppend, srcR, segR, rdCells, stSlice, bnd, stArr, stCopy, stConv2, isIntV, cutR, byteRows, rowByte, binStr, Option.map_some, Option.map_none, eq_self, canTL, canT, canH, canL, patL, gcH, gcT, gcI, get_gcT, mapC, pullS, pullI, pushS, push1, pushI, pushC, pullHW, roC, ix, List.map_map, Function.comp_def, List.zip_cons_cons, List.zip_nil_left, List.zip_nil_right, List.range'_zero, List.range'_succ, rd, get, put, IV.cells, ofValue, seg, spl, ldIV, binInt, eqI, cellsEq, leafEq, resI, flat, isT, upd, up1, nextM, cR, ptrC, nAl, isAl, ST_, Nat.reduceAdd, Nat.reduceMul, Nat.reduceEqDiff, Nat.reduceLeDiff, ne_eq, reduceCtorEq, reduceIte, forall_const, implies_true, Int.reduceToNat, Int.reduceLE, Int.reduceLT, bne, Int.reduceEq, Int.reduceNe, Int.reduceNeg, Int.reduceAdd, Int.reduceSub, Int.reduceMul, Int.reduceBEq, Int.reduceBNe, Nat.reduceLT, Nat.reduceSub, WLS, Try.underlying115, Try.underlying24, ty_ag_115, ty_ag_27, ty_ag_37, ty_of_117_0, ty_of_37_0, ty_sz_115, ty_sz_27, ty_sz_37, ty_ze_37]
          | (with_reducible refine drawK_id ?_); refine drawK_auto hmix (by kernel_rfl) ?_
          | (with_reducible refine draw_fin ?_ ?_); · kernel_rfl
          | (with_reducible refine draw_id ?_); kernel_rfl
          | ((with_reducible refine callK_id (f := 48) ?_); refine callK_fun c48 rfl rfl ?_)
          | ((with_reducible refine genD_id ?_); refine lookupD_miss (z := .agg #[.int .u16 0, .int .u32 0, .int .u32 0]) (zi := .a [.raw (.int .u16 0), .raw (.int .u32 0), .raw (.int .u32 0)]) ty_mpV ty_lkV rfl rfl (sh_v _) rfl rfl (shpV L) (noKV _ L h0) zv37 (fun ρ => ⟨_, rfl, ⟨rfl, rfl⟩, ⟨rfl, rfl⟩, ⟨rfl, rfl⟩, trivial⟩) ?_)
          | ((with_reducible refine genK_id ?_); refine len_map ty_mpV rfl rfl ?_)
          | ((with_reducible refine genD_id ?_); refine updD_new ty_mpV ty_lkV rfl rfl (sh_v _) rfl rfl (fun _ h => by cases h) rfl (shpV L) (noKV _ L h0) ?_)
          | (refine ⟨_, _, WkR.gc [0, 1] rfl (by decide), by simp [gcH], ?_, ?_⟩ <;> (first | (simp [gcI, pullI, pullS, eV]; done) | (simp [gcH, Function.comp_def, rows_pull, pullS, ix, mapC, vE_pull, kV_pull, pullI_a, eV_pull]; done) | (simp [gcH, Function.comp_def, rows_pull, pullS, ix, mapC, vE_pull, kV_pull, pullI_a, eV_pull]; rfl)))
          | (with_reducible refine And.intro ?_ ?_; · omega)
    · have h1' : lookV (l1 ++ x :: l2) x.v = some x := by rw [hk]; exact h1
      have h0' : ∀ y ∈ l1 ++ l2, y.v ≠ x.v := fun y hy => by rw [hk]; exact h0 y hy
      have hs : setV clock (l1 ++ x :: l2) e.v e.m e.u = (0, clock, l1 ++ ⟨e.v, e.m, e.u, x.s⟩ :: l2) := by
        have := putV_hit clock l1 x l2 e.m e.u h1' h0'
        rw [hk] at this
        simp [setV, hg, h1, this, hk]
      rw [hs]
      have hsh := shpV (l1 ++ x :: l2)
      have h2 := noKV e.v _ h0
      have hh : cellsEq lsV (kV e.v).cells (vE x).1.cells = some true := by rw [← hk]; exact hitV x.v
      rw [List.map_append, List.map_cons] at hsh
      rw [List.map_append] at h2
      unfold tabV mpV
      simp only [List.map_append, List.map_cons]
      repeat' first
        | with_reducible rfl
        | simp only [eV, List.length_map, List.map_append, vE_v, hk, RS_, argsTM, stepE, stBuiltin, stBox, stAlloc, stLoad, stStore, stField, stExtract, stBin, stUn, stConv, stNilCheck, stFieldV, stIndex, stIndexAddr, stLen, stMin, stMax, stBuild, fillI, stBuildSlice, setRows, stMakeSlice, stAppend, srcR, segR, rdCells, stSlice, bnd, stArr, stCopy, stConv2, isIntV, cutR, byteRows, rowByte, binStr, Option.map_some, Option.map_none, eq_self, canTL, canT, canH, canL, patL, gcH, gcT, gcI, get_gcT, mapC, pullS, pullI, pushS, push1, pushI, pushC, pullHW, roC, ix, List.map_map, Function.comp_def, List.zip_cons_cons, List.zip_nil_left, List.zip_nil_right, List.range'_zero, List.range'_succ, rd, get, put, IV.cells, ofValue, seg, spl, ldIV, binInt, eqI, cellsEq, leafEq, resI, flat, isT, upd, up1, nextM, cR, ptrC, nAl, isAl, ST_, Nat.reduceAdd, Nat.reduceMul, Nat.reduceEqDiff, Nat.reduceLeDiff, ne_eq, reduceCtorEq, reduceIte, forall_const, implies_true, Int.reduceToNat, Int.reduceLE, Int.reduceLT, bne, Int.reduceEq, Int.reduceNe, Int.reduceNeg, Int.reduceAdd, Int.reduceSub, Int.reduceMul, Int.reduceBEq, Int.reduceBNe, Nat.reduceLT, Nat.reduceSub, WLS, Try.underlying115, Try.underlying24, ty_ag_115, ty_ag_27, ty_ag_37, ty_of_117_0, ty_of_37_0, ty_sz_115, ty_sz_27, ty_sz_37, ty_ze_37]
        | (with_reducible refine drawK_id ?_); refine drawK_auto hmix (by kernel_rfl) ?_
        | (with_reducible refine draw_fin ?_ ?_); · kernel_rfl
        | (with_reducible refine draw_id ?_); kernel_rfl
        | ((with_reducible refine callK_id (f := 48) ?_); refine callK_fun c48 rfl rfl ?_)
        | ((with_reducible refine genD_id ?_); refine lookupD_miss (z := .agg #[.int .u16 0, .int .u32 0, .int .u32 0]) (zi := .a [.raw (.int .u16 0), .raw (.int .u32 0), .raw (.int .u32 0)]) ty_mpV ty_lkV rfl rfl (sh_v _) rfl rfl (shpV L) (noKV _ L h0) zv37 (fun ρ => ⟨_, rfl, ⟨rfl, rfl⟩, ⟨rfl, rfl⟩, ⟨rfl, rfl⟩, trivial⟩) ?_)
        | ((with_reducible refine genK_id ?_); refine len_map ty_mpV rfl rfl ?_)
        | ((with_reducible refine genD_id ?_); refine lookupD_hit ty_mpV ty_lkV rfl rfl (sh_v _) rfl hsh hh h2 ?_)
        | ((with_reducible refine genD_id ?_); refine updD_old ty_mpV ty_lkV rfl rfl (sh_v _) rfl (fun _ h => by cases h) rfl hsh hh h2 ?_)
        | (refine ⟨_, _, WkR.gc [0, 1] rfl (by decide), by simp [gcH], ?_, ?_⟩ <;> (first | (simp [gcI, pullI, pullS, eV]; done) | (simp [gcH, Function.comp_def, rows_pull, pullS, ix, mapC, vE_pull, kV_pull, pullI_a, eV_pull]; done) | (simp [gcH, Function.comp_def, rows_pull, pullS, ix, mapC, vE_pull, kV_pull, pullI_a, eV_pull]; (try simp [vE, kV, eV, hk]); try rfl)))
        | (with_reducible refine And.intro ?_ ?_; · omega)
  · have hg2 : (goodV e.v e.m e.u == 0) = false := by simpa using hg
    have hs : setV clock L e.v e.m e.u = (goodV e.v e.m e.u, clock, L) := by simp [setV, hg]
    rw [hs]
    unfold tabV mpV
    repeat' first
      | with_reducible rfl
      | simp only [eV, List.length_map, List.map_append, vE_v, hg2, RS_, argsTM, stepE, stBuiltin, stBox, stAlloc, stLoad, stStore, stField, stExtract, stBin, stUn, stConv, stNilCheck, stFieldV, stIndex, stIndexAddr, stLen, stMin, stMax, stBuild, fillI, stBuildSlice, setRows, stMakeSlice, stAppend, srcR, segR, rdCells, stSlice, bnd, stArr, stCopy, stConv2, isIntV, cutR, byteRows, rowByte, binStr, Option.map_some, Option.map_none, eq_self, canTL, canT, canH, canL, patL, gcH, gcT, gcI, get_gcT, mapC, pullS, pullI, pushS, push1, pushI, pushC, pullHW, roC, ix, List.map_map, Function.comp_def, List.zip_cons_cons, List.zip_nil_left, List.zip_nil_right, List.range'_zero, List.range'_succ, rd, get, put, IV.cells, ofValue, seg, spl, ldIV, binInt, eqI, cellsEq, leafEq, resI, flat, isT, upd, up1, nextM, cR, ptrC, nAl, isAl, ST_, Nat.reduceAdd, Nat.reduceMul, Nat.reduceEqDiff, Nat.reduceLeDiff, ne_eq, reduceCtorEq, reduceIte, forall_const, implies_true, Int.reduceToNat, Int.reduceLE, Int.reduceLT, bne, Int.reduceEq, Int.reduceNe, Int.reduceNeg, Int.reduceAdd, Int.reduceSub, Int.reduceMul, Int.reduceBEq, Int.reduceBNe, Nat.reduceLT, Nat.reduceSub, WLS, Try.underlying115, Try.underlying24, ty_ag_115, ty_ag_27, ty_ag_37, ty_of_117_0, ty_of_37_0, ty_sz_115, ty_sz_27, ty_sz_37, ty_ze_37]
      | (with_reducible refine drawK_id ?_); refine drawK_auto hmix (by kernel_rfl) ?_
      | (with_reducible refine draw_fin ?_ ?_); · kernel_rfl
      | (with_reducible refine draw_id ?_); kernel_rfl
      | ((with_reducible refine callK_id (f := 48) ?_); refine callK_fun c48 rfl rfl ?_)
      | ((with_reducible refine genD_id ?_); refine lookupD_miss (z := .agg #[.int .u16 0, .int .u32 0, .int .u32 0]) (zi := .a [.raw (.int .u16 0), .raw (.int .u32 0), .raw (.int .u32 0)]) ty_mpV ty_lkV rfl rfl (sh_v _) rfl rfl (shpV L) (noKV _ L h0) zv37 (fun ρ => ⟨_, rfl, ⟨rfl, rfl⟩, ⟨rfl, rfl⟩, ⟨rfl, rfl⟩, trivial⟩) ?_)
      | ((with_reducible refine genK_id ?_); refine len_map ty_mpV rfl rfl ?_)
      | (refine ⟨_, _, WkR.gc [0, 1] rfl (by decide), by simp [gcH], ?_, ?_⟩ <;> (first | (simp [gcI, pullI, pullS, eV]; done) | (simp [gcH, Function.comp_def, rows_pull, pullS, ix, mapC, vE_pull, kV_pull, pullI_a, eV_pull]; done) | (simp [gcH, Function.comp_def, rows_pull, pullS, ix, mapC, vE_pull, kV_pull, pullI_a, eV_pull]; rfl)))
      | (with_reducible refine And.intro ?_ ?_; · omega)
end Go.Ev
