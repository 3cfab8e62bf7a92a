/- A part of the proof: contracts of the functions that the statement reaches. -/
import Derived.Test.YtnmobamjinponaaEvC
import Derived.Test.YtnmobamjinponaaM1
import Derived.Test.YtnmobamjinponaaQ9
namespace Go.Ev
open Go.Proofs
set_option maxRecDepth 100000
set_option linter.unusedSimpArgs false
set_option linter.unusedVariables false
set_option maxHeartbeats 4000000
open Srt Go.RowKit
theorem s_0 {P : Program} {n : Nat} {X : Ctx} {c : Code} {Q : Exit → TM → Heap → Prop} {tm : TM} {H : Heap} : evS P n X 0 c Q tm H = IW P n X c Q tm H := rfl
theorem s_1 {P : Program} {n : Nat} {X : Ctx} {a b : Code} {Q : Exit → TM → Heap → Prop} {tm : TM} {H : Heap} : evS P n X 1 (.seq a b) Q tm H = ev P n X a (seqQ (evS P n X 0 b Q) Q) tm H := rfl
theorem clo_at {X : Ctx} {n : Nat} {ρ : Ren} {tm : TM} {a : Act} {H : Heap} {w : World} {c d t : Nat} {gf : FuncId} (ha : RelA X n ρ tm a) (hi : Inv X ρ H w) (ht : get tm t = .s (.ref c)) (hc : H[c]? = some (.clo (.func gf) [] [.s (.ptr d 0 0)])) :
    ∃ b base sz lim, ρ[d]? = some (.mem b base sz lim) ∧ a.eval (.tmp t) = .func (.func gf) #[] #[.pointer (some ⟨b, base, none⟩)] := by
  have hr := rd_rel ha (.tmp t)
  simp only [rd, ht] at hr
  obtain ⟨l, hl, f', c', rfl, hf, hcap⟩ := hi.sat c _ hc
  have hv : a.eval (.tmp t) = .func (.func gf) f'.toArray c'.toArray := by
    rcases hr with ⟨b', h⟩ | ⟨h, _⟩
    · rw [hl] at h; cases h
    · rw [hl, Option.some.injEq, Pl.val.injEq] at h; exact h.symm
  cases f' with
  | cons _ _ => exact hf.elim
  | nil =>
    cases c' with
    | nil => exact hcap.elim
    | cons v vs =>
      obtain ⟨⟨b, base, sz, lim, hd, rfl⟩, h2⟩ := hcap
      cases vs with
      | cons _ _ => exact h2.elim
      | nil => exact ⟨b, base, sz, lim, hd, by rw [hv]; simp⟩
theorem _root_.Go.Ev.Wk.fin {N : Nat} {tm tm1 tm2 : TM} {H H1 H2 : Heap} (h : Wk N tm H tm1 H1) (ht : ∀ q ∈ tm2, get tm1 q.1 = q.2) (hH : H1 = H2) : Wk N tm H tm2 H2 := by
  subst hH
  intro X n ρ a w ha hi
  obtain ⟨ρ1, h1, h2, h3⟩ := h X n ρ a w ha hi
  refine ⟨ρ1, h1, ⟨h2.size, h2.defers, fun t => ?_⟩, h3⟩
  have key : ∀ tm2 : TM, (∀ q ∈ tm2, get tm1 q.1 = q.2) → relI ρ1 (get tm2 t) (a.tmps.getD t undef) := by
    intro tm2
    induction tm2 with
    | nil => intro _; exact trivial
    | cons q tm2 ih =>
      intro hq
      obtain ⟨s, v⟩ := q
      simp only [get]
      split
      · rename_i e
        subst e
        have := hq (s, v) (by simp)
        simp only at this
        rw [← this]; exact h2.rel s
      · exact ih fun q hm => hq q (List.mem_cons_of_mem _ hm)
  exact key tm2 ht
/-- A cell that holds a map. -/
theorem cellref_at {X : Ctx} {ρ : Ren} {H : Heap} {w : World} {c d sz' bm : Nat} {own : Bool} {b base sz lim : Nat} (hi : Inv X ρ H w) (hc : H[d]? = some (.rows own sz' [[.ref c]])) (hρ : ρ[d]? = some (.mem b base sz lim)) (hm : ρ[c]? = some (.obj bm (.map (some bm)))) : w.cell? ⟨b, base, none⟩ = some (.map (some bm)) := by
  obtain ⟨_, vs, hrel, hcell⟩ := read_cells2 (i := 0) (o := 0) (n := 1) (l := [.ref c]) hi hc hρ rfl
  cases vs with
  | nil => exact hrel.elim
  | cons x xs =>
    have := hcell 0 x rfl
    obtain ⟨h, _⟩ := hrel
    have hx : x = .map (some bm) := by
      rcases h with ⟨b', h⟩ | ⟨h, _⟩
      · rw [hm, Option.some.injEq, Pl.obj.injEq] at h; exact h.2.symm
      · rw [hm] at h; cases h
    subst hx
    simpa using this
def keyI : IV → Int
  | .s (.raw (.int _ v)) => v
  | _ => 0
theorem relM_keys {ρ : Ren} {L : List VEN} : ∀ {p : List (IV × IV × Nat)} {es : List MapEntry}, (∀ y ∈ p, y ∈ L.map vE) → relM ρ p es → (es.map fun e => (e.key, e.born)) = (p.map fun y => (keyI y.1, y.2.2)).map fun x => (Value.int .u16 x.1, x.2)
  | [], [], _, _ => rfl
  | y :: p, e :: es, hm, h => by
    obtain ⟨h1, _, h3, h4⟩ := h
    obtain ⟨v, _, rfl⟩ := List.mem_map.1 (hm y (by simp))
    have hk : e.key = .int .u16 v.v := h1.1
    simp only [List.map_cons]
    rw [relM_keys (fun z hz => hm z (List.mem_cons_of_mem _ hz)) h4, hk, h3]
    rfl
  | [], _ :: _, _, h => h.elim
  | _ :: _, [], _, h => h.elim
/-- The table's map, as the world has it. -/
theorem mapU_at {X : Ctx} {ρ : Ren} {H : Heap} {w : World} {c bm cv : Nat} {L : List VEN} (hi : Inv X ρ H w) (hc : H[c]? = some (mpV cv L)) (hρ : ρ[c]? = some (.obj bm (.map (some bm)))) : Go.Proofs.MapU w bm cv (L.map fun e => (e.v, e.s)) := by
  obtain ⟨l, hl, b, ents, rfl, hb, ⟨p, hp, hr⟩, _⟩ := hi.sat c _ hc
  rw [hρ, Option.some.injEq, Pl.obj.injEq] at hl
  obtain ⟨rfl, _⟩ := hl
  refine ⟨ents, p.map fun y => (keyI y.1, y.2.2), hb, ?_, relM_keys (fun y hy => hp.mem_iff.1 hy) hr⟩
  have := hp.map fun y : IV × IV × Nat => (keyI y.1, y.2.2)
  rw [List.map_map] at this
  exact this
theorem mapV_facts {X : Ctx} {ρ : Ren} {H : Heap} {w : World} {c cv : Nat} {L : List VEN} (hi : Inv X ρ H w) (hc : H[c]? = some (mpV cv L)) : ∃ bm, ρ[c]? = some (.obj bm (.map (some bm))) ∧ ((L.map fun e => (e.v, e.s)).map (·.2)).Nodup ∧ ∀ x ∈ L.map fun e => (e.v, e.s), x.2 < cv := by
  obtain ⟨l, hl, b, ents, rfl, hb, _, hlt, hnd⟩ := hi.sat c _ hc
  refine ⟨b, hl, ?_, fun x hx => ?_⟩
  · rw [List.map_map]
    rw [List.map_map] at hnd
    exact hnd
  · obtain ⟨e, he, rfl⟩ := List.mem_map.1 hx
    exact hlt _ (List.mem_map.2 ⟨e, he, rfl⟩)
def kClo : Chunk := .clo (.func 79) [] [.s (.ptr 1 0 0)]
theorem keysW (cv : Nat) (L : List VEN) : FunW Try.prog 51 [] [mpV cv L] [.s (.ref 0)] fun r Hn => r = .s (.ref 2) ∧ Hn = [mpV cv L, .rows true 1 [[.ref 0]], kClo] := by
  refine funW_of fun X => ?_
  refine callK_inline (rs := [.tmp 2]) (n := 4) Try.func51 rfl rfl rfl (by kernel_rfl) (by kernel_rfl) (by simp only [List.length_cons, List.length_nil]; decide) ?_
  repeat' first
    | with_reducible rfl
    | simp only [stepG, mpV, kClo, RS_, argsTM, stepE, stBuiltin, stBox, stAlloc, stLoad, stStore, stField, stExtract, stBin, stUn, stConv, stNilCheck, stFieldV, stIndex, stIndexAddr, stLen, stMin, stMax, stBuild, fillI, stBuildSlice, setRows, stMakeSlice, stAppend, srcR, segR, rdCells, stSlice, bnd, stArr, stCopy, stConv2, isIntV, cutR, byteRows, rowByte, binStr, Option.map_some, Option.map_none, eq_self, canTL, canT, canH, canL, patL, gcH, gcT, gcI, get_gcT, mapC, pullS, pullI, pushS, push1, pushI, pushC, pullHW, roC, ix, List.map_map, Function.comp_def, List.zip_cons_cons, List.zip_nil_left, List.zip_nil_right, List.range'_zero, List.range'_succ, rd, get, put, IV.cells, ofValue, seg, spl, ldIV, binInt, eqI, cellsEq, leafEq, resI, flat, isT, upd, up1, nextM, cR, ptrC, nAl, isAl, ST_, Nat.reduceAdd, Nat.reduceMul, Nat.reduceEqDiff, Nat.reduceLeDiff, ne_eq, reduceCtorEq, reduceIte, forall_const, implies_true, Int.reduceToNat, Int.reduceLE, Int.reduceLT, bne, Int.reduceEq, Int.reduceNe, Int.reduceNeg, Int.reduceAdd, Int.reduceSub, Int.reduceMul, Int.reduceBEq, Int.reduceBNe, Nat.reduceLT, Nat.reduceSub, WLS, ]
    | (with_reducible refine drawK_id ?_); refine drawK_auto hmix (by kernel_rfl) ?_
    | (with_reducible refine draw_fin ?_ ?_); · kernel_rfl
    | (with_reducible refine draw_id ?_); kernel_rfl
    | (with_reducible refine makeFunc_gen ?_ ?_ ?_ <;> first | rfl | skip)
    | exact ⟨_, _, WkR.refl, by simp, rfl, rfl⟩
    | (with_reducible refine And.intro ?_ ?_; · omega)
theorem clo_pull (σ : List Nat) (fn : Fn) (f c : List IV) : mapC (pullS σ) (pullI σ) (.clo fn f c) = .clo fn (f.map (pullI σ)) (c.map (pullI σ)) := rfl
theorem clo_push (σ : List Nat) (fn : Fn) (f c : List IV) : pushC σ (.clo fn f c) = .clo fn (f.map (push1 σ)) (c.map (push1 σ)) := rfl
def HA (cv : Nat) (L : List VEN) (xs : List Int) : Heap := [mpV cv L, .rows true 1 [[.ref 0]], kClo, .rows true 1 [[.slice 4 0 xs.length]], .rows true 1 (xs.map w16)]
theorem HA_ro {cv : Nat} {L : List VEN} {S S2 : List Int} {c sz : Nat} {els : List (List SV)}
    (h : (HA cv L S2)[c]? = some (.rows false sz els)) : c < 4 ∧ ∃ sz els, (HA cv L S)[c]? = some (.rows false sz els) := by
  unfold HA mpV kClo at h
  rcases c with _|_|_|_|_|c <;> simp at h
theorem pull_V (σ : List Nat) (cv : Nat) (L : List VEN) : mapC (pullS σ) (pullI σ) (mpV cv L) = mpV cv L := by
  unfold mpV
  simp only [mapC, List.map_map]
  congr 1
theorem push_V (σ : List Nat) (cv : Nat) (L : List VEN) : pushC σ (mpV cv L) = mpV cv L := by
  unfold mpV
  simp only [pushC, mapC, List.map_map]
  congr 1
theorem ne_V (cv : Nat) (L : List VEN) : mpV cv L ≠ .gone := by simp [mpV]
/-- slices.AppendSeq of a table's keys to nothing: all of them, in some order. -/
theorem appendW (cv : Nat) (L : List VEN) (hL : L.length ≤ 1000) : FunW Try.prog 94 [] [mpV cv L, .rows true 1 [[.ref 0]], kClo] [.s (.raw (.slice none 0 0)), .s (.ref 2)]
    fun r Hn => ∃ ys : List Int, ys.Perm (L.map (·.v)) ∧ r = .s (.slice 3 0 ys.length) ∧ Hn = [mpV cv L, .rows true 1 [[.ref 0]], kClo, .rows true 1 (ys.map w16)] := by
  refine funW_of fun X => ?_
  refine callK_inlineM (rs := [.tmp 4]) (n := 13) Try.func94 rfl rfl rfl (by kernel_rfl) (by simp only [List.length_cons, List.length_nil]; decide) ?_
  refine evS_sound 1 _ (by kernel_rfl) _ _ _ ?_
  repeat' first
    | with_reducible rfl
    | simp only [s_0, s_1, push_V, pull_V, rwp1, w16, List.length_map, RS_, argsTM, stepE, stBuiltin, stBox, stAlloc, stLoad, stStore, stField, stExtract, stBin, stUn, stConv, stNilCheck, stFieldV, stIndex, stIndexAddr, stLen, stMin, stMax, stBuild, fillI, stBuildSlice, setRows, stMakeSlice, stAppend, srcR, segR, rdCells, stSlice, bnd, stArr, stCopy, stConv2, isIntV, cutR, byteRows, rowByte, binStr, Option.map_some, Option.map_none, eq_self, canTL, canT, canH, canL, patL, gcH, gcT, gcI, get_gcT, pullS, pullI, pushS, push1, pushI, pullHW, roC, ix, List.map_map, Function.comp_def, List.zip_cons_cons, List.zip_nil_left, List.zip_nil_right, List.range'_zero, List.range'_succ, rd, get, put, IV.cells, ofValue, seg, spl, ldIV, binInt, eqI, cellsEq, leafEq, resI, flat, isT, upd, up1, nextM, cR, ptrC, nAl, isAl, ST_, Nat.reduceAdd, Nat.reduceMul, Nat.reduceEqDiff, Nat.reduceLeDiff, ne_eq, reduceCtorEq, reduceIte, forall_const, implies_true, Int.reduceToNat, Int.reduceLE, Int.reduceLT, bne, Int.reduceEq, Int.reduceNe, Int.reduceNeg, Int.reduceAdd, Int.reduceSub, Int.reduceMul, Int.reduceBEq, Int.reduceBNe, Nat.reduceLT, Nat.reduceSub, WLS, ty_ag_120, ty_by_120, ty_sr_120, ty_sz_120, ty_zs_120]
    | (with_reducible refine draw_fin ?_ ?_); · kernel_rfl
    | (with_reducible refine draw_id ?_); kernel_rfl
    | (with_reducible refine And.intro ?_ ?_; · omega)
  refine IW_part (N := 4) [(6, .s (.ref 2)), (2, .s (.ptr 3 0 0))] (HA cv L []) (by show (3 : Nat) ≤ 4; decide) (by simp [HA]) rfl (by kernel_rfl) ?hr ?hB
  case hr =>
    repeat' first
      | with_reducible rfl
      | simp only [s_0, s_1, push_V, pull_V, rwp1, w16, List.length_map, RS_, argsTM, stepE, stBuiltin, stBox, stAlloc, stLoad, stStore, stField, stExtract, stBin, stUn, stConv, stNilCheck, stFieldV, stIndex, stIndexAddr, stLen, stMin, stMax, stBuild, fillI, stBuildSlice, setRows, stMakeSlice, stAppend, srcR, segR, rdCells, stSlice, bnd, stArr, stCopy, stConv2, isIntV, cutR, byteRows, rowByte, binStr, Option.map_some, Option.map_none, eq_self, canTL, canT, canH, canL, patL, gcH, gcT, gcI, get_gcT, pullS, pullI, pushS, push1, pushI, pullHW, roC, ix, List.map_map, Function.comp_def, List.zip_cons_cons, List.zip_nil_left, List.zip_nil_right, List.range'_zero, List.range'_succ, rd, get, put, IV.cells, ofValue, seg, spl, ldIV, binInt, eqI, cellsEq, leafEq, resI, flat, isT, upd, up1, nextM, cR, ptrC, nAl, isAl, ST_, Nat.reduceAdd, Nat.reduceMul, Nat.reduceEqDiff, Nat.reduceLeDiff, ne_eq, reduceCtorEq, reduceIte, forall_const, implies_true, Int.reduceToNat, Int.reduceLE, Int.reduceLT, bne, Int.reduceEq, Int.reduceNe, Int.reduceNeg, Int.reduceAdd, Int.reduceSub, Int.reduceMul, Int.reduceBEq, Int.reduceBNe, Nat.reduceLT, Nat.reduceSub, WLS, ty_ag_120, ty_by_120, ty_sr_120, ty_sz_120, ty_zs_120]
      | (with_reducible refine drawK_id ?_); refine drawK_auto hmix (by kernel_rfl) ?_
      | (with_reducible refine draw_fin ?_ ?_); · kernel_rfl
      | (with_reducible refine draw_id ?_); kernel_rfl
      | (with_reducible refine And.intro ?_ ?_; · omega)
    refine (Wk.can [(1, 3, 0, 0)] [.inl 0, .inl 1, .inl 2, .inl 3, .inr 0] rfl (by simp [patL])).fin ?_ ?_
    · simp [Function.comp_def, get_gcT, get, put, gcI, pullI, pullS, gcH, patL, canL, canH, canTL, canT, rows_pull, ix]
    · simp [Function.comp_def, get_gcT, get, put, gcI, pullI, pullS, gcH, patL, canL, canH, canTL, canT, rows_pull, ix, HA, kClo, pull_V, push_V, rwp1, clo_pull, clo_push, pushI, pushS, push1]
  case hB =>
    intro ρ a_ w ha hi
    obtain ⟨b, base, sz, lim, hd, hg⟩ := clo_at (c := 2) (d := 1) (t := 6) ha hi rfl rfl
    obtain ⟨bm, hm, hnd, hlt⟩ := mapV_facts (c := 0) hi rfl
    have hes : (L.map fun e => (e.v, e.s)).map (·.1) = L.map (·.v) := by rw [List.map_map]; rfl
    refine rangeK_tail (N := 4) (v := fun x : Int => .int .u16 x) (gf := 79) (X := X) (k := _) rfl rfl rfl rfl (by show (3 : Nat) ≤ 4; decide) (by simp [HA]) rfl (L.map (·.v)) (fun W => W.cell? ⟨b, base, none⟩ = some (.map (some bm)) ∧ Go.Proofs.MapU W bm cv (L.map fun e => (e.v, e.s))) (fun xs H => H = HA cv L xs) ha hi hg (by kernel_rfl) (hes ▸ Go.Proofs.keys_iter b base bm cv _ hnd hlt) (tm_holds rfl ha) (fun _ _ => ⟨rfl, rfl⟩) (by decide) (by decide) rfl ?ro ?ic ?body ?tail
    case ro =>
      rintro pre pre2 _ _ rfl rfl c sz els hc
      exact HA_ro hc
    case ic =>
      rintro pre _ ρ1 W rfl hle hi1
      have hm1 := hle.get 0 _ (by decide) hm (by simp)
      exact ⟨cellref_at (d := 1) (c := 0) hi1 rfl (hle.get 1 _ (by decide) hd (by simp)) hm1, mapU_at hi1 rfl hm1⟩
    case body =>
      rintro pre x ⟨rest, hpre⟩ _ rfl X1 hN1 hdl1
      have hlen : pre.length ≤ 1000 := by have := hpre.length_eq; simp at this; omega
      have hbig : (pre.length + 1) * 2 ≤ 140737488355328 := by omega
      refine ev_sound _ (by kernel_rfl) _ _ _ ?_
      unfold HA kClo
      repeat' first
        | with_reducible rfl
        | simp only [s_0, s_1, push_V, pull_V, rwp1, w16, List.length_map, hbig, RS_, argsTM, stepE, stBuiltin, stBox, stAlloc, stLoad, stStore, stField, stExtract, stBin, stUn, stConv, stNilCheck, stFieldV, stIndex, stIndexAddr, stLen, stMin, stMax, stBuild, fillI, stBuildSlice, setRows, stMakeSlice, stAppend, srcR, segR, rdCells, stSlice, bnd, stArr, stCopy, stConv2, isIntV, cutR, byteRows, rowByte, binStr, Option.map_some, Option.map_none, eq_self, canTL, canT, canH, canL, patL, gcH, gcT, gcI, get_gcT, pullS, pullI, pushS, push1, pushI, pullHW, roC, ix, List.map_map, Function.comp_def, List.zip_cons_cons, List.zip_nil_left, List.zip_nil_right, List.range'_zero, List.range'_succ, rd, get, put, IV.cells, ofValue, seg, spl, ldIV, binInt, eqI, cellsEq, leafEq, resI, flat, isT, upd, up1, nextM, cR, ptrC, nAl, isAl, ST_, Nat.reduceAdd, Nat.reduceMul, Nat.reduceEqDiff, Nat.reduceLeDiff, ne_eq, reduceCtorEq, reduceIte, forall_const, implies_true, Int.reduceToNat, Int.reduceLE, Int.reduceLT, bne, Int.reduceEq, Int.reduceNe, Int.reduceNeg, Int.reduceAdd, Int.reduceSub, Int.reduceMul, Int.reduceBEq, Int.reduceBNe, Nat.reduceLT, Nat.reduceSub, WLS, ty_ag_120, ty_by_120, ty_sr_120, ty_sz_120, ty_zs_120]
        | (with_reducible refine drawK_id ?_); refine drawK_auto hmix (by kernel_rfl) ?_
        | (with_reducible refine draw_fin ?_ ?_); · kernel_rfl
        | (with_reducible refine draw_id ?_); kernel_rfl
        | (with_reducible refine And.intro ?_ ?_; · omega)
      refine ⟨_, _, Wk.gc [0, 1, 2, 3, 6] rfl (by decide), ?_⟩
      simp [Function.comp_def, get_gcT, get, put, gcI, pullI, pullS, gcH, patL, canL, canH, canTL, canT, rows_pull, ix, HA, kClo, pull_V, clo_pull, w16]
    case tail =>
      rintro ys _ hys rfl X1 hN1 hro1
      refine ev_sound _ (by kernel_rfl) _ _ _ ?_
      unfold HA kClo
      repeat' first
        | with_reducible rfl
        | simp only [s_0, s_1, push_V, pull_V, rwp1, w16, List.length_map, RS_, argsTM, stepE, stBuiltin, stBox, stAlloc, stLoad, stStore, stField, stExtract, stBin, stUn, stConv, stNilCheck, stFieldV, stIndex, stIndexAddr, stLen, stMin, stMax, stBuild, fillI, stBuildSlice, setRows, stMakeSlice, stAppend, srcR, segR, rdCells, stSlice, bnd, stArr, stCopy, stConv2, isIntV, cutR, byteRows, rowByte, binStr, Option.map_some, Option.map_none, eq_self, canTL, canT, canH, canL, patL, gcH, gcT, gcI, get_gcT, pullS, pullI, pushS, push1, pushI, pullHW, roC, ix, List.map_map, Function.comp_def, List.zip_cons_cons, List.zip_nil_left, List.zip_nil_right, List.range'_zero, List.range'_succ, rd, get, put, IV.cells, ofValue, seg, spl, ldIV, binInt, eqI, cellsEq, leafEq, resI, flat, isT, upd, up1, nextM, cR, ptrC, nAl, isAl, ST_, Nat.reduceAdd, Nat.reduceMul, Nat.reduceEqDiff, Nat.reduceLeDiff, ne_eq, reduceCtorEq, reduceIte, forall_const, implies_true, Int.reduceToNat, Int.reduceLE, Int.reduceLT, bne, Int.reduceEq, Int.reduceNe, Int.reduceNeg, Int.reduceAdd, Int.reduceSub, Int.reduceMul, Int.reduceBEq, Int.reduceBNe, Nat.reduceLT, Nat.reduceSub, WLS, ty_ag_120, ty_by_120, ty_sr_120, ty_sz_120, ty_zs_120]
        | (with_reducible refine drawK_id ?_); refine drawK_auto hmix (by kernel_rfl) ?_
        | (with_reducible refine draw_fin ?_ ?_); · kernel_rfl
        | (with_reducible refine draw_id ?_); kernel_rfl
        | (with_reducible refine And.intro ?_ ?_; · omega)
      refine ⟨_, _, Wk.refl, ?_, ?_⟩
      · skip
        repeat' first
          | with_reducible rfl
          | simp only [s_0, s_1, push_V, pull_V, rwp1, w16, List.length_map, RS_, argsTM, stepE, stBuiltin, stBox, stAlloc, stLoad, stStore, stField, stExtract, stBin, stUn, stConv, stNilCheck, stFieldV, stIndex, stIndexAddr, stLen, stMin, stMax, stBuild, fillI, stBuildSlice, setRows, stMakeSlice, stAppend, srcR, segR, rdCells, stSlice, bnd, stArr, stCopy, stConv2, isIntV, cutR, byteRows, rowByte, binStr, Option.map_some, Option.map_none, eq_self, canTL, canT, canH, canL, patL, gcH, gcT, gcI, get_gcT, pullS, pullI, pushS, push1, pushI, pullHW, roC, ix, List.map_map, Function.comp_def, List.zip_cons_cons, List.zip_nil_left, List.zip_nil_right, List.range'_zero, List.range'_succ, rd, get, put, IV.cells, ofValue, seg, spl, ldIV, binInt, eqI, cellsEq, leafEq, resI, flat, isT, upd, up1, nextM, cR, ptrC, nAl, isAl, ST_, Nat.reduceAdd, Nat.reduceMul, Nat.reduceEqDiff, Nat.reduceLeDiff, ne_eq, reduceCtorEq, reduceIte, forall_const, implies_true, Int.reduceToNat, Int.reduceLE, Int.reduceLT, bne, Int.reduceEq, Int.reduceNe, Int.reduceNeg, Int.reduceAdd, Int.reduceSub, Int.reduceMul, Int.reduceBEq, Int.reduceBNe, Nat.reduceLT, Nat.reduceSub, WLS, ty_ag_120, ty_by_120, ty_sr_120, ty_sz_120, ty_zs_120]
          | (with_reducible refine drawK_id ?_); refine drawK_auto hmix (by kernel_rfl) ?_
          | (with_reducible refine draw_fin ?_ ?_); · kernel_rfl
          | (with_reducible refine draw_id ?_); kernel_rfl
          | (with_reducible refine And.intro ?_ ?_; · omega)
        refine ⟨_, [mpV cv L, .rows true 1 [[.ref 0]], kClo, .rows true 1 (ys.map w16)], (WkR.gc [0, 1, 2, 4] rfl (by decide)).to ?_ ?_, by simp, ys, hys, rfl, rfl⟩
        · simp [gcI, pullI, pullS, ix]
        · simp [Function.comp_def, get_gcT, get, put, gcI, pullI, pullS, gcH, patL, canL, canH, canTL, canT, rows_pull, ix, kClo, pull_V, clo_pull, w16]
      · rintro c sz els hc
        rcases c with _|_|_|_|_|c <;> simp [mpV] at hc
end Go.Ev
