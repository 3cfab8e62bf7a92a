/- The iterator of a map's keys: it hands out each key once, in some order. -/
import Derived.Test.YtnmobamjinponaaQ1
import Derived.Test.YtnmobamjinponaaEvX
import Derived.Shelf.Abstract
import Derived.WalkKit
import Derived.OwnWalkIn
import Derived.TacticsInMore
import Derived.LoopNIn
import Derived.LoopIn
import Derived.Maps.RangeRun
set_option linter.unusedVariables false
set_option linter.unusedSimpArgs false
namespace Go.Proofs
open Go.RowKit Go.Shelf Go.Ev Go.ChangeMaps
attribute [local go_sem] Oper.semAt_some
/-- A map of the world: its keys with their stamps. -/
def MapU (W : World) (bm clock : Nat) (ES : List (Int × Nat)) : Prop :=
  ∃ (ents : Array MapEntry) (q : List (Int × Nat)), W.heap[bm]? = some (.map ents clock) ∧ q.Perm ES ∧ (ents.toList.map fun e => (e.key, e.born)) = q.map fun x => (Value.int .u16 x.1, x.2)
theorem MapU.get {ents : Array MapEntry} {q : List (Int × Nat)} (h : (ents.toList.map fun e => (e.key, e.born)) = q.map fun x => (Value.int .u16 x.1, x.2)) {x : Int × Nat} (hx : x ∈ q) : ∃ e ∈ ents.toList, e.key = .int .u16 x.1 ∧ e.born = x.2 := by
  have : (Value.int .u16 x.1, x.2) ∈ ents.toList.map fun e => (e.key, e.born) := by rw [h]; exact List.mem_map.2 ⟨x, hx, rfl⟩
  obtain ⟨e, he, h2⟩ := List.mem_map.1 this
  simp only [Prod.mk.injEq] at h2
  exact ⟨e, he, h2.1, h2.2⟩
theorem MapU.back {ents : Array MapEntry} {q : List (Int × Nat)} (h : (ents.toList.map fun e => (e.key, e.born)) = q.map fun x => (Value.int .u16 x.1, x.2)) {e : MapEntry} (he : e ∈ ents.toList) : ∃ x ∈ q, e.key = .int .u16 x.1 ∧ e.born = x.2 := by
  have : (e.key, e.born) ∈ q.map fun x => (Value.int .u16 x.1, x.2) := by rw [← h]; exact List.mem_map.2 ⟨e, he, rfl⟩
  obtain ⟨x, hx, h2⟩ := List.mem_map.1 this
  simp only [Prod.mk.injEq] at h2
  exact ⟨x, hx, h2.1.symm, h2.2.symm⟩
theorem run_rangeU {P : Program} {T kt vt : TypeId} {bm clock : Nat} {w : World} {ents : Array MapEntry} (hT : P.underlying T = some (.map kt vt)) (hb : w.heap[bm]? = some (.map ents clock)) :
    (Instr.range T (.map (some bm))).run P w = .ok (.pointer (some ⟨w.heap.size, 0, none⟩)) (w.alloc (.mapIter (some bm) clock #[] clock)) := by
  have : (getObj bm).run P w = .ok (.map ents clock) w := by simp [getObj, Sem.run, hb]
  simp only [Instr.range, Sem.run_bind, run_underlying' P w hT, Result.andThen_ok, Sem.run_pure]
  simp [this, run_newObj]
theorem below_drew {w w1 : World} (h : w1 = w ∨ w1 = w.drew) : BelowD w.heap.size w w1 := by
  rcases h with rfl | rfl
  · exact BelowD.refl _ _
  · exact ⟨⟨rfl, rfl, rfl, Nat.le_refl _, fun _ _ => rfl⟩, Nat.le_succ _⟩
/-- All was seen: nothing is left. -/
theorem seen_all {ES pz rest : List (Int × Nat)} (hp : (pz ++ rest).Perm ES) (hn : (ES.map (·.2)).Nodup) (hall : ∀ x ∈ ES, x.2 ∈ pz.map (·.2)) : rest = [] := by
  cases rest with
  | nil => rfl
  | cons x rest =>
    exfalso
    have hx : x ∈ ES := hp.mem_iff.1 (by simp)
    have hn2 : ((pz ++ x :: rest).map (·.2)).Nodup := (hp.map (·.2)).nodup_iff.2 hn
    rw [List.map_append, List.nodup_append] at hn2
    exact hn2.2.2 _ (hall x hx) _ (by simp) rfl
theorem take_one {ES pz rest : List (Int × Nat)} {x : Int × Nat} (hp : (pz ++ rest).Perm ES) (hx : x ∈ ES) (hs : x.2 ∉ pz.map (·.2)) : ∃ rest2, (pz ++ x :: rest2).Perm ES := by
  have hr : x ∈ rest := by
    rcases List.mem_append.1 (hp.mem_iff.2 hx) with h | h
    · exact absurd (List.mem_map.2 ⟨x, h, rfl⟩) hs
    · exact h
  obtain ⟨l1, l2, rfl⟩ := List.append_of_mem hr
  exact ⟨l1 ++ l2, ((List.Perm.append_left pz List.perm_middle.symm).trans hp)⟩

set_option maxRecDepth 100000 in
set_option maxHeartbeats 1000000 in
theorem keys_iter (B o bm clock : Nat) (ES : List (Int × Nat)) (hn : (ES.map (·.2)).Nodup) (hlt : ∀ x ∈ ES, x.2 < clock) :
    IterK Try.prog 79 #[.pointer (some ⟨B, o, none⟩)] (fun x : Int => .int .u16 x) (ES.map (·.1)) (fun W => W.cell? ⟨B, o, none⟩ = some (.map (some bm)) ∧ MapU W bm clock ES) := by
  intro l Js hmono hnew hput hIC hY W h0
  show CallsIn Fence.wide 0 Try.prog 79 #[.func (.yield l) #[] #[], .pointer (some ⟨B, o, none⟩)] W _
  have f79 : Fence.wide.fn 79 := trivial
  have hro : Fence.wide.round = none := rfl
  have hde : Fence.wide.depth = none := rfl
  generalize Fence.wide = F at *
  obtain ⟨hc0, ents0, q0, hm0, hq0, he0⟩ := hIC _ _ _ h0
  have hrun0 := run_rangeU (P := Try.prog) (T := 115) (w := W) Try.underlying115 hm0
  have h1 := hnew _ _ _ (.mapIter (some bm) clock #[] clock) h0
  have hr1 := World.alloc_heap_new W (.mapIter (some bm) clock #[] clock)
  generalize W.alloc (.mapIter (some bm) clock #[] clock) = W1 at hrun0 h1 hr1
  generalize hr : W.heap.size = r at hrun0 h1 hr1
  refine callsIn_of_wp Try.func79 rfl f79 ?_ hro
  simp only [Try.ntmps79, List.size_toArray, List.length_cons, List.length_nil, Nat.reduceAdd, Nat.reduceSub, Array.replicate_succ, Array.replicate_zero, List.push_toArray, List.append_toArray, List.nil_append, List.cons_append]
  gi_wp2
  gi_loopw [7] (fun _ wr => ∃ (K : Nat → Prop) (pz rest : List (Int × Nat)) (c0 : Nat), Js K (pz.map (·.1)) wr ∧ K r ∧ (pz ++ rest).Perm ES ∧ wr.heap[r]? = some (.mapIter (some bm) clock (pz.map (·.2)).toArray c0) ∧ clock ≤ c0)
    (fun _ wr => match wr.heap[r]? with | some (.mapIter _ _ seen _) => ES.length - seen.size | _ => 0)
  case atStart => exact ⟨_, [], ES, clock, h1, .inr rfl, by simp, by simpa using hr1, Nat.le_refl _⟩
  case round =>
    obtain ⟨K, pz, rest, c0, hJ, hK, hP, hrr, hc⟩ := hrel
    obtain ⟨hcell, ents, q, hm, hq, he⟩ := hIC _ _ _ hJ
    have hold : ∀ x ∈ ents.toList, x.born < clock := fun x hx => by
      obtain ⟨y, hy, _, e2⟩ := MapU.back he hx
      rw [e2]; exact hlt y (hq.mem_iff.1 hy)
    rcases run_next_at (P := Try.prog) wr 0 r bm clock c0 (pz.map (·.2)).toArray ents clock hrr hm hold hc with ⟨hz, hrun⟩ | ⟨e, hel, w1, hw1, hrun⟩
    · have hrest : rest = [] := seen_all hP hn fun x hx => by
        obtain ⟨e, he1, _, e2⟩ := MapU.get he (hq.mem_iff.2 hx)
        have : leftOf ents (pz.map (·.2)).toArray = #[] := Array.eq_empty_of_size_eq_zero hz
        unfold leftOf at this
        rw [Array.filter_eq_empty_iff] at this
        have := this e (by simpa using he1)
        rw [e2] at this
        simpa using this
      subst hrest
      rw [List.append_nil] at hP
      gi_wp2
      go_end0
      exact ⟨⟨_, rfl⟩, K, _, hP.map _, hJ⟩
    · have hle : e ∈ ents.toList ∧ e.born ∉ pz.map (·.2) := by
        unfold leftOf at hel
        simp only [Array.toList_filter, List.mem_filter] at hel
        exact ⟨hel.1, by simpa using hel.2⟩
      obtain ⟨x, hx, ek, eb⟩ := MapU.back he hle.1
      have hxE : x ∈ ES := hq.mem_iff.1 hx
      obtain ⟨rest2, hP2⟩ := take_one hP hxE (by rw [← eb]; exact hle.2)
      have hJ1 := hmono _ _ _ _ hJ (below_drew hw1)
      have hJ2 := hput _ _ _ r (.mapIter (some bm) clock ((pz.map (·.2)).toArray.push e.born) clock) hJ1 hK
      have hw2 : setBlock w1 r (.mapIter (some bm) clock ((pz.map (·.2)).toArray.push e.born) clock) = w1.putObj r (.mapIter (some bm) clock ((pz.map (·.2)).toArray.push e.born) clock) := rfl
      rw [hw2] at hrun
      have hr2 : (w1.putObj r (.mapIter (some bm) clock ((pz.map (·.2)).toArray.push e.born) clock)).heap[r]? = some (.mapIter (some bm) clock ((pz.map (·.2)).toArray.push e.born) clock) :=
        World.putObj_heap_same (by
          have := (Array.getElem?_eq_some_iff.1 hrr).1
          rcases hw1 with rfl | rfl <;> exact this)
      generalize w1.putObj r (.mapIter (some bm) clock ((pz.map (·.2)).toArray.push e.born) clock) = w2 at hrun hJ2 hr2
      obtain ⟨_, ents2, q2, hm2, hq2, he2⟩ := hIC _ _ _ hJ2
      obtain ⟨e2, hel2, ek2, eb2⟩ := MapU.get he2 (hq2.mem_iff.2 hxE)
      have hnd2 : (ents2.toList.map (·.born)).Nodup := by
        have e3 : ents2.toList.map (·.born) = q2.map (·.2) := by
          have := congrArg (List.map Prod.snd) he2
          simpa [List.map_map, Function.comp_def] using this
        rw [e3]
        exact (hq2.map (·.2)).nodup_iff.2 hn
      have hrunE := run_entry_at (P := Try.prog) w2 r bm clock (pz.map (·.2)).toArray ents2 clock e2 (by rw [hr2, eb, eb2]) hm2 hel2 hnd2
      rw [ek2] at hrunE
      obtain ⟨fn, tmps, assign, body, hy, hR⟩ := hY K _ x.1 w2 hJ2 ⟨rest2.map (·.1), by simpa using hP2.map (·.1)⟩
      have hr3 : ∀ W3 : World, (∀ b, K b → W3.heap[b]? = w2.heap[b]?) → W3.heap[r]? = some (.mapIter (some bm) clock ((pz ++ [x]).map (·.2)).toArray clock) := fun W3 h => by
        rw [h r hK, hr2, eb]; simp
      have hlen : pz.length < ES.length := by
        have := hP2.length_eq
        simp at this; omega
      gi_wp2
      refine hR.mono ?_
      rintro e' W3 ⟨rfl, hJ3, hk3⟩
      gi_wp2
      go_roundw
      case rel => exact ⟨K, pz ++ [x], rest2, clock, by simpa using hJ3, hK, by simpa using hP2, hr3 W3 hk3, Nat.le_refl _⟩
      case measure =>
        rw [hr3 W3 hk3, hrr]
        simp; omega
end Go.Proofs
