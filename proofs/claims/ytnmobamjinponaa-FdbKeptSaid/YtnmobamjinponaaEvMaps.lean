/- Maps: a range over one, and its rounds, ideally. -/
import Derived.Test.YtnmobamjinponaaEvWeak
import Derived.Maps.RangeRun
namespace Go.Ev
open Go.RowKit

section
variable {P : Program} {X : Ctx} {ρ : Ren} {H : Heap} {w : World} {tm : TM} {k : TM → Heap → Prop} {d : Option Nat} {t : Nat} {p : String} {af : Array Edge} {g : Option (Nat × Bool)}

theorem relM_mem {e : MapEntry} : ∀ {l : List (IV × IV × Nat)} {es : List MapEntry}, relM ρ l es → e ∈ es → ∃ x ∈ l, relC ρ x.1 e.key ∧ relC ρ x.2.1 e.val ∧ e.born = x.2.2
  | [], [], _, h => by cases h
  | x :: l, e' :: es, h, he => by
    rcases List.mem_cons.1 he with rfl | he
    · exact ⟨x, by simp, h.1, h.2.1, h.2.2.1⟩
    · obtain ⟨y, hy, hr⟩ := relM_mem h.2.2.2 he
      exact ⟨y, List.mem_cons_of_mem _ hy, hr⟩
  | [], _ :: _, h, _ => h.elim
  | _ :: _, [], h, _ => h.elim
theorem relM_mem2 {x : IV × IV × Nat} : ∀ {l : List (IV × IV × Nat)} {es : List MapEntry}, relM ρ l es → x ∈ l → ∃ e ∈ es, relC ρ x.1 e.key ∧ relC ρ x.2.1 e.val ∧ e.born = x.2.2
  | [], [], _, h => by cases h
  | y :: l, e' :: es, h, he => by
    rcases List.mem_cons.1 he with rfl | he
    · exact ⟨e', by simp, h.1, h.2.1, h.2.2.1⟩
    · obtain ⟨y, hy, hr⟩ := relM_mem2 h.2.2.2 he
      exact ⟨y, List.mem_cons_of_mem _ hy, hr⟩
  | [], _ :: _, h, _ => h.elim
  | _ :: _, [], h, _ => h.elim

/-- A range over a map begins: a new iterator. -/
theorem range_gen {T kt vt : TypeId} {x : Operand} {c clock : Nat} {es : List (IV × IV × Nat)} (hT : P.underlying T = some (.map kt vt)) (hx : rd tm x = .s (.ref c)) (hc : H[c]? = some (.map clock es))
    (hk : k (put tm d (.s (.ref H.length))) (H ++ [.iter (.ref c) clock [] clock])) : genK P X ⟨d, .range T x, t, p, af, g⟩ k tm H := by
  intro n ρ a w ha hi
  have hr := rd_rel ha x
  rw [hx] at hr
  obtain ⟨l, hl, hs⟩ := hi.sat c _ hc
  obtain ⟨b, ents, rfl, hb, -, -, -⟩ := hs
  have hv : a.eval x = .map (some b) := by
    rcases hr with ⟨b', h⟩ | ⟨h, _⟩
    · rw [hl, Option.some.injEq, Pl.obj.injEq] at h; exact h.2.symm
    · rw [hl] at h; cases h
  have hrel : relS ρ (.ref c) (.map (some b)) := .inl ⟨b, hl⟩
  refine ⟨.pointer (some ⟨w.heap.size, 0, none⟩), w.alloc (.mapIter (some b) clock #[] clock), .s (.ref H.length), H ++ [.iter (.ref c) clock [] clock], ρ ++ [.obj w.heap.size (.pointer (some ⟨w.heap.size, 0, none⟩))], .inl ?_, ?_, Le.app _ _, ?_, hk⟩
  · simp only [execOp, hv, Instr.range, Sem.run_bind, run_underlying' P w hT, Result.andThen_ok, Sem.run_pure]
    have : (getObj b).run P w = .ok (.map ents clock) w := by simp [getObj, Sem.run, hb]
    simp [this, run_newObj]
  · left
    exact ⟨w.heap.size, by rw [← hi.len]; simp⟩
  · refine hi.push _ _ rfl rfl rfl (by simp) (fun b hb => heap_push_old w _ hb) (fun b u h => by cases h; rfl) ?_ (fun _ b hb => by simp [Pl.blk] at hb; omega) (fun _ _ h => by cases h)
    exact ⟨w.heap.size, some b, rfl, heap_push_new _ _, hrel.pre (Le.app _ _)⟩

/-- A step of it, where the map holds nothing that is newer than the range: over, when all was seen; or any entry that was not seen yet. -/
theorem next_gen {it : Operand} {c m since st clock : Nat} {seen : List Nat} {es : List (IV × IV × Nat)} (hx : rd tm it = .s (.ref c)) (hc : H[c]? = some (.iter (.ref m) since seen st)) (hm : H[m]? = some (.map clock es))
    (hold : ∀ e ∈ es, e.2.2 < since) (hst : since ≤ st) (hover : (∀ e ∈ es, e.2.2 ∈ seen) → k (put tm d (.t [.s (.raw (.bool false))])) H)
    (hstep : ∀ e ∈ es, e.2.2 ∉ seen → k (put tm d (.t [.s (.raw (.bool true)), e.1, e.2.1])) (H.set c (.iter (.ref m) since (seen ++ [e.2.2]) clock))) :
    genK P X ⟨d, .next it false, t, p, af, g⟩ k tm H := by
  intro n ρ a w ha hi
  have hr := rd_rel ha it
  rw [hx] at hr
  obtain ⟨l, hl, hs⟩ := hi.sat c _ hc
  have hs0 := hs
  obtain ⟨r, mo, rfl, hb, hrel⟩ := hs
  obtain ⟨lm, hlm, hsm⟩ := hi.sat m _ hm
  obtain ⟨bm, ents, rfl, hbm, ⟨q, hperm, hq⟩, hlt, hnd⟩ := hsm
  have hmo : mo = some bm := by
    rcases hrel with ⟨b', h⟩ | ⟨h, _⟩
    · rw [hlm] at h; cases h; rfl
    · rw [hlm] at h; cases h
  subst hmo
  have hv : a.eval it = .pointer (some ⟨r, 0, none⟩) := by
    rcases hr with ⟨b', h⟩ | ⟨h, _⟩
    · rw [hl, Option.some.injEq, Pl.obj.injEq] at h; exact h.2.symm
    · rw [hl] at h; cases h
  have hex : ∀ o : Oper, o = ⟨d, .next it false, t, p, af, g⟩ → execOp a.eval o = (do pure (.value (← Instr.next (.pointer (some ⟨r, 0, none⟩)) false t))) := fun o e => by
    subst e; simp only [execOp, hv]
  have hold2 : ∀ x ∈ ents.toList, x.born < since := fun e he => by
    obtain ⟨x, hx, _, _, h3⟩ := relM_mem hq he
    rw [h3]; exact hold x (hperm.mem_iff.1 hx)
  rcases run_next_at (P := P) w t r bm since st seen.toArray ents clock hb hbm hold2 hst with ⟨h0, hrun⟩ | ⟨e, he, w1, hw1, hrun⟩
  · refine ⟨.tuple #[.bool false], w, .t [.s (.raw (.bool false))], H, ρ, .inl ?_, ⟨[.bool false], rfl, ⟨rfl, rfl⟩, trivial⟩, Le.refl _, hi, hover fun x hx => ?_⟩
    · rw [hex _ rfl, Sem.run_bind, hrun]; rfl
    · obtain ⟨e, he, _, _, h3⟩ := relM_mem2 hq (hperm.mem_iff.2 hx)
      have : leftOf ents seen.toArray = #[] := Array.eq_empty_of_size_eq_zero h0
      unfold leftOf at this
      rw [Array.filter_eq_empty_iff] at this
      have := this e (by simpa using he)
      rw [h3] at this
      simpa using this
  · unfold leftOf at he
    simp only [Array.toList_filter, List.mem_filter] at he
    obtain ⟨he, hns⟩ := he
    obtain ⟨x, hxq, h1, h2, h3⟩ := relM_mem hq he
    have hx' := hperm.mem_iff.1 hxq
    have hnot : x.2.2 ∉ seen := by rw [← h3]; simpa using hns
    have hi1 : Inv X ρ H w1 := by
      rcases hw1 with rfl | rfl
      · exact hi
      · exact hi.drew
    refine ⟨_, ChangeMaps.setBlock w1 r (.mapIter (some bm) since (seen.toArray.push e.born) clock), .t [.s (.raw (.bool true)), x.1, x.2.1], H.set c (.iter (.ref m) since (seen ++ [x.2.2]) clock), ρ, .inl ?_, ⟨[.bool true, e.key, e.val], rfl, ⟨rfl, rfl⟩, h1, h2, trivial⟩, Le.refl _, ?_, hstep x hx' hnot⟩
    · rw [hex _ rfl, Sem.run_bind, hrun]; rfl
    · have hrlt : r < w1.heap.size := by
        have := (Array.getElem?_eq_some_iff.1 hb).1
        rcases hw1 with rfl | rfl <;> exact this
      refine hi1.upd hc hl rfl rfl rfl rfl (by simp [ChangeMaps.setBlock]) (fun b hb' => ?_) ⟨r, some bm, rfl, ?_, .inl ⟨bm, hlm⟩⟩ rfl
      · have : r ≠ b := fun e => hb' (by rw [e]; rfl)
        simp [ChangeMaps.setBlock, this]
      · simp [ChangeMaps.setBlock, hrlt, h3]

/-- The round's key and value, read behind the step: while nothing was laid into the map since. -/
theorem entry_gen {it : Operand} {c m since clock st : Nat} {seen : List Nat} {es : List (IV × IV × Nat)} {e : IV × IV × Nat} (hx : rd tm it = .s (.ref c)) (hc : H[c]? = some (.iter (.ref m) since (seen ++ [st]) clock)) (hm : H[m]? = some (.map clock es))
    (he : e ∈ es) (hst : e.2.2 = st) (hk : k (put tm d (.t [e.1, e.2.1])) H) : genK P X ⟨d, .entry it, t, p, af, g⟩ k tm H := by
  intro n ρ a w ha hi
  have hr := rd_rel ha it
  rw [hx] at hr
  obtain ⟨l, hl, hs⟩ := hi.sat c _ hc
  obtain ⟨r, mo, rfl, hb, hrel⟩ := hs
  obtain ⟨lm, hlm, hsm⟩ := hi.sat m _ hm
  obtain ⟨bm, ents, rfl, hbm, ⟨q, hperm, hq⟩, hlt, hnd⟩ := hsm
  have hmo : mo = some bm := by
    rcases hrel with ⟨b', h⟩ | ⟨h, _⟩
    · rw [hlm] at h; cases h; rfl
    · rw [hlm] at h; cases h
  subst hmo
  have hv : a.eval it = .pointer (some ⟨r, 0, none⟩) := by
    rcases hr with ⟨b', h⟩ | ⟨h, _⟩
    · rw [hl, Option.some.injEq, Pl.obj.injEq] at h; exact h.2.symm
    · rw [hl] at h; cases h
  obtain ⟨e', he', h1, h2, h3⟩ := relM_mem2 hq (hperm.mem_iff.2 he)
  have hborn : ∀ (l : List (IV × IV × Nat)) (es : List MapEntry), relM ρ l es → es.map (·.born) = l.map (·.2.2) := by
    intro l
    induction l with
    | nil => intro es h; cases es with
      | nil => rfl
      | cons _ _ => exact h.elim
    | cons x l ih => intro es h; cases es with
      | nil => exact h.elim
      | cons y es => simp [ih es h.2.2.2, h.2.2.1]
  have hnd2 : (ents.toList.map (·.born)).Nodup := by
    rw [hborn q _ hq]
    exact (hperm.map (fun x : IV × IV × Nat => x.2.2)).nodup_iff.2 hnd
  have hb' : w.heap[r]? = some (.mapIter (some bm) since (seen.toArray.push e'.born) clock) := by
    rw [hb, h3, hst]; simp
  have hrun := run_entry_at (P := P) w r bm since seen.toArray ents clock e' hb' hbm he' hnd2
  refine ⟨.tuple #[e'.key, e'.val], w, .t [e.1, e.2.1], H, ρ, .inl ?_, ⟨[e'.key, e'.val], rfl, h1, h2, trivial⟩, Le.refl _, hi, hk⟩
  have hex : execOp a.eval ⟨d, .entry it, t, p, af, g⟩ = (do pure (.value (← Instr.entry (.pointer (some ⟨r, 0, none⟩))))) := by simp only [execOp, hv]
  rw [hex, Sem.run_bind, hrun]; rfl

/-- A new map. -/
theorem makeMap_gen {T : TypeId} (hk : k (put tm d (.s (.ref H.length))) (H ++ [.map 0 []])) : genK P X ⟨d, .makeMap T none, t, p, af, g⟩ k tm H := by
  intro n ρ a w ha hi
  refine ⟨.map (some w.heap.size), w.alloc (.map #[] 0), .s (.ref H.length), H ++ [.map 0 []], ρ ++ [.obj w.heap.size (.map (some w.heap.size))], .inl ?_, .inl ⟨w.heap.size, by rw [← hi.len]; simp⟩, Le.app _ _, ?_, hk⟩
  · simp [execOp, Instr.makeMap]
  · refine hi.push _ _ rfl rfl rfl (by simp) (fun b hb => heap_push_old w _ hb) (fun b u h => by cases h; rfl) ?_ (fun _ b hb => by simp [Pl.blk] at hb; omega) (fun _ _ h => by cases h)
    exact ⟨w.heap.size, #[], rfl, heap_push_new _ _, ⟨[], .refl _, trivial⟩, by simp, by simp⟩

def isIntKey (kd : IntKind) : IV → Option Int
  | .s (.raw (.int k v)) => if k = kd then some v else none
  | _ => none

theorem findNow_no {kd : IntKind} {v : Int} : ∀ {l : List (IV × IV × Nat)} {es : List MapEntry} {i : Nat}, relM ρ l es → (∀ x ∈ l, ∃ u, x.1 = .s (.raw (.int kd u)) ∧ u ≠ v) → Instr.findNow (.int kd) (.int kd v) es i = some none
  | [], [], _, _, _ => rfl
  | x :: l, e :: es, i, h, hn => by
    obtain ⟨u, hu, hne⟩ := hn x (by simp)
    have h1 := h.1
    rw [hu] at h1
    have he : e.key = .int kd u := h1.1
    simp only [Instr.findNow, he, Instr.sameNow, if_true]
    have hb : (v == u) = false := by simpa using Ne.symm hne
    rw [hb]
    exact findNow_no h.2.2.2 fun y hy => hn y (List.mem_cons_of_mem _ hy)
  | [], _ :: _, _, h, _ => h.elim
  | _ :: _, [], _, h, _ => h.elim

/-- A new entry of a map whose keys are numbers. -/
theorem insert_gen {T kt vt : TypeId} {kd : IntKind} {m' key val : Operand} {c clock : Nat} {v : Int} {es : List (IV × IV × Nat)} {x : IV} (hT : P.underlying T = some (.map kt vt)) (hkt : P.underlying kt = some (.int kd)) (hm : rd tm m' = .s (.ref c))
    (hkey : rd tm key = .s (.raw (.int kd v))) (hval : rd tm val = x) (hxt : ∀ l, x ≠ .t l) (hc : H[c]? = some (.map clock es)) (hnew : ∀ y ∈ es, ∃ u, y.1 = .s (.raw (.int kd u)) ∧ u ≠ v)
    (hk : k (put tm d .j) (H.set c (.map (clock + 1) (es ++ [(.s (.raw (.int kd v)), x, clock)])))) : genK P X ⟨d, .insert T m' key val, t, p, af, g⟩ k tm H := by
  intro n ρ a w ha hi
  have hr := rd_rel ha m'
  rw [hm] at hr
  have hrk := rd_rel ha key
  rw [hkey] at hrk
  have hrv := rd_rel ha val
  rw [hval] at hrv
  obtain ⟨l, hl, hs⟩ := hi.sat c _ hc
  obtain ⟨b, ents, rfl, hb, ⟨q, hperm, hq⟩, hlt, hnd⟩ := hs
  have hv : a.eval m' = .map (some b) := by
    rcases hr with ⟨b', h⟩ | ⟨h, _⟩
    · rw [hl, Option.some.injEq, Pl.obj.injEq] at h; exact h.2.symm
    · rw [hl] at h; cases h
  have hkv : a.eval key = .int kd v := hrk.1
  have hfind := findNow_no (ρ := ρ) (i := 0) (v := v) hq fun y hy => hnew y (hperm.mem_iff.1 hy)
  have hblt := (Array.getElem?_eq_some_iff.1 hb).1
  have hrun : (Instr.mapUpdate T (a.eval m') (a.eval key) (a.eval val)).run P w = .ok () (ChangeMaps.setBlock w b (.map (ents.push { key := .int kd v, val := a.eval val, born := clock }) (clock + 1))) := by
    have hck : (Instr.checkKey false 10000 kt (.int kd v)).run P w = .ok () w := by
      rw [Instr.checkKey]
      simp only [Sem.run_bind, run_underlying' P w hkt, Result.andThen_ok]
      rfl
    have hget : (getObj b).run P w = .ok (.map ents clock) w := by simp [getObj, Sem.run, hb]
    have hset : ∀ o', (setObj b o').run P w = .ok () (ChangeMaps.setBlock w b o') := fun o' => by simp [setObj, Sem.run, hb, ChangeMaps.setBlock]
    have hfk : (Instr.findKey kt (.int kd v) ents.toList).run P w = .ok none w := by
      simp only [Instr.findKey, Sem.run_bind, run_underlying' P w hkt, Result.andThen_ok, hfind, Sem.run_pure]
    simp only [Instr.mapUpdate, hv, hkv, Sem.run_bind, run_underlying' P w hT, Result.andThen_ok, hget, hck, hfk, hset]
  refine ⟨undef, ChangeMaps.setBlock w b (.map (ents.push { key := .int kd v, val := a.eval val, born := clock }) (clock + 1)), .j, _, ρ, .inr ⟨?_, rfl⟩, trivial, Le.refl _, ?_, hk⟩
  · have hex : execOp a.eval ⟨d, .insert T m' key val, t, p, af, g⟩ = (do Instr.mapUpdate T (a.eval m') (a.eval key) (a.eval val); pure .skip) := rfl
    rw [hex, Sem.run_bind, hrun]; rfl
  · have hrv2 : relC ρ x (a.eval val) := by
      cases x with
      | t l => exact absurd rfl (hxt l)
      | s _ => exact hrv
      | a _ => exact hrv
      | j => trivial
    refine hi.upd hc hl rfl rfl rfl rfl (by simp [ChangeMaps.setBlock]) (fun b' hb' => ?_) ⟨b, ents.push { key := .int kd v, val := a.eval val, born := clock }, rfl, ?_, ⟨q ++ [(.s (.raw (.int kd v)), x, clock)], hperm.append_right _, ?_⟩, ?_, ?_⟩ rfl
    · have : b ≠ b' := fun e => hb' (by rw [e]; rfl)
      simp [ChangeMaps.setBlock, this]
    · simp [ChangeMaps.setBlock, hblt]
    · have happ : ∀ (l : List (IV × IV × Nat)) (es : List MapEntry), relM ρ l es → relM ρ (l ++ [(.s (.raw (.int kd v)), x, clock)]) (es ++ [{ key := .int kd v, val := a.eval val, born := clock }]) := by
        intro l
        induction l with
        | nil => intro es h; cases es with
          | nil => exact ⟨⟨rfl, rfl⟩, hrv2, rfl, trivial⟩
          | cons _ _ => exact h.elim
        | cons y l ih => intro es h; cases es with
          | nil => exact h.elim
          | cons z es => exact ⟨h.1, h.2.1, h.2.2.1, ih es h.2.2.2⟩
      have := happ q _ hq
      simpa using this
    · intro e he
      rcases List.mem_append.1 he with h | h
      · have := hlt e h; omega
      · simp at h; subst h; simp
    · rw [List.map_append, List.nodup_append]
      refine ⟨hnd, by simp, fun s hs1 s2 hs2 e => ?_⟩
      obtain ⟨y, hy, rfl⟩ := List.mem_map.1 hs1
      simp at hs2
      have := hlt y hy
      omega

/-- A map's entries in another order. -/
theorem inv_perm (hi : Inv X ρ H w) {c clock : Nat} {es es' : List (IV × IV × Nat)} (hc : H[c]? = some (.map clock es)) (hp : es.Perm es') : Inv X ρ (H.set c (.map clock es')) w := by
  obtain ⟨l, hl, hs⟩ := hi.sat c _ hc
  obtain ⟨b, ents, rfl, hb, ⟨q, hperm, hq⟩, hlt, hnd⟩ := hs
  refine hi.upd hc hl rfl rfl rfl rfl rfl (fun b' _ => rfl) ⟨b, ents, rfl, hb, ⟨q, hperm.trans hp, hq⟩, fun e he => hlt e (hp.mem_iff.2 he), (hp.map _).nodup_iff.1 hnd⟩ rfl
theorem Wk.perm {N : Nat} {c clock : Nat} {es es' : List (IV × IV × Nat)} (hc : H[c]? = some (.map clock es)) (hp : es.Perm es') : Wk N tm H tm (H.set c (.map clock es')) := fun _ _ ρ _ _ ha hi =>
  ⟨ρ, LeN.refl _ _, ha, inv_perm hi hc hp⟩
theorem WkR.perm {N : Nat} {r : IV} {c clock : Nat} {es es' : List (IV × IV × Nat)} (hc : H[c]? = some (.map clock es)) (hp : es.Perm es') : WkR N r H r (H.set c (.map clock es')) := fun _ ρ _ _ hr hi =>
  ⟨ρ, LeN.refl _ _, hr, inv_perm hi hc hp⟩
end
end Go.Ev
