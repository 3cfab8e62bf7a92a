/- A part of the proof: contracts of the functions that the statement reaches. -/
import Derived.Test.YtadikegdadnahaaT33
namespace Go.Ev
open Go.Proofs
set_option maxRecDepth 100000
set_option linter.unusedSimpArgs false
set_option linter.unusedVariables false
set_option maxHeartbeats 4000000
/-! ### the lesser bridge's ports: what is worse changes nothing -/
theorem hearW_worse {p : PE} {v : V4} (g : Int) (c : CF) (h : p.nf = 1) (hb : betV v p.v = false) : hearW p v g c = 0 ∨ hearW p v g c = 1 := by
  have ha : anewP p v = false := by simp [anewP, h]
  unfold hearW
  split
  · left; rfl
  · right; rw [h, ha, hb]; rfl
theorem hearP_worse {p : PE} {v : V4} (g : Int) (c : CF) (h : p.nf = 1) (hb : betV v p.v = false) : hearP p v g c = p := hear_01 p v g c (hearW_worse g c h hb)
/-- All that the greater bridge tells is worse than the lesser one's own vector: it tells itself as the root, or a way with a cost. -/
theorem bet_own {v : V4} {me i : Int} (h : me < v.r ∨ v.r = me ∧ 0 < v.c) : betV v ⟨me, 0, me, i⟩ = false := by
  have : ¬ (betV v ⟨me, 0, me, i⟩ = true) := by
    rw [bet_iff]; simp only; omega
  simpa using this
theorem same_news_worse {a : AS} {i : Nat} {p : PE} (hp : a.ps[i]? = some p) (d : PD) (h1 : p.nf = 1) (hb : betV (vecD d) p.v = false) : SameE a (newsA a i p d) := by
  have hw := hearW_worse d.age a.cf h1 hb
  have hq := hearP_worse d.age a.cf h1 hb
  have hs : SameE a (setA a i p) := ⟨rfl, by show (a.ps.set i p).map ess = _; rw [set_self hp]⟩
  unfold newsA
  rw [hq]
  rcases hw with hw | hw <;> rw [hw]
  · exact hs
  · simp only [beq_self_eq_true, if_true]
    split
    · exact hs.trans ⟨rfl, rfl⟩
    · exact hs
/-- Nothing in this letter is better than what any port has of its own. -/
def NoBet (a : AS) (d : PD) : Prop := ∀ p ∈ a.ps, p.nf = 1 ∧ betV (vecD d) p.v = false
theorem NoBet.same {a b : AS} {d : PD} (h : NoBet a d) (g : SameE a b) : NoBet b d := fun q hq => by
  obtain ⟨k, hk⟩ := List.mem_iff_getElem?.1 hq
  obtain ⟨p, hp, e⟩ := g.get hk
  obtain ⟨_, e2, e3, _⟩ := ess_ro e
  rw [e2, e3]; exact h p (List.mem_of_getElem? hp)
theorem same_hear2_worse {c : AS} (i : Nat) (d : PD) (h : (if d.kind == 2 then (if d.role == 2 then true else d.role == 1) else false) = true ∨ NoBet c d) : SameE c (hear2 c i d) := by
  unfold hear2
  split
  · exact .refl c
  · cases hp2 : c.ps[i]? with
    | none => exact .refl c
    | some p2 =>
      simp only []
      by_cases hk : (if d.kind == 2 then (if d.role == 2 then true else d.role == 1) else false) = true
      · rw [if_pos hk]; exact same_reply hp2 d
      · rw [if_neg hk]
        obtain ⟨h1, hb⟩ := h.resolve_left hk p2 (List.mem_of_getElem? hp2)
        exact same_news_worse hp2 d h1 hb
/-- Whatever comes to the lesser bridge: what its choice hangs on stays. -/
theorem same_hear_worse {a : AS} (port : Int) (d : PD) (h : (if d.kind == 2 then (if d.role == 2 then true else d.role == 1) else false) = true ∨ NoBet a d) : SameE a (hearT a port d) := by
  unfold hearT
  split
  · exact .refl a
  split
  · exact .refl a
  cases hp : a.ps[(port - 1).toNat]? with
  | none => exact .refl a
  | some p =>
    simp only []
    split
    · have g := same_hear1 hp d
      exact g.trans (same_hear2_worse _ d (h.imp_right fun h => h.same g))
    · exact .refl a
theorem ess_as {a : AS} (h : InvA a) {k : Nat} {p : PE} (hp : a.ps[k]? = some p) : ess (asP p ((rolesA a).getD k 0) ((tellsA a).getD k ⟨0, 0, 0, 0⟩) a.cf) = ess p := by
  have hr := h.ro k p hp
  have hm := List.mem_of_getElem? hp
  have hR : (rolesA a).getD k 0 = p.ro := by rw [List.getD_eq_getElem?_getD, hr]; rfl
  rw [hR]
  have hr5 : p.ro = 0 ∨ p.ro = 1 ∨ p.ro = 2 ∨ p.ro = 3 ∨ p.ro = 4 := by
    rw [rolesA_get hp] at hr
    have := Option.some.inj hr
    rw [← this]; exact roleI_mem _ _ _ _ _
  rcases hr5 with e | e | e | e | e
  · simp [asP, e, ess]
  · have := h.lead p hm (by omega) (by omega); simp [asP, e, ess, this]
  · have := h.lead p hm (by omega) (by omega); simp [asP, e, ess, this]
  · simp [asP, e, ess]
  · obtain ⟨ht, hn⟩ := h.des k p hp e
    have hT : (tellsA a).getD k ⟨0, 0, 0, 0⟩ = p.v := by rw [List.getD_eq_getElem?_getD, ht]; rfl
    rw [hT]
    have hd : desA { p with ro := 4 } 4 p.v = false := by simp [desA, hn]
    have h1 : asP p p.ro p.v a.cf = des3 { p with ro := 4 } := by
      simp only [asP, e, desP, des2, des1, hd]
      rfl
    rw [h1]
    unfold des3
    split <;> simp [ess, e]
/-- Where the roles are those that are chosen, choosing anew changes nothing of it. -/
theorem same_choose {a : AS} (h : InvA a) : SameE a (chooseA a) := by
  have hs : SameE (itA (asI (rolesA a) (tellsA a)) a a.ps.length) (chooseA a) := by
    unfold chooseA chooseRT
    exact (same_allA same_changedI _ _ _).trans (same_allA same_tellI2 _ _ _)
  refine SameE.trans ⟨(itA_as (rolesA a) (tellsA a) a a.ps.length 0).1, ?_⟩ hs
  refine List.ext_getElem? fun k => ?_
  rw [List.getElem?_map, List.getElem?_map, (itA_as (rolesA a) (tellsA a) a a.ps.length k).2]
  cases hp : a.ps[k]? with
  | none => split <;> rfl
  | some p =>
    rw [if_pos (List.getElem?_eq_some_iff.1 hp).1]
    simp only [Option.map_some]
    rw [ess_as h hp]
/-- No port's memory runs out at the next tick. -/
def NoFade (a : AS) : Prop := ∀ p ∈ a.ps, p.nf = 2 → 0 < IntKind.i64.wrap (p.life - 1)
theorem ess_fade {p : PE} (h : p.nf = 2 → 0 < IntKind.i64.wrap (p.life - 1)) : ess (fade2 p) = ess p := by
  have hf : ess (fadeP p).1 = ess p := by
    unfold fadeP
    by_cases e : p.nf = 2
    · rw [if_pos (by simpa using e), if_pos (decide_eq_true (h e))]; rfl
    · rw [if_neg (by simpa using e)]
  unfold fade2
  split
  · exact hf
  · exact hf
theorem same_fade {a : AS} (h : NoFade a) : ∀ i, SameE a (itA tick1I a i) ∧ ∀ k, i ≤ k → (itA tick1I a i).ps[k]? = a.ps[k]?
  | 0 => ⟨.refl a, fun _ _ => rfl⟩
  | i + 1 => by
    obtain ⟨h1, h2⟩ := same_fade h i
    cases hp : (itA tick1I a i).ps[i]? with
    | none => simp only [itA, hp]; exact ⟨h1, fun k hk => h2 k (by omega)⟩
    | some p =>
      rw [itA_next hp]
      have hpa : a.ps[i]? = some p := by rw [← h2 i (Nat.le_refl _)]; exact hp
      refine ⟨h1.trans (same_set hp (ess_fade (h p (List.mem_of_getElem? hpa)))), fun k hk => ?_⟩
      show ((itA tick1I a i).ps.set i (fade2 p))[k]? = _
      rw [List.getElem?_set_ne (by omega)]; exact h2 k (by omega)
/-- A tick behind which nothing is forgotten changes nothing of what the choice hangs on. -/
theorem same_tick {a : AS} (h : InvA a) (hf : NoFade a) : SameE a (tickA a) := by
  have g := (same_fade hf a.ps.length).1
  unfold tickA
  exact (g.trans (same_choose (h.same g))).trans (same_tick2 _ _)
/-- The lesser bridge's own: all ports are designated and tell it. -/
structure XInv (a : AS) : Prop where
  inv : InvA a
  own : ∀ p ∈ a.ps, p.ro = 4 ∧ p.nf = 1 ∧ p.v.r = a.cf.id ∧ p.v.c = 0 ∧ p.v.b = a.cf.id
theorem XInv.same {a b : AS} (h : XInv a) (g : SameE a b) : XInv b := ⟨h.inv.same g, fun q hq => by
  obtain ⟨k, hk⟩ := List.mem_iff_getElem?.1 hq
  obtain ⟨p, hp, e⟩ := g.get hk
  obtain ⟨e1, e2, e3, _⟩ := ess_ro e
  rw [e1, e2, e3, g.id]; exact h.own p (List.mem_of_getElem? hp)⟩
theorem XInv.noFade {a : AS} (h : XInv a) : NoFade a := fun p hp hn => by have := (h.own p hp).2.1; omega
theorem XInv.tick {a : AS} (h : XInv a) : XInv (tickA a) := h.same (same_tick h.inv h.noFade)
end Go.Ev
