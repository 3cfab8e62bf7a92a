/- A part of the proof: contracts of the functions that the statement reaches. -/
import Derived.Test.YtadikegdadnahaaT37
namespace Go.Ev
open Go.Proofs
set_option maxRecDepth 100000
set_option linter.unusedSimpArgs false
set_option linter.unusedVariables false
set_option maxHeartbeats 4000000
/-! ### the lesser bridge -/
structure XI (a : AS) : Prop where
  id : a.cf.id = 2
  he : a.cf.he = 2
  de : a.cf.de = 3
  inv : InvA a
  p : ∀ (k : Nat) (p : PE), a.ps[k]? = some p → onP p = true ∧ p.ro = 4 ∧ p.nf = 1 ∧ p.v = ⟨2, 0, 2, (k : Int) + 1⟩
theorem XI.same {a b : AS} (h : XI a) (g : SameE a b) : XI b := ⟨by rw [g.id]; exact h.id, by rw [g.id]; exact h.he, by rw [g.id]; exact h.de, h.inv.same g, fun k q hq => by
  obtain ⟨p, hp, e⟩ := g.get hq
  obtain ⟨e1, e2, e3, _, e5⟩ := ess_ro e
  rw [e1, e2, e3, e5]; exact h.p k p hp⟩
theorem XI.x {a : AS} (h : XI a) : XInv a := ⟨h.inv, fun p hp => by
  obtain ⟨k, hk⟩ := List.mem_iff_getElem?.1 hp
  obtain ⟨_, h2, h3, h4⟩ := h.p k p hk
  rw [h4, h.id]; exact ⟨h2, h3, rfl, rfl, rfl⟩⟩
theorem ageL_0 : ∀ l : List PE, (∀ p ∈ l, p.ro = 4) → ageL l = 0
  | [], _ => rfl
  | p :: l, h => by
    have h1 := h p (List.mem_cons_self ..)
    unfold ageL
    rw [h1, if_neg (by decide)]
    exact ageL_0 l fun q hq => h q (List.mem_cons_of_mem _ hq)
theorem x_tell {a : AS} (h : ∀ p ∈ a.ps, p.ro = 4) {k : Nat} {p : PE} (hk : k < a.ps.length) (hv : p.v = ⟨2, 0, 2, (k : Int) + 1⟩) : TT a.ps.length ((k : Int) + 1) (tellD a p) where
  ge := by omega
  le := by omega
  kind := rfl
  role := rfl
  vec := by rw [← hv]; rfl
  age := by unfold tellD pduV; rw [ageL_0 _ h]; rfl
theorem XI.ro {a : AS} (h : XI a) : ∀ p ∈ a.ps, p.ro = 4 := fun p hp => by
  obtain ⟨k, hk⟩ := List.mem_iff_getElem?.1 hp
  exact (h.p k p hk).2.1
/-- What may come to the lesser bridge. -/
def PL (d : PD) : Prop := d.kind = 2 ∧ (d.role = 1 ∨ d.role = 2 ∨ d.role = 3 ∧ OwnV (vecD d))
def rkf (p : PE) : Int × Int × Int := (p.ro, p.st, p.wait)
/-- How many ticks a designated port may still be away from forwarding. -/
def RkP (k : Nat) (p : PE) : Prop := p.ro = 4 ∧ 0 ≤ p.wait ∧ p.wait ≤ 3 ∧ (p.st = 2 ∨ p.st = 1 ∧ p.wait + 1 ≤ k ∨ p.st = 0 ∧ p.wait + 5 ≤ k)
def RkA (k : Nat) (a : AS) : Prop := ∀ p ∈ a.ps, RkP k p
theorem RkP.to {k : Nat} {p q : PE} (h : RkP k p) (e : rkf p = rkf q) : RkP k q := by
  simp only [rkf, Prod.mk.injEq] at e
  obtain ⟨e1, e2, e3⟩ := e
  unfold RkP at *
  rw [← e1, ← e2, ← e3]; exact h
theorem RkA.to {k : Nat} {a b : AS} (h : RkA k a) (g : KF rkf a b) : RkA k b := fun q hq => by
  obtain ⟨j, hj⟩ := List.mem_iff_getElem?.1 hq
  obtain ⟨p, hp, e⟩ := g.get hj
  exact (h p (List.mem_of_getElem? hp)).to e
theorem RkA.set {k : Nat} {a : AS} (h : RkA k a) {i : Nat} {q : PE} (hq : RkP k q) : RkA k (setA a i q) := fun p hp => by
  rcases List.mem_or_eq_of_mem_set hp with h1 | rfl
  · exact h p h1
  · exact hq
theorem rk_agree {k : Nat} {p : PE} (h : RkP k p) : RkP k (agreeP p) := by
  unfold agreeP
  rw [if_pos (by rw [h.1]; rfl)]
  exact ⟨h.1, Int.le_refl _, (by show (0 : Int) ≤ 3; decide), .inl rfl⟩
theorem rk_reply {k : Nat} {a : AS} (h : RkA k a) {i : Nat} {p : PE} (hp : a.ps[i]? = some p) (d : PD) : RkA k (replyA a i p d) := by
  have h1 := h.set (i := i) (rk_agree (h p (List.mem_of_getElem? hp)))
  unfold replyA
  repeat' split
  · exact h1.to (kf_changed (fun _ _ => rfl) (by simp [setA, (List.getElem?_eq_some_iff.1 hp).1]))
  · exact h1
  all_goals exact h
theorem x_hear {a : AS} (h : XI a) (port : Int) {d : PD} (hd : PL d) : XI (hearT a port d) ∧ (hearT a port d).beat = a.beat ∧ (∀ k, RkA k a → RkA k (hearT a port d)) ∧ ∃ e, (hearT a port d).told = a.told ++ e ∧ e.length ≤ (if d.role = 3 then 1 else 0) ∧ ∀ t ∈ e, TT a.ps.length t.port t.d := by
  obtain ⟨hk, hr⟩ := hd
  have hS : SameE a (hearT a port d) := by
    refine same_hear_worse port d ?_
    rcases hr with e | e | ⟨e, ho⟩
    · left; simp [hk, e]
    · left; simp [hk, e]
    · right; intro p hp
      obtain ⟨k, hk⟩ := List.mem_iff_getElem?.1 hp
      obtain ⟨_, h2, h3, h4⟩ := h.p k p hk
      exact ⟨h3, by rw [h4]; exact bet_own (by rcases ho with ho | ⟨ho, hc⟩; exact .inl ho; exact .inr ⟨ho, hc⟩)⟩
  refine ⟨h.same hS, ?_⟩
  clear hS
  have h0 : a.beat = a.beat ∧ (∀ k, RkA k a → RkA k a) ∧ ∃ e, a.told = a.told ++ e ∧ e.length ≤ (if d.role = 3 then 1 else 0) ∧ ∀ t ∈ e, TT a.ps.length t.port t.d := ⟨rfl, fun _ h => h, [], (List.append_nil _).symm, Nat.zero_le _, fun _ h => by cases h⟩
  unfold hearT
  split
  · exact h0
  split
  · exact h0
  cases hp : a.ps[(port - 1).toNat]? with
  | none => exact h0
  | some p =>
    simp only [(h.p _ p hp).1, if_true]
    generalize (port - 1).toNat = i at *
    have g : KY a (hear1 a i p d) := kf_hear1 ky_ch (fun _ => rfl) hp d
    have g2 : KF rkf a (hear1 a i p d) := kf_hear1 (fun _ _ => rfl) (fun _ => rfl) hp d
    have h1 := h.same (same_hear1 hp d)
    have g3 := fun k (h : RkA k a) => h.to g2
    have gl := g.len
    rw [← g.beat, ← g.told, ← gl]
    clear h0 g2
    generalize hear1 a i p d = c at *
    have h0 : c.beat = c.beat ∧ (∀ k, RkA k a → RkA k c) ∧ ∃ e, c.told = c.told ++ e ∧ e.length ≤ (if d.role = 3 then 1 else 0) ∧ ∀ t ∈ e, TT c.ps.length t.port t.d := ⟨rfl, g3, [], (List.append_nil _).symm, Nat.zero_le _, fun _ h => by cases h⟩
    unfold hear2
    rw [if_neg (by rw [hk]; decide)]
    cases hp2 : c.ps[i]? with
    | none => exact h0
    | some p2 =>
      simp only []
      obtain ⟨q1, q2, q3, q4⟩ := h1.p i p2 hp2
      by_cases hc : (if d.kind == 2 then (if d.role == 2 then true else d.role == 1) else false) = true
      · rw [if_pos hc]
        have r := ky_reply hp2 d
        exact ⟨r.beat, fun k hk => rk_reply (g3 k hk) hp2 d, [], by rw [r.told, List.append_nil], Nat.zero_le _, fun _ h => by cases h⟩
      · rw [if_neg hc]
        have hr3 : d.role = 3 ∧ OwnV (vecD d) := by
          rcases hr with e | e | e
          · simp [hk, e] at hc
          · simp [hk, e] at hc
          · exact e
        have hb : betV (vecD d) p2.v = false := by rw [q4]; exact bet_own (by rcases hr3.2 with ho | ⟨ho, hc⟩; exact .inl ho; exact .inr ⟨ho, hc⟩)
        have hw := hearW_worse d.age c.cf q3 hb
        have hq := hearP_worse d.age c.cf q3 hb
        have hself : setA c i p2 = c := by show ({ c with ps := c.ps.set i p2 } : AS) = c; rw [set_self hp2]
        unfold newsA
        rw [hq, hself]
        rcases hw with hw | hw <;> rw [hw]
        · exact h0
        · simp only [beq_self_eq_true, if_true, q2]
          refine ⟨rfl, g3, [⟨(i : Int) + 1, tellD c p2⟩], rfl, ?_, fun t ht => ?_⟩
          · rw [if_pos hr3.1]; exact Nat.le_refl _
          · rcases List.mem_singleton.1 ht with rfl
            exact x_tell h1.ro (List.getElem?_eq_some_iff.1 hp2).1 q4
theorem rk_as {k : Nat} {p : PE} (h : RkP k p) (t : V4) (c : CF) : RkP k (asP p 4 t c) := by
  obtain ⟨h4, h1, h2, h3⟩ := h
  have e : asP p 4 t c = des3 (des1 { p with ro := 4 } 4 t) := by
    simp only [asP, desP, des2, h4]; rfl
  rw [e]
  have hd : RkP k (des1 { p with ro := 4 } 4 t) := by
    unfold des1; split <;> exact ⟨rfl, h1, h2, h3⟩
  unfold des3
  split
  · exact ⟨hd.1, Int.le_refl _, (by show (0 : Int) ≤ 3; decide), .inl rfl⟩
  · exact hd
theorem rk_step {k : Nat} {p : PE} {c : CF} (h : RkP (k + 1) p) (hd : c.de = 3) : RkP k (stepP p c) := by
  obtain ⟨h4, h1, h2, h3⟩ := h
  have hw : IntKind.i64.wrap (p.wait - 1) = p.wait - 1 := wr_i64 (by omega) (by omega)
  unfold stepP
  have h4b : (p.ro == 4) = true := by rw [h4]; rfl
  simp only [h4b, hw, Bool.not_true, Bool.false_or]
  by_cases e2 : p.st = 2
  · rw [if_pos (by rw [e2]; rfl)]; exact ⟨h4, h1, h2, .inl e2⟩
  · rw [if_neg (by simpa using e2)]
    by_cases hc : 0 < p.wait - 1
    · rw [if_pos (decide_eq_true hc)]
      refine ⟨h4, by show 0 ≤ p.wait - 1; omega, by show p.wait - 1 ≤ 3; omega, ?_⟩
      show p.st = 2 ∨ p.st = 1 ∧ p.wait - 1 + 1 ≤ k ∨ p.st = 0 ∧ p.wait - 1 + 5 ≤ k
      omega
    · rw [if_neg (by simpa using hc)]
      by_cases e1 : p.st = 1
      · rw [if_pos (by rw [e1]; rfl)]; exact ⟨h4, Int.le_refl _, (by show (0 : Int) ≤ 3; decide), .inl rfl⟩
      · rw [if_neg (by simpa using e1)]
        refine ⟨h4, by show 0 ≤ c.de; omega, by show c.de ≤ 3; omega, .inr (.inl ⟨rfl, ?_⟩)⟩
        show c.de + 1 ≤ k
        omega
theorem RkP.le {j k : Nat} {p : PE} (h : RkP j p) (g : j ≤ k) : RkP k p := by unfold RkP at *; omega
theorem fade_wait (p : PE) : (fade2 p).wait = p.wait := by
  unfold fade2 fadeP forgetP
  repeat' split
  all_goals rfl
theorem x_tick {a : AS} (h : XI a) : XI (tickA a) ∧ (∀ k, RkA (k + 1) a → RkA k (tickA a)) ∧ ∃ e, (tickA a).told = a.told ++ e ∧ (∀ t ∈ e, TT a.ps.length t.port t.d) ∧
    (if 0 < IntKind.i64.wrap (a.beat - 1) then (tickA a).beat = IntKind.i64.wrap (a.beat - 1) else (tickA a).beat = 2 ∧ ∀ k, k < a.ps.length → ∃ t ∈ e, t.port = (k : Int) + 1) := by
  refine ⟨h.same (same_tick h.inv h.x.noFade), ?_⟩
  have hm := itA_map (fun _ => fade2) a a.ps.length
  have hps : (itA tick1I a a.ps.length).ps = a.ps.map fade2 := itA_mapL (fun _ => fade2) a
  have s1 := (same_fade h.x.noFade a.ps.length).1
  have x1 := h.same s1
  have r1 : ∀ k, RkA k a → RkA k (itA tick1I a a.ps.length) := fun k hk q hq => by
    rw [hps] at hq
    obtain ⟨p, hp, rfl⟩ := List.mem_map.1 hq
    obtain ⟨f1, f2, _⟩ := fade_keep p
    exact (hk p hp).to (by simp only [rkf, f1, f2, fade_wait])
  have t1 : (itA tick1I a a.ps.length).told = a.told ∧ (itA tick1I a a.ps.length).beat = a.beat := ⟨(hm 0).2.1, (hm 0).2.2.1⟩
  have l1 : (itA tick1I a a.ps.length).ps.length = a.ps.length := by rw [hps, List.length_map]
  unfold tickA tick2
  rw [← t1.1, ← t1.2]
  clear hm hps t1
  generalize itA tick1I a a.ps.length = b at *
  have s2 := same_choose x1.inv
  have x2 := x1.same s2
  have l2 := s2.len
  have r2 : ∀ k, RkA k a → RkA k (chooseA b) := fun k hk => by
    obtain ⟨c2, _, g, e⟩ := choose_form b
    have hc : RkA k c2 := RkA.to (a := itA (asI (rolesA b) (tellsA b)) b b.ps.length) (fun q hq => by
      obtain ⟨j, hj⟩ := List.mem_iff_getElem?.1 hq
      rw [(itA_as _ _ _ _ _).2] at hj
      cases hp : b.ps[j]? with
      | none => rw [hp] at hj; split at hj <;> cases hj
      | some p =>
        have hlt := (List.getElem?_eq_some_iff.1 hp).1
        rw [if_pos hlt, hp] at hj
        cases hj
        have h4 : (rolesA b).getD j 0 = 4 := by rw [getD_of (x1.inv.ro j p hp)]; exact (x1.p j p hp).2.1
        rw [h4]
        exact rk_as (r1 k hk p (List.mem_of_getElem? hp)) _ _) g
    rw [e]; exact hc
  rw [← choose_told x1.inv, ← choose_beat b]
  generalize chooseA b = c at *
  have g1 : KY c (itA stI c c.ps.length) := ky_st c
  have hst : (itA stI c c.ps.length).ps = c.ps.map fun p => stepP p c.cf := itA_mapL (fun cf p => stepP p cf) c
  have r3 : ∀ k, RkA (k + 1) a → RkA k (itA stI c c.ps.length) := fun k hk q hq => by
    rw [hst] at hq
    obtain ⟨p, hp, rfl⟩ := List.mem_map.1 hq
    exact rk_step (r2 _ hk p hp) x2.de
  have g2 : KY c (allA changedI (stepN a.ps.length c c.ps.length) (itA stI c c.ps.length) c.ps.length) := g1.trans (kf_allA (kf_changedI ky_ch) _ _ _)
  have x3 : XI (allA changedI (stepN a.ps.length c c.ps.length) (itA stI c c.ps.length) c.ps.length) := x2.same ((same_itA same_stI c c.ps.length).trans (same_allA same_changedI _ _ _))
  have r4 : ∀ k, RkA (k + 1) a → RkA k (allA changedI (stepN a.ps.length c c.ps.length) (itA stI c c.ps.length) c.ps.length) := fun k hk => (r3 k hk).to (kf_allA (kf_changedI (fun _ _ => rfl)) _ _ _)
  have l3 := g2.len
  rw [← g2.told, ← g2.beat]
  generalize allA changedI (stepN a.ps.length c c.ps.length) (itA stI c c.ps.length) c.ps.length = e at *
  have hl : a.ps.length = e.ps.length := by rw [l3, l2, l1]
  rw [hl]
  unfold beatA
  by_cases hb : 0 < IntKind.i64.wrap (e.beat - 1)
  · rw [if_pos (decide_eq_true hb)]
    refine ⟨r4, [], (List.append_nil _).symm, (fun _ h => by cases h), ?_⟩
    rw [if_pos hb]; rfl
  · rw [if_neg (by simpa using hb), itA_beat]
    refine ⟨r4, btN (beat1 e) e.ps.length, rfl, fun t ht => ?_, ?_⟩
    · obtain ⟨k, p, hp, ⟨h4, rfl⟩ | ⟨h3, rfl⟩⟩ := btN_mem _ ht
      · exact x_tell (a := beat1 e) x3.ro (List.getElem?_eq_some_iff.1 hp).1 (x3.p k p hp).2.2.2
      · have := (x3.p k p hp).2.1; omega
    · rw [if_neg hb]
      refine ⟨x3.he, fun k hk => ?_⟩
      obtain ⟨p, hp⟩ : ∃ p, e.ps[k]? = some p := ⟨_, List.getElem?_eq_getElem hk⟩
      obtain ⟨o1, o2, _⟩ := x3.p k p hp
      exact ⟨_, btN_all (a := beat1 e) hp o1 o2 _ hk, rfl⟩
theorem XI.noT {a : AS} (h : XI a) : XI (Ev.noT a) := ⟨h.id, h.he, h.de, h.inv.noT, h.p⟩
end Go.Ev
