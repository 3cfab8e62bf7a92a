/- A part of the proof: contracts of the functions that the statement reaches. -/
import Derived.Test.YtadikegdadnahaaT27
namespace Go.Ev
open Go.Proofs
set_option maxRecDepth 100000
set_option linter.unusedSimpArgs false
set_option linter.unusedVariables false
set_option maxHeartbeats 4000000
/-! ### roles stay as they were chosen -/
theorem wayB_iff (v w : V4) (i j : Int) : wayB v w i j = true ↔ v.r < w.r ∨ v.r = w.r ∧ (v.c < w.c ∨ v.c = w.c ∧ (v.b < w.b ∨ v.b = w.b ∧ (v.p < w.p ∨ v.p = w.p ∧ i < j))) := by
  unfold wayB
  by_cases h : v = w
  · subst h; simp
  · rw [if_neg h, bet_iff]
    have hn : ¬ (v.r = w.r ∧ v.c = w.c ∧ v.b = w.b ∧ v.p = w.p) := fun ⟨a, b, c, d⟩ => h (by cases v; cases w; simp_all)
    constructor
    · intro g; omega
    · intro g; omega
theorem wayB_neg (v w : V4) (i j : Int) : wayB v w i j = false ↔ ¬ (v.r < w.r ∨ v.r = w.r ∧ (v.c < w.c ∨ v.c = w.c ∧ (v.b < w.b ∨ v.b = w.b ∧ (v.p < w.p ∨ v.p = w.p ∧ i < j)))) := by
  rw [← wayB_iff]; cases wayB v w i j <;> simp
/-- w ahead of b, b' not: w ahead of b'. -/
theorem way_nt {w b c : V4} {i j k : Int} (h : wayB w b i j = true) (g : wayB c b k j = false) : wayB w c i k = true := by
  rw [wayB_iff] at *; rw [wayB_neg] at g; omega
theorem way_as {w b : V4} {i j : Int} (h : wayB w b i j = true) : wayB b w j i = false := by
  rw [wayB_iff] at h; rw [wayB_neg]; omega
theorem way_nn {w b c : V4} {i j k : Int} (h : wayB w b i j = true) (g : wayB c b k j = false) : wayB c w k i = false := by
  rw [wayB_iff] at h; rw [wayB_neg] at *; omega
theorem way_r {b c : V4} {j k : Int} (g : wayB c b k j = false) : b.r ≤ c.r := by
  rw [wayB_neg] at g; omega
/-- Two lists of ports: some of the first are no ways in the second, and were not chosen. -/
structure Less (me : Int) (rem : Nat → Prop) (L L' : List PT) : Prop where
  len : L'.length = L.length
  get : ∀ (k : Nat) (p : PT), L[k]? = some p → ∃ p', L'[k]? = some p' ∧ (p' = p ∨ isWay me p' = false ∧ rem k)
theorem best_rel {self : Int} {rem : Nat → Prop} {L L' : List PT} (h : Less self rem L L') : ∀ i, i ≤ L.length →
    bestW self L i = bestW self L' i ∨ (∃ k : Nat, (bestW self L i).n = (k : Int) + 1 ∧ rem k) ∧ ((bestW self L' i).n = 0 ∨ (bestW self L' i).n ≠ 0 ∧ wayB (bestW self L' i).v (bestW self L i).v (bestW self L' i).id (bestW self L i).id = false)
  | 0, _ => .inl rfl
  | i + 1, hi => by
    have ih := best_rel h i (by omega)
    obtain ⟨p, hp⟩ : ∃ p, L[i]? = some p := ⟨_, List.getElem?_eq_getElem (by omega)⟩
    obtain ⟨p', hp', hs⟩ := h.get i p hp
    have e1 : bestW self L (i + 1) = stepW self (bestW self L i) i p := by simp only [bestW, hp]
    have e2 : bestW self L' (i + 1) = stepW self (bestW self L' i) i p' := by simp only [bestW, hp']
    rw [e1, e2]
    generalize bestW self L i = b at *
    generalize bestW self L' i = c at *
    clear e1 e2
    have hn0 : ((i : Int) + 1 == 0) = false := by simp; omega
    rcases hs with rfl | ⟨hw, hr⟩
    · rcases ih with rfl | ⟨⟨k, hk, hr⟩, hc⟩
      · exact .inl rfl
      · have hb0 : (b.n == 0) = false := by rw [hk]; simp; omega
        unfold stepW
        cases w : isWay self p' with
        | false => exact .inr ⟨⟨k, hk, hr⟩, hc⟩
        | true =>
          simp only [if_true, hb0, Bool.false_eq_true, if_false]
          cases hwb : wayB (wayV p') b.v p'.id b.id with
          | true =>
            rcases hc with hc | ⟨hc, hcb⟩
            · left; simp [hc]
            · left
              have : (c.n == 0) = false := by simpa using hc
              simp only [this, way_nt hwb hcb, Bool.false_eq_true, if_false, if_true]
          | false =>
            simp only [Bool.false_eq_true, if_false]
            refine .inr ⟨⟨k, hk, hr⟩, ?_⟩
            rcases hc with hc | ⟨hc, hcb⟩
            · right; simp only [hc, beq_self_eq_true, if_true]; exact ⟨by omega, hwb⟩
            · have : (c.n == 0) = false := by simpa using hc
              simp only [this, Bool.false_eq_true, if_false]
              right
              cases hwc : wayB (wayV p') c.v p'.id c.id with
              | true => simp only [if_true]; exact ⟨by omega, hwb⟩
              | false => simp only [Bool.false_eq_true, if_false]; exact ⟨hc, hcb⟩
    · have ec : stepW self c i p' = c := by unfold stepW; rw [hw]; rfl
      rw [ec]
      unfold stepW
      cases w : isWay self p with
      | false => exact ih
      | true =>
        simp only [if_true]
        cases hb0 : (b.n == 0) with
        | true =>
          simp only [if_true]
          have hbz : b.n = 0 := by simpa using hb0
          rcases ih with rfl | ⟨⟨k, hk, _⟩, _⟩
          · exact .inr ⟨⟨i, rfl, hr⟩, .inl hbz⟩
          · omega
        | false =>
          simp only [Bool.false_eq_true, if_false]
          cases hwb : wayB (wayV p) b.v p.id b.id with
          | false => simp only [Bool.false_eq_true, if_false]; exact ih
          | true =>
            simp only [if_true]
            refine .inr ⟨⟨i, rfl, hr⟩, ?_⟩
            rcases ih with rfl | ⟨_, hc | ⟨hc, hcb⟩⟩
            · exact .inr ⟨by simpa using hb0, way_as hwb⟩
            · exact .inl hc
            · exact .inr ⟨hc, way_nn hwb hcb⟩
theorem chS_less {self : Int} {L L' : List PT} (h : Less self (fun k => (chS self L).n ≠ (k : Int) + 1) L L') : chS self L' = chS self L := by
  have hr := best_rel h L.length (Nat.le_refl _)
  have hl := h.len
  unfold chS at *
  rw [hl]
  rcases hr with hr | ⟨⟨k, hk, hn⟩, hc⟩
  · rw [hr]
  · generalize bestW self L L.length = b at *
    generalize bestW self L' L.length = c at *
    have h0 : ¬ (0 < b.n ∧ b.v.r < self) := fun hp => by rw [if_pos hp] at hn; exact hn hk
    rw [if_neg h0, if_neg]
    rintro ⟨c1, c2⟩
    rcases hc with hc | ⟨_, hcb⟩
    · omega
    · have := way_r hcb; omega
theorem ptsN_get (ps : List PE) : ∀ (i k : Nat), i ≤ ps.length → k < i → (ptsN ps i)[k]? = (ps[k]?).map fun p => ptOf p k
  | 0, k, _, h => by omega
  | i + 1, k, hi, h => by
    obtain ⟨p, hp⟩ : ∃ p, ps[i]? = some p := ⟨_, List.getElem?_eq_getElem (by omega)⟩
    have e : ptsN ps (i + 1) = ptsN ps i ++ [ptOf p i] := by simp only [ptsN, hp]
    have hl := ptsN_len ps i (by omega)
    rw [e]
    by_cases hk : k < i
    · rw [List.getElem?_append_left (by omega)]; exact ptsN_get ps i k (by omega) hk
    · have : k = i := by omega
      subst this
      rw [List.getElem?_append_right (by omega), hl, Nat.sub_self, hp]; rfl
def ptsA (a : AS) : List PT := ptsN a.ps a.ps.length
theorem ptsA_len (a : AS) : (ptsA a).length = a.ps.length := ptsN_len _ _ (Nat.le_refl _)
theorem ptsA_get {a : AS} {k : Nat} {p : PE} (h : a.ps[k]? = some p) : (ptsA a)[k]? = some (ptOf p k) := by
  unfold ptsA
  rw [ptsN_get _ _ _ (Nat.le_refl _) (List.getElem?_eq_some_iff.1 h).1, h]; rfl
theorem rolesN_get (self : Int) (h : CH) (L : List PT) : ∀ (i k : Nat), i ≤ L.length → k < i → (rolesN self h L i)[k]? = (L[k]?).map fun p => roleI self h.n ((k : Int) + 1) p (tellI self h p)
  | 0, k, _, hk => by omega
  | i + 1, k, hi, hk => by
    obtain ⟨p, hp⟩ : ∃ p, L[i]? = some p := ⟨_, List.getElem?_eq_getElem (by omega)⟩
    have e : rolesN self h L (i + 1) = rolesN self h L i ++ [roleI self h.n ((i : Int) + 1) p (tellI self h p)] := by simp only [rolesN, hp]
    have hl := rolesN_len self h L i (by omega)
    rw [e]
    by_cases hk2 : k < i
    · rw [List.getElem?_append_left (by omega)]; exact rolesN_get self h L i k (by omega) hk2
    · have : k = i := by omega
      subst this
      rw [List.getElem?_append_right (by omega), hl, Nat.sub_self, hp]; rfl
theorem tellsN_get (self : Int) (h : CH) (L : List PT) : ∀ (i k : Nat), i ≤ L.length → k < i → (tellsN self h L i)[k]? = (L[k]?).map fun p => tellI self h p
  | 0, k, _, hk => by omega
  | i + 1, k, hi, hk => by
    obtain ⟨p, hp⟩ : ∃ p, L[i]? = some p := ⟨_, List.getElem?_eq_getElem (by omega)⟩
    have e : tellsN self h L (i + 1) = tellsN self h L i ++ [tellI self h p] := by simp only [tellsN, hp]
    have hl := tellsN_len self h L i (by omega)
    rw [e]
    by_cases hk2 : k < i
    · rw [List.getElem?_append_left (by omega)]; exact tellsN_get self h L i k (by omega) hk2
    · have : k = i := by omega
      subst this
      rw [List.getElem?_append_right (by omega), hl, Nat.sub_self, hp]; rfl
def hA (a : AS) : CH := chS a.cf.id (ptsA a)
theorem rolesA_get {a : AS} {k : Nat} {p : PE} (h : a.ps[k]? = some p) : (rolesA a)[k]? = some (roleI a.cf.id (hA a).n ((k : Int) + 1) (ptOf p k) (tellI a.cf.id (hA a) (ptOf p k))) := by
  have hk := (List.getElem?_eq_some_iff.1 h).1
  have := rolesN_get a.cf.id (hA a) (ptsA a) a.ps.length k (by rw [ptsA_len]; exact Nat.le_refl _) hk
  rw [ptsA_get h] at this
  exact this
theorem tellsA_get {a : AS} {k : Nat} {p : PE} (h : a.ps[k]? = some p) : (tellsA a)[k]? = some (tellI a.cf.id (hA a) (ptOf p k)) := by
  have hk := (List.getElem?_eq_some_iff.1 h).1
  have := tellsN_get a.cf.id (hA a) (ptsA a) a.ps.length k (by rw [ptsA_len]; exact Nat.le_refl _) hk
  rw [ptsA_get h] at this
  exact this
/-- What the choice of roles hangs on, the role, and the state of what isn't Designated. -/
def ess (p : PE) : Bool × Bool × Int × Int × V4 × Int × Int × Int := (p.up, p.ad, p.ro, p.nf, p.v, p.cost, p.prio, if p.ro = 4 then 0 else p.st)
theorem ess_pt {p q : PE} (h : ess p = ess q) (k : Nat) : ptOf p k = ptOf q k := by
  simp only [ess, Prod.mk.injEq] at h
  obtain ⟨h1, h2, h3, h4, h5, h6, h7, h8⟩ := h
  simp only [ptOf, onP, idP, h1, h2, h4, h5, h6, h7]
structure InvA (a : AS) : Prop where
  ro : ∀ (k : Nat) (p : PE), a.ps[k]? = some p → (rolesA a)[k]? = some p.ro
  lead : ∀ p ∈ a.ps, p.ro ≠ 3 → p.ro ≠ 4 → p.st = 0
  des : ∀ (k : Nat) (p : PE), a.ps[k]? = some p → p.ro = 4 → (tellsA a)[k]? = some p.v ∧ p.nf = 1
  root : ∀ p ∈ a.ps, p.ro = 3 → p.st = 2
def WeakA (a : AS) : Prop := ∀ p ∈ a.ps, (p.ro = 3 → p.st = 2) ∧ (onP p = false → p.st = 0)
/-- The same but for what changes behind the choice. -/
structure SameE (a b : AS) : Prop where
  id : b.cf = a.cf
  ps : b.ps.map ess = a.ps.map ess
theorem SameE.refl (a : AS) : SameE a a := ⟨rfl, rfl⟩
theorem SameE.trans {a b c : AS} (h : SameE a b) (g : SameE b c) : SameE a c := ⟨g.id.trans h.id, g.ps.trans h.ps⟩
theorem SameE.len {a b : AS} (h : SameE a b) : b.ps.length = a.ps.length := by have := congrArg List.length h.ps; simpa using this
theorem SameE.get {a b : AS} (h : SameE a b) {k : Nat} {q : PE} (hq : b.ps[k]? = some q) : ∃ p, a.ps[k]? = some p ∧ ess p = ess q := by
  have e := congrArg (fun l => l[k]?) h.ps
  simp only [List.getElem?_map, hq, Option.map_some] at e
  cases hp : a.ps[k]? with
  | none => rw [hp] at e; cases e
  | some p => rw [hp] at e; exact ⟨p, rfl, by simpa using e.symm⟩
theorem SameE.pts {a b : AS} (h : SameE a b) : ptsA b = ptsA a := by
  refine List.ext_getElem? fun k => ?_
  cases hq : b.ps[k]? with
  | some q =>
    obtain ⟨p, hp, e⟩ := h.get hq
    rw [ptsA_get hq, ptsA_get hp, ess_pt e]
  | none =>
    have h1 : b.ps.length ≤ k := List.getElem?_eq_none_iff.1 hq
    rw [List.getElem?_eq_none (by rw [ptsA_len]; exact h1), List.getElem?_eq_none (by rw [ptsA_len, ← h.len]; exact h1)]
theorem SameE.rt {a b : AS} (h : SameE a b) : rolesA b = rolesA a ∧ tellsA b = tellsA a := by
  have hp := h.pts
  unfold ptsA at hp
  unfold rolesA tellsA
  rw [hp, h.len, h.id]
  exact ⟨rfl, rfl⟩
theorem ess_ro {p q : PE} (h : ess p = ess q) : q.ro = p.ro ∧ q.nf = p.nf ∧ q.v = p.v ∧ (p.ro ≠ 4 → q.st = p.st) ∧ onP q = onP p := by
  simp only [ess, Prod.mk.injEq] at h
  obtain ⟨h1, h2, h3, h4, h5, h6, h7, h8⟩ := h
  refine ⟨h3.symm, h4.symm, h5.symm, fun hn => ?_, by simp only [onP, h1, h2]⟩
  rw [← h3, if_neg hn, if_neg hn] at h8
  exact h8.symm
theorem InvA.same {a b : AS} (h : InvA a) (g : SameE a b) : InvA b := by
  obtain ⟨hr, ht⟩ := g.rt
  refine ⟨fun k q hq => ?_, fun q hq h3 h4 => ?_, fun k q hq h4 => ?_, fun q hq h3 => ?_⟩
  · obtain ⟨p, hp, e⟩ := g.get hq
    rw [hr, (ess_ro e).1]; exact h.ro k p hp
  · obtain ⟨k, hk⟩ := List.mem_iff_getElem?.1 hq
    obtain ⟨p, hp, e⟩ := g.get hk
    obtain ⟨e1, _, _, e4, _⟩ := ess_ro e
    rw [e1] at h3 h4
    rw [e4 h4]; exact h.lead p (List.mem_of_getElem? hp) h3 h4
  · obtain ⟨p, hp, e⟩ := g.get hq
    obtain ⟨e1, e2, e3, _, _⟩ := ess_ro e
    rw [e1] at h4
    rw [ht, e2, e3]; exact h.des k p hp h4
  · obtain ⟨k, hk⟩ := List.mem_iff_getElem?.1 hq
    obtain ⟨p, hp, e⟩ := g.get hk
    obtain ⟨e1, _, _, e4, _⟩ := ess_ro e
    rw [e1] at h3
    rw [e4 (by omega)]; exact h.root p (List.mem_of_getElem? hp) h3
theorem same_set {a : AS} {i : Nat} {p q : PE} (hp : a.ps[i]? = some p) (h : ess q = ess p) : SameE a (setA a i q) := ⟨rfl, by
  show (a.ps.set i q).map ess = _
  rw [List.map_set]
  refine List.ext_getElem? fun k => ?_
  by_cases hk : i = k
  · subst hk
    have hi : i < (a.ps.map ess).length := by simpa using (List.getElem?_eq_some_iff.1 hp).1
    rw [List.getElem?_set_self hi, List.getElem?_map, hp, h]; rfl
  · rw [List.getElem?_set_ne hk]⟩
theorem same_itA {f : AS → Nat → PE → AS} (hf : ∀ b i p, b.ps[i]? = some p → SameE b (f b i p)) (a : AS) : ∀ i, SameE a (itA f a i)
  | 0 => .refl a
  | i + 1 => by
    cases hp : (itA f a i).ps[i]? with
    | some p => rw [itA_next hp]; exact (same_itA hf a i).trans (hf _ _ _ hp)
    | none => simp only [itA, hp]; exact same_itA hf a i
theorem same_allA {f : AS → Nat → AS} (hf : ∀ b i, SameE b (f b i)) (l : List Bool) (a : AS) : ∀ i, SameE a (allA f l a i)
  | 0 => .refl a
  | i + 1 => by unfold allA; split; exact (same_allA hf l a i).trans (hf _ _); exact same_allA hf l a i
theorem same_ch {a : AS} {i : Nat} {p : PE} (x : Int) (fl : List Int) (hp : a.ps[i]? = some p) : SameE a { a with ps := a.ps.set i { p with ch := x }, fl := fl } := ⟨rfl, (same_set hp (q := { p with ch := x }) rfl).ps⟩
theorem same_spr (but : Int) (al : Bool) (b : AS) (i : Nat) (p : PE) (hp : b.ps[i]? = some p) : SameE b (sprI but al b i p) := by
  unfold sprI
  repeat' split
  all_goals first | exact .refl b | exact ⟨rfl, rfl⟩ | exact same_ch _ _ hp
theorem same_changed {a : AS} {i : Nat} {p : PE} (hp : a.ps[i]? = some p) : SameE a (changedA a i p) := by
  unfold changedA; split
  · exact .refl a
  · exact (show SameE a (chA a i p) from same_ch _ _ hp).trans (same_itA (same_spr _ _) _ _)
theorem same_changedI (a : AS) (i : Nat) : SameE a (changedI a i) := by
  unfold changedI; split
  · rename_i p hp; exact same_changed hp
  · exact .refl a
theorem same_tellI2 (a : AS) (i : Nat) : SameE a (tellI2 a i) := by unfold tellI2; split <;> exact ⟨rfl, rfl⟩
theorem same_beatI (b : AS) (i : Nat) (p : PE) (_ : b.ps[i]? = some p) : SameE b (beatI b i p) := by
  unfold beatI
  repeat' split
  all_goals exact ⟨rfl, rfl⟩
theorem same_beat (a : AS) : SameE a (beatA a) := by
  unfold beatA; split
  · exact ⟨rfl, rfl⟩
  · exact (show SameE a (beat1 a) from ⟨rfl, rfl⟩).trans (same_itA same_beatI _ _)
theorem ess_step (p : PE) (c : CF) : ess (stepP p c) = ess p := by
  unfold stepP
  by_cases h4 : p.ro = 4
  · repeat' split
    all_goals simp [ess, h4]
  · have : (!(p.ro == 4)) = true := by simpa using h4
    rw [this]; rfl
theorem ess_agree (p : PE) : ess (agreeP p) = ess p := by
  unfold agreeP
  split
  · rename_i h; have := eq_of_beq h; simp [ess, this]
  · rfl
theorem ess_block (p : PE) (c : CF) : ess (blockP p c) = ess p := by
  unfold blockP
  split
  · rename_i h; simp only [Bool.and_eq_true] at h; have := eq_of_beq h.1; simp [ess, this]
  · rfl
theorem same_stI (b : AS) (i : Nat) (p : PE) (hp : b.ps[i]? = some p) : SameE b (stI b i p) := same_set hp (ess_step _ _)
theorem same_tick2 (k : Nat) (a : AS) : SameE a (tick2 k a) := by
  unfold tick2
  exact ((same_itA same_stI a a.ps.length).trans (same_allA same_changedI _ _ _)).trans (same_beat _)
theorem same_blkI (j : Nat) (b : AS) (i : Nat) (p : PE) (hp : b.ps[i]? = some p) : SameE b (blkI j b i p) := by
  unfold blkI; split
  · exact .refl b
  · exact same_set hp (ess_block _ _)
theorem same_agree (a : AS) (i : Nat) : SameE a (agreeA a i) := by
  have h := same_itA (same_blkI i) a a.ps.length
  unfold agreeA; split
  · exact h.trans ⟨rfl, rfl⟩
  · exact h
theorem same_reply {a : AS} {i : Nat} {p : PE} (hp : a.ps[i]? = some p) (d : PD) : SameE a (replyA a i p d) := by
  have h1 := same_set hp (ess_agree p)
  unfold replyA
  repeat' split
  · exact h1.trans (same_changed (by simp [setA, (List.getElem?_eq_some_iff.1 hp).1]))
  · exact h1
  all_goals exact .refl a
end Go.Ev
