/- A part of the proof: contracts of the functions that the statement reaches. -/
import Derived.Test.YtadikegdadnahaaT29
namespace Go.Ev
open Go.Proofs
set_option maxRecDepth 100000
set_option linter.unusedSimpArgs false
set_option linter.unusedVariables false
set_option maxHeartbeats 4000000
theorem as_ro (p : PE) (r : Int) (t : V4) (c : CF) : (asP p r t c).ro = r := by
  unfold asP desP des3 des2 des1
  repeat' split
  all_goals rfl
theorem as_keep (p : PE) (r : Int) (t : V4) (c : CF) : onP (asP p r t c) = onP p ∧ (asP p r t c).cost = p.cost ∧ (asP p r t c).prio = p.prio := by
  unfold asP desP des3 des2 des1
  repeat' split
  all_goals exact ⟨rfl, rfl, rfl⟩
theorem as_not4 (p : PE) (r : Int) (t : V4) (c : CF) (h : r ≠ 4) : (asP p r t c).nf = p.nf ∧ (asP p r t c).v = p.v := by
  unfold asP
  have h4 : (r == 4) = false := by simpa using h
  rw [h4]
  repeat' split
  all_goals first | exact ⟨rfl, rfl⟩ | contradiction
theorem as_4 (p : PE) (t : V4) (c : CF) : (asP p 4 t c).nf = 1 ∧ (asP p 4 t c).v = t := by
  have e : asP p 4 t c = desP { p with ro := 4 } p.ro t c := rfl
  rw [e]
  have h3 : ∀ q : PE, (des3 q).nf = q.nf ∧ (des3 q).v = q.v := fun q => by unfold des3; split <;> exact ⟨rfl, rfl⟩
  have h2 : ∀ (q : PE) (w : Int), (des2 q w c).nf = q.nf ∧ (des2 q w c).v = q.v := fun q w => by unfold des2; split <;> exact ⟨rfl, rfl⟩
  unfold desP
  rw [(h3 _).1, (h3 _).2, (h2 _ _).1, (h2 _ _).2]
  unfold des1
  cases hd : desA { p with ro := 4 } p.ro t with
  | true => exact ⟨rfl, rfl⟩
  | false =>
    simp only [desA, Bool.or_eq_false_iff, Bool.not_eq_false'] at hd
    exact ⟨eq_of_beq hd.2.1, of_decide_eq_true hd.2.2⟩
theorem as_st (p : PE) (r : Int) (t : V4) (c : CF) (hr : r = 0 ∨ r = 1 ∨ r = 2 ∨ r = 3 ∨ r = 4) (h3 : p.ro = 3 → p.st = 2) (h0 : r = 0 → p.st = 0) : (r ≠ 3 → r ≠ 4 → (asP p r t c).st = 0) ∧ (r = 3 → (asP p r t c).st = 2) := by
  rcases hr with rfl | rfl | rfl | rfl | rfl
  · exact ⟨fun _ _ => h0 rfl, fun h => by omega⟩
  · exact ⟨fun _ _ => rfl, fun h => by omega⟩
  · exact ⟨fun _ _ => rfl, fun h => by omega⟩
  · refine ⟨fun h _ => absurd rfl h, fun _ => ?_⟩
    show (if p.ro == 3 then { p with ro := 3 } else { p with ro := 3, st := 2, ag := false, wait := 0 } : PE).st = 2
    cases e : (p.ro == 3) with
    | true => exact h3 (eq_of_beq e)
    | false => rfl
  · exact ⟨fun _ h => absurd rfl h, fun h => by omega⟩
theorem itA_as (R : List Int) (T : List V4) (a : AS) : ∀ (i k : Nat), (itA (asI R T) a i).cf = a.cf ∧ ((itA (asI R T) a i).ps[k]? = if k < i then (a.ps[k]?).map fun p => asP p (R.getD k 0) (T.getD k ⟨0, 0, 0, 0⟩) a.cf else a.ps[k]?)
  | 0, k => ⟨rfl, by simp [itA]⟩
  | i + 1, k => by
    have ih := itA_as R T a i
    cases hp : (itA (asI R T) a i).ps[i]? with
    | none =>
      have e : itA (asI R T) a (i + 1) = itA (asI R T) a i := by simp only [itA, hp]
      rw [e]
      refine ⟨(ih k).1, ?_⟩
      rw [(ih k).2]
      have h2 := (ih i).2
      rw [hp, if_neg (Nat.lt_irrefl i)] at h2
      by_cases hk : k < i
      · rw [if_pos hk, if_pos (by omega)]
      · rw [if_neg hk]
        by_cases hk2 : k = i
        · subst hk2; rw [if_pos (by omega), ← h2]; rfl
        · rw [if_neg (by omega)]
    | some p =>
      rw [itA_next hp]
      have h2 := (ih i).2
      rw [hp, if_neg (Nat.lt_irrefl i)] at h2
      have hi : i < (itA (asI R T) a i).ps.length := (List.getElem?_eq_some_iff.1 hp).1
      refine ⟨(ih k).1, ?_⟩
      show ((itA (asI R T) a i).ps.set i (asP p (R.getD i 0) (T.getD i ⟨0, 0, 0, 0⟩) (itA (asI R T) a i).cf))[k]? = _
      by_cases hk : i = k
      · subst hk
        rw [List.getElem?_set_self hi, if_pos (by omega), ← h2, (ih i).1]; rfl
      · rw [List.getElem?_set_ne hk, (ih k).2]
        by_cases hk2 : k < i
        · rw [if_pos hk2, if_pos (by omega)]
        · rw [if_neg hk2, if_neg (by omega)]
theorem roleI_mem (me n k : Int) (p : PT) (t : V4) : roleI me n k p t = 0 ∨ roleI me n k p t = 1 ∨ roleI me n k p t = 2 ∨ roleI me n k p t = 3 ∨ roleI me n k p t = 4 := by
  unfold roleI
  repeat' split
  all_goals simp
theorem roleI_0 (me n k : Int) (p : PT) (t : V4) : roleI me n k p t = 0 ↔ p.on = false := by
  unfold roleI
  cases p.on with
  | false => simp
  | true => simp only [Bool.not_true, Bool.false_eq_true, if_false]; repeat' split
            all_goals simp
theorem roleI_4 (me n k : Int) (p q : PT) (t : V4) (h : roleI me n k p t = 4) (ho : q.on = p.on) (hh : q.heard = false) : roleI me n k q t = 4 ∧ n ≠ k := by
  unfold roleI at *
  rw [ho, hh]
  cases e : p.on with
  | false => rw [e] at h; simp at h
  | true =>
    rw [e] at h
    cases e2 : (k == n) with
    | true => rw [e2] at h; simp at h
    | false => exact ⟨by simp, fun h => by rw [h] at e2; simp at e2⟩
/-- The port as it is behind the choice. -/
theorem choose_inv {a : AS} (h : WeakA a) : InvA (chooseA a) := by
  have hs : SameE (itA (asI (rolesA a) (tellsA a)) a a.ps.length) (chooseA a) := by
    unfold chooseA chooseRT
    exact (same_allA same_changedI _ _ _).trans (same_allA same_tellI2 _ _ _)
  refine InvA.same ?_ hs
  obtain ⟨b, hb⟩ : ∃ b, itA (asI (rolesA a) (tellsA a)) a a.ps.length = b := ⟨_, rfl⟩
  rw [hb]
  have hfr := itA_fr (asI_fr (rolesA a) (tellsA a)) a a.ps.length
  rw [hb] at hfr
  have hcf : b.cf = a.cf := hfr.cf
  have hlen : b.ps.length = a.ps.length := hfr.len
  -- each port
  have port : ∀ (k : Nat) (q : PE), b.ps[k]? = some q → ∃ p r, a.ps[k]? = some p ∧ r = roleI a.cf.id (hA a).n ((k : Int) + 1) (ptOf p k) (tellI a.cf.id (hA a) (ptOf p k)) ∧ (rolesA a)[k]? = some r ∧ (tellsA a)[k]? = some (tellI a.cf.id (hA a) (ptOf p k)) ∧ q = asP p r (tellI a.cf.id (hA a) (ptOf p k)) a.cf := fun k q hq => by
    have hk : k < a.ps.length := by rw [← hlen]; exact (List.getElem?_eq_some_iff.1 hq).1
    have h2 := (itA_as (rolesA a) (tellsA a) a a.ps.length k).2
    rw [hb, hq, if_pos hk] at h2
    obtain ⟨p, hp⟩ : ∃ p, a.ps[k]? = some p := ⟨_, List.getElem?_eq_getElem hk⟩
    have h3 := rolesA_get hp
    have h4 := tellsA_get hp
    rw [hp] at h2
    simp only [Option.map_some, Option.some.injEq, List.getD_eq_getElem?_getD, h3, h4, Option.getD_some] at h2
    exact ⟨p, _, hp, rfl, h3, h4, h2⟩
  -- what the choice sees is less, or the same
  have less : Less a.cf.id (fun k => (chS a.cf.id (ptsA a)).n ≠ (k : Int) + 1) (ptsA a) (ptsA b) := by
    refine ⟨by rw [ptsA_len, ptsA_len, hlen], fun k x hx => ?_⟩
    have hk : k < a.ps.length := by rw [← ptsA_len]; exact (List.getElem?_eq_some_iff.1 hx).1
    obtain ⟨q, hq⟩ : ∃ q, b.ps[k]? = some q := ⟨_, List.getElem?_eq_getElem (by omega)⟩
    obtain ⟨p, r, hp, hr, _, _, hqe⟩ := port k q hq
    rw [ptsA_get hp] at hx
    cases hx
    refine ⟨_, ptsA_get hq, ?_⟩
    obtain ⟨k1, k2, k3⟩ := as_keep p r (tellI a.cf.id (hA a) (ptOf p k)) a.cf
    rw [← hqe] at k1 k2 k3
    by_cases h4 : r = 4
    · have n1 : q.nf = 1 := by rw [hqe, h4]; exact (as_4 p (tellI a.cf.id (hA a) (ptOf p k)) a.cf).1
      refine .inr ⟨?_, ?_⟩
      · simp only [isWay, ptOf, n1]; simp
      · have := (roleI_4 a.cf.id (hA a).n ((k : Int) + 1) (ptOf p k) { (ptOf p k) with heard := false } (tellI a.cf.id (hA a) (ptOf p k)) (by rw [← hr]; exact h4) rfl rfl).2
        exact this
    · obtain ⟨m1, m2⟩ := as_not4 p r (tellI a.cf.id (hA a) (ptOf p k)) a.cf h4
      rw [← hqe] at m1 m2
      left
      simp only [ptOf, idP, k1, k2, k3, m1, m2]
  have hch : hA b = hA a := by
    unfold hA
    rw [hcf]
    exact chS_less less
  -- roles and what is told stay
  have role : ∀ (k : Nat) (q p : PE) (r : Int), b.ps[k]? = some q → a.ps[k]? = some p → r = roleI a.cf.id (hA a).n ((k : Int) + 1) (ptOf p k) (tellI a.cf.id (hA a) (ptOf p k)) → q = asP p r (tellI a.cf.id (hA a) (ptOf p k)) a.cf →
      (rolesA b)[k]? = some r ∧ (tellsA b)[k]? = some (tellI a.cf.id (hA a) (ptOf p k)) := fun k q p r hq hp hr hqe => by
    obtain ⟨k1, k2, k3⟩ := as_keep p r (tellI a.cf.id (hA a) (ptOf p k)) a.cf
    rw [← hqe] at k1 k2 k3
    have hid : tellI a.cf.id (hA a) (ptOf q k) = tellI a.cf.id (hA a) (ptOf p k) := by
      simp only [tellI, ptOf, idP, k3]
    refine ⟨?_, by rw [tellsA_get hq, hcf, hch, hid]⟩
    rw [rolesA_get hq, hcf, hch, hid]
    congr 1
    by_cases h4 : r = 4
    · have n1 : q.nf = 1 := by rw [hqe, h4]; exact (as_4 p (tellI a.cf.id (hA a) (ptOf p k)) a.cf).1
      rw [h4]
      refine (roleI_4 _ _ _ (ptOf p k) (ptOf q k) _ (by rw [← hr]; exact h4) ?_ ?_).1
      · exact k1
      · simp only [ptOf, n1]; rfl
    · obtain ⟨m1, m2⟩ := as_not4 p r (tellI a.cf.id (hA a) (ptOf p k)) a.cf h4
      rw [← hqe] at m1 m2
      have : ptOf q k = ptOf p k := by simp only [ptOf, idP, k1, k2, k3, m1, m2]
      rw [this, ← hr]
  refine ⟨fun k q hq => ?_, fun q hq h3 h4 => ?_, fun k q hq h4 => ?_, fun q hq h3 => ?_⟩
  · obtain ⟨p, r, hp, hr, hR, hT, hqe⟩ := port k q hq
    rw [(role k q p r hq hp hr hqe).1, hqe, as_ro]
  · obtain ⟨k, hk⟩ := List.mem_iff_getElem?.1 hq
    obtain ⟨p, r, hp, hr, hR, hT, hqe⟩ := port k q hk
    have hw := h p (List.mem_of_getElem? hp)
    rw [hqe, as_ro] at h3 h4
    rw [hqe]
    exact (as_st p r _ a.cf (by rw [hr]; exact roleI_mem _ _ _ _ _) hw.1 fun h0 => hw.2 ((roleI_0 _ _ _ _ _).1 (by rw [← hr]; exact h0))).1 h3 h4
  · obtain ⟨p, r, hp, hr, hR, hT, hqe⟩ := port k q hq
    rw [hqe, as_ro] at h4
    rw [(role k q p r hq hp hr hqe).2, hqe, h4]
    obtain ⟨n1, n2⟩ := as_4 p (tellI a.cf.id (hA a) (ptOf p k)) a.cf
    exact ⟨by rw [n2], n1⟩
  · obtain ⟨k, hk⟩ := List.mem_iff_getElem?.1 hq
    obtain ⟨p, r, hp, hr, hR, hT, hqe⟩ := port k q hk
    have hw := h p (List.mem_of_getElem? hp)
    rw [hqe, as_ro] at h3
    rw [hqe]
    exact (as_st p r _ a.cf (by rw [hr]; exact roleI_mem _ _ _ _ _) hw.1 fun h0 => hw.2 ((roleI_0 _ _ _ _ _).1 (by rw [← hr]; exact h0))).2 h3
theorem InvA.weak {a : AS} (h : InvA a) : WeakA a := fun p hp => ⟨h.root p hp, fun ho => by
  obtain ⟨k, hk⟩ := List.mem_iff_getElem?.1 hp
  have h1 := h.ro k p hk
  rw [rolesA_get hk] at h1
  have h0 : p.ro = 0 := by
    rw [← Option.some.inj h1]
    exact (roleI_0 _ _ _ _ _).2 ho
  exact h.lead p hp (by omega) (by omega)⟩
theorem weak_set {l : List PE} {i : Nat} {q : PE} (h : ∀ p ∈ l, (p.ro = 3 → p.st = 2) ∧ (onP p = false → p.st = 0)) (hq : (q.ro = 3 → q.st = 2) ∧ (onP q = false → q.st = 0)) : ∀ p ∈ l.set i q, (p.ro = 3 → p.st = 2) ∧ (onP p = false → p.st = 0) := fun p hp => by
  rcases List.mem_or_eq_of_mem_set hp with h1 | rfl
  · exact h p h1
  · exact hq
theorem weak_itA {f : AS → Nat → PE → AS} (hf : ∀ b i p, b.ps[i]? = some p → WeakA b → WeakA (f b i p)) {a : AS} (h : WeakA a) : ∀ i, WeakA (itA f a i)
  | 0 => h
  | i + 1 => by
    cases hp : (itA f a i).ps[i]? with
    | some p => rw [itA_next hp]; exact hf _ _ _ hp (weak_itA hf h i)
    | none => simp only [itA, hp]; exact weak_itA hf h i
theorem weak_switch (p : PE) (u d : Bool) (c : CF) (h : (p.ro = 3 → p.st = 2)) : ((switchP p u d c).ro = 3 → (switchP p u d c).st = 2) ∧ (onP (switchP p u d c) = false → (switchP p u d c).st = 0) := by
  unfold switchP
  cases e1 : (onP p && onP { p with up := u, ad := d }) with
  | true =>
    simp only [Bool.and_eq_true] at e1
    simp only [if_true]
    exact ⟨h, fun g => by rw [e1.2] at g; cases g⟩
  | false =>
    simp only [Bool.false_eq_true, if_false]
    split <;> exact ⟨fun g => (by cases g), fun _ => rfl⟩
theorem off_switch (p : PE) (d : Bool) (c : CF) : (switchP p false d c).ro = 0 ∧ (switchP p false d c).st = 0 := by
  have e : onP { p with up := false, ad := d } = false := rfl
  unfold switchP
  rw [e, Bool.and_false]
  exact ⟨rfl, rfl⟩
/-- The ports that were started. -/
theorem weak_started (a : AS) : ∀ i, i ≤ a.ps.length → (itA startI a i).ps.length = a.ps.length ∧ ∀ (k : Nat) (p : PE), k < i → (itA startI a i).ps[k]? = some p → (p.ro = 3 → p.st = 2) ∧ (onP p = false → p.st = 0)
  | 0, _ => ⟨rfl, fun k p hk => by omega⟩
  | i + 1, hi => by
    obtain ⟨hl, ih⟩ := weak_started a i (by omega)
    obtain ⟨p, hp⟩ : ∃ p, (itA startI a i).ps[i]? = some p := ⟨_, List.getElem?_eq_getElem (by omega)⟩
    rw [itA_next hp]
    refine ⟨by simp [startI, setA, hl], fun k q hk hq => ?_⟩
    by_cases hki : i = k
    · subst hki
      simp only [startI, setA, List.getElem?_set_self (show i < (itA startI a i).ps.length by omega), Option.some.injEq] at hq
      rw [← hq]
      exact weak_switch _ _ _ _ fun h => by rw [(off_switch _ _ _).1] at h; cases h
    · simp only [startI, setA, List.getElem?_set_ne hki] at hq
      exact ih k q (by omega) hq
theorem inv_start (a : AS) : InvA (startA a) := by
  unfold startA
  refine choose_inv fun p hp => ?_
  obtain ⟨k, hk⟩ := List.mem_iff_getElem?.1 hp
  have h := weak_started (zeroB a) a.ps.length (Nat.le_refl _)
  exact h.2 k p (by rw [show a.ps.length = (itA startI (zeroB a) a.ps.length).ps.length from h.1.symm]; exact (List.getElem?_eq_some_iff.1 hk).1) hk
theorem fade_keep (p : PE) : (fade2 p).ro = p.ro ∧ (fade2 p).st = p.st ∧ onP (fade2 p) = onP p := by
  unfold fade2 fadeP forgetP
  repeat' split
  all_goals exact ⟨rfl, rfl, rfl⟩
theorem weak_tick1I (b : AS) (i : Nat) (p : PE) (hp : b.ps[i]? = some p) (h : WeakA b) : WeakA (tick1I b i p) := weak_set h (by
  obtain ⟨h1, h2, h3⟩ := fade_keep p
  have := h p (List.mem_of_getElem? hp)
  rw [h1, h2, h3]; exact this)
theorem inv_tick {a : AS} (h : InvA a) : InvA (tickA a) := by
  unfold tickA
  exact (choose_inv (weak_itA weak_tick1I h.weak _)).same (same_tick2 _ _)
theorem hear_keep (p : PE) (v : V4) (g : Int) (c : CF) : (hearP p v g c).ro = p.ro ∧ (hearP p v g c).st = p.st ∧ onP (hearP p v g c) = onP p := by
  unfold hearP; split <;> exact ⟨rfl, rfl, rfl⟩
theorem hear_01 (p : PE) (v : V4) (g : Int) (c : CF) (h : hearW p v g c = 0 ∨ hearW p v g c = 1) : hearP p v g c = p := by
  unfold hearP; rcases h with h | h <;> rw [h] <;> rfl
theorem set_self {l : List PE} {i : Nat} {p : PE} (h : l[i]? = some p) : l.set i p = l := by
  refine List.ext_getElem? fun k => ?_
  by_cases hk : i = k
  · subst hk; rw [List.getElem?_set_self (List.getElem?_eq_some_iff.1 h).1, h]
  · rw [List.getElem?_set_ne hk]
theorem hearW_mem (p : PE) (v : V4) (g : Int) (c : CF) : hearW p v g c = 0 ∨ hearW p v g c = 1 ∨ hearW p v g c = 2 ∨ hearW p v g c = 3 := by
  unfold hearW
  repeat' split
  all_goals simp
theorem inv_news {a : AS} {i : Nat} {p : PE} (hp : a.ps[i]? = some p) (d : PD) (h : InvA a) : InvA (newsA a i p d) := by
  have hm := hearW_mem p (vecD d) d.age a.cf
  have h01 := hear_01 p (vecD d) d.age a.cf
  obtain ⟨k1, k2, k3⟩ := hear_keep p (vecD d) d.age a.cf
  unfold newsA
  generalize hearW p (vecD d) d.age a.cf = w at *
  generalize hearP p (vecD d) d.age a.cf = q at *
  have hold : w = 0 ∨ w = 1 → SameE a (setA a i q) := fun hw => by rw [h01 hw]; exact ⟨rfl, by show (a.ps.set i p).map ess = _; rw [set_self hp]⟩
  have hnew : InvA (chooseA (setA a i q)) := choose_inv (weak_set h.weak (by
    have := h.weak p (List.mem_of_getElem? hp)
    rw [k1, k2, k3]; exact this))
  rcases hm with rfl | rfl | rfl | rfl
  · exact h.same (hold (.inl rfl))
  · simp only [beq_self_eq_true, if_true]
    split
    · exact h.same ((hold (.inr rfl)).trans ⟨rfl, rfl⟩)
    · exact h.same (hold (.inr rfl))
  all_goals
    simp only [Int.reduceBEq, Bool.or_true, Bool.true_or, Bool.or_false, Bool.false_or, Bool.false_eq_true, if_false, if_true]
    repeat' split
    all_goals first | exact hnew | exact hnew.same (same_agree _ _)
theorem same_unplain {a : AS} {i : Nat} {p : PE} (hp : a.ps[i]? = some p) : SameE a (setA a i (unplain p)) := same_set hp rfl
theorem same_hear1 {a : AS} {i : Nat} {p : PE} (hp : a.ps[i]? = some p) (d : PD) : SameE a (hear1 a i p d) := by
  unfold hear1
  by_cases hk : (if d.kind == 128 then true else d.top) = true
  · rw [if_pos hk]; exact (same_unplain hp).trans (same_itA (same_spr _ _) _ _)
  · rw [if_neg hk]; exact same_unplain hp
theorem inv_hear2 {c : AS} (i : Nat) (d : PD) (h : InvA c) : InvA (hear2 c i d) := by
  unfold hear2
  split
  · exact h
  · cases hp2 : c.ps[i]? with
    | none => exact h
    | some p2 =>
      simp only []
      by_cases hk : (if d.kind == 2 then (if d.role == 2 then true else d.role == 1) else false) = true
      · rw [if_pos hk]; exact h.same (same_reply hp2 d)
      · rw [if_neg hk]; exact inv_news hp2 d h
theorem inv_hear {a : AS} (port : Int) (d : PD) (h : InvA a) : InvA (hearT a port d) := by
  unfold hearT
  split
  · exact h
  split
  · exact h
  cases hp : a.ps[(port - 1).toNat]? with
  | none => exact h
  | some p =>
    simp only []
    split
    · exact inv_hear2 _ d (h.same (same_hear1 hp d))
    · exact h
theorem InvA.noT {a : AS} (h : InvA a) : InvA (Ev.noT a) := ⟨h.ro, h.lead, h.des, h.root⟩
end Go.Ev
