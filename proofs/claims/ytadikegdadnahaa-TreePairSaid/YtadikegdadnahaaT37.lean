/- A part of the proof: contracts of the functions that the statement reaches. -/
import Derived.Test.YtadikegdadnahaaT36
namespace Go.Ev
open Go.Proofs
set_option maxRecDepth 100000
set_option linter.unusedSimpArgs false
set_option linter.unusedVariables false
set_option maxHeartbeats 4000000
/-! ### the greater bridge -/
def OwnV (v : V4) : Prop := 2 < v.r ∨ v.r = 2 ∧ 0 < v.c
def TP (t : TE) : Prop := t.d.kind = 2 ∧ (t.d.role = 1 ∨ t.d.role = 2 ∨ t.d.role = 3 ∧ OwnV (vecD t.d))
structure YP (k : Nat) (p : PE) : Prop where
  on : onP p = true
  cost : 1 ≤ p.cost ∧ p.cost ≤ 4
  nf : p.nf = 0 ∨ p.nf = 1 ∨ p.nf = 2
  hd : p.nf = 2 → p.v = ⟨2, 0, 2, (k : Int) + 1⟩ ∧ 0 ≤ p.life ∧ p.life ≤ 6
  own : p.nf = 1 → OwnV p.v
structure YW (b : AS) : Prop where
  id : b.cf.id = 3
  ma : b.cf.ma = 9
  he : b.cf.he = 2
  p : ∀ (k : Nat) (p : PE), b.ps[k]? = some p → YP k p
  told : ∀ t ∈ b.told, TP t
structure YI (b : AS) : Prop extends YW b where
  des : ∀ p ∈ b.ps, p.ro = 4 → p.nf = 1
theorem ky_eq {p q : PE} (h : ky p = ky q) : onP q = onP p ∧ q.ro = p.ro ∧ q.nf = p.nf ∧ q.v = p.v ∧ q.cost = p.cost ∧ q.life = p.life := by
  simp only [ky, Prod.mk.injEq] at h
  obtain ⟨h1, h2, h3, h4, h5, h6, h7, h8⟩ := h
  exact ⟨by simp only [onP, h1, h2], h3.symm, h4.symm, h5.symm, h6.symm, h8.symm⟩
theorem YP.to {k : Nat} {p q : PE} (h : YP k p) (e : ky p = ky q) : YP k q := by
  obtain ⟨e1, e2, e3, e4, e5, e6⟩ := ky_eq e
  exact ⟨e1.trans h.on, by rw [e5]; exact h.cost, by rw [e3]; exact h.nf, by rw [e3, e4, e6]; exact h.hd, by rw [e3, e4]; exact h.own⟩
theorem YW.to {a b : AS} (h : YW a) (g : KY a b) : YW b := ⟨by rw [g.cf]; exact h.id, by rw [g.cf]; exact h.ma, by rw [g.cf]; exact h.he, fun k q hq => by
  obtain ⟨p, hp, e⟩ := g.get hq
  exact (h.p k p hp).to e, by rw [g.told]; exact h.told⟩
theorem YI.to {a b : AS} (h : YI a) (g : KY a b) : YI b := ⟨h.toYW.to g, fun q hq h4 => by
  obtain ⟨k, hk⟩ := List.mem_iff_getElem?.1 hq
  obtain ⟨p, hp, e⟩ := g.get hk
  obtain ⟨e1, e2, e3, e4, e5, e6⟩ := ky_eq e
  rw [e3]; exact h.des p (List.mem_of_getElem? hp) (by rw [← e2]; exact h4)⟩
def lk (p : PE) : Option Int := if p.nf = 2 then some p.life else none
def LK (a : AS) : List (Option Int) := a.ps.map lk
theorem LK_to {a b : AS} (g : KY a b) : LK b = LK a := by
  refine List.ext_getElem? fun k => ?_
  unfold LK
  rw [List.getElem?_map, List.getElem?_map]
  cases hq : b.ps[k]? with
  | none =>
    have : a.ps[k]? = none := by rw [List.getElem?_eq_none_iff] at *; rw [← g.len]; exact hq
    rw [this]
  | some q =>
    obtain ⟨p, hp, e⟩ := g.get hq
    obtain ⟨e1, e2, e3, e4, e5, e6⟩ := ky_eq e
    rw [hp]; simp only [Option.map_some, lk, e3, e6]
theorem plusI_0 {c : Int} (h : 1 ≤ c ∧ c ≤ 4) : plusI 0 c = c := by
  have : c = 1 ∨ c = 2 ∨ c = 3 ∨ c = 4 := by omega
  rcases this with rfl | rfl | rfl | rfl <;> decide
theorem y_best {b : AS} (h : YW b) : ∀ i, (bestW b.cf.id (ptsA b) i).n = 0 ∨ ((bestW b.cf.id (ptsA b) i).v.r = 2 ∧ 0 < (bestW b.cf.id (ptsA b) i).v.c)
  | 0 => .inl rfl
  | i + 1 => by
    have ih := y_best h i
    unfold bestW
    cases hx : (ptsA b)[i]? with
    | none => exact ih
    | some x =>
      simp only []
      have hi : i < b.ps.length := by rw [← ptsA_len]; exact (List.getElem?_eq_some_iff.1 hx).1
      obtain ⟨p, hp⟩ : ∃ p, b.ps[i]? = some p := ⟨_, List.getElem?_eq_getElem hi⟩
      have hpt := ptsA_get hp
      rw [hx] at hpt
      cases hpt
      have hP := h.p i p hp
      unfold stepW
      cases hw : isWay b.cf.id (ptOf p i) with
      | false => exact ih
      | true =>
        have hn : p.nf = 2 := by
          simp only [isWay, ptOf, Bool.and_eq_true] at hw
          simpa using hw.2.1
        have hv := (hP.hd hn).1
        have e : (wayV (ptOf p i)).r = 2 ∧ 0 < (wayV (ptOf p i)).c := by
          simp only [wayV, ptOf, plusV, hv]
          rw [plusI_0 hP.cost]
          have := hP.cost; simp only [true_and]; omega
        simp only [if_true]
        repeat' split
        · exact .inr e
        · exact .inr e
        · exact ih
theorem y_own {b : AS} (h : YW b) (x : PT) : OwnV (tellI b.cf.id (hA b) x) := by
  unfold hA chS tellI OwnV
  split
  · rename_i hc
    rcases y_best h (ptsA b).length with h0 | ⟨h1, h2⟩
    · omega
    · exact .inr ⟨h1, h2⟩
  · left; show 2 < b.cf.id; rw [h.id]; decide
theorem y_bet {v : V4} (k : Nat) (h : OwnV v) : betV ⟨2, 0, 2, (k : Int) + 1⟩ v = true := by
  rw [bet_iff]; unfold OwnV at h; show 2 < v.r ∨ 2 = v.r ∧ (0 < v.c ∨ _); omega
theorem y_role {b : AS} (h : YW b) {k : Nat} {p : PE} (hp : b.ps[k]? = some p) (hn : p.nf = 2) : (rolesA b)[k]? = some (if (k : Int) + 1 = (hA b).n then 3 else 1) := by
  have hP := h.p k p hp
  obtain ⟨hv, _⟩ := hP.hd hn
  rw [rolesA_get hp]
  have hb : betV p.v (tellI b.cf.id (hA b) (ptOf p k)) = true := by rw [hv]; exact y_bet k (y_own h _)
  have hb2 : (p.v.b == b.cf.id) = false := by rw [hv, h.id]; rfl
  unfold roleI
  have ho := hP.on
  simp only [ptOf, hn, beq_self_eq_true, hb2, ho] at *
  rw [hb]
  by_cases e : (k : Int) + 1 = (hA b).n
  · simp [e]
  · simp [e]
theorem as_life (p : PE) (r : Int) (t : V4) (c : CF) (h : r ≠ 4) : (asP p r t c).life = p.life := by
  unfold asP
  have h4 : (r == 4) = false := by simpa using h
  rw [h4]
  repeat' split
  all_goals first | rfl | contradiction
theorem getD_of {α : Type} {l : List α} {k : Nat} {x d : α} (h : l[k]? = some x) : l.getD k d = x := by rw [List.getD_eq_getElem?_getD, h]; rfl
/-- Choosing, at the greater bridge. -/
theorem y_choose {b : AS} (h : YW b) : YI (chooseA b) ∧ LK (chooseA b) = LK b := by
  obtain ⟨c2, h1, _, h3⟩ := choose_form b
  have hport : ∀ (k : Nat) (q : PE), (itA (asI (rolesA b) (tellsA b)) b b.ps.length).ps[k]? = some q → YP k q ∧ (q.ro = 4 → q.nf = 1) ∧ (∃ p, b.ps[k]? = some p ∧ lk q = lk p) ∧ ((rolesA b).getD k 0 = 4 → q.ro = 4) := fun k q hq => by
    rw [(itA_as _ _ _ _ _).2] at hq
    cases hp : b.ps[k]? with
    | none => rw [hp] at hq; split at hq <;> cases hq
    | some p =>
      have hk : k < b.ps.length := (List.getElem?_eq_some_iff.1 hp).1
      rw [if_pos hk, hp] at hq
      cases hq
      have hP := h.p k p hp
      have hT : OwnV ((tellsA b).getD k ⟨0, 0, 0, 0⟩) := by rw [getD_of (tellsA_get hp)]; exact y_own h _
      obtain ⟨k1, k2, k3⟩ := as_keep p ((rolesA b).getD k 0) ((tellsA b).getD k ⟨0, 0, 0, 0⟩) b.cf
      have kr := as_ro p ((rolesA b).getD k 0) ((tellsA b).getD k ⟨0, 0, 0, 0⟩) b.cf
      by_cases h4 : (rolesA b).getD k 0 = 4
      · rw [h4] at k1 k2 k3 kr ⊢
        obtain ⟨n1, n2⟩ := as_4 p ((tellsA b).getD k ⟨0, 0, 0, 0⟩) b.cf
        have hn : p.nf ≠ 2 := fun hn => by
          have := y_role h hp hn
          rw [getD_of this] at h4
          split at h4 <;> cases h4
        refine ⟨⟨k1.trans hP.on, by rw [k2]; exact hP.cost, .inr (.inl n1), fun hn => ?_, fun _ => by rw [n2]; exact hT⟩, fun _ => n1, ⟨p, rfl, ?_⟩, fun _ => kr⟩
        · rw [n1] at hn; cases hn
        · unfold lk; rw [n1, if_neg hn]; rfl
      · obtain ⟨n1, n2⟩ := as_not4 p _ ((tellsA b).getD k ⟨0, 0, 0, 0⟩) b.cf h4
        have n3 := as_life p _ ((tellsA b).getD k ⟨0, 0, 0, 0⟩) b.cf h4
        refine ⟨⟨k1.trans hP.on, by rw [k2]; exact hP.cost, by rw [n1]; exact hP.nf, by rw [n1, n2, n3]; exact hP.hd, by rw [n1, n2]; exact hP.own⟩, fun e => absurd (kr.symm.trans e) h4, ⟨p, rfl, by unfold lk; rw [n1, n3]⟩, fun e => absurd e h4⟩
  have hcf := (itA_as (rolesA b) (tellsA b) b b.ps.length 0).1
  have hlen : (itA (asI (rolesA b) (tellsA b)) b b.ps.length).ps.length = b.ps.length := by
    refine Nat.le_antisymm ?_ ?_
    · refine Nat.le_of_not_lt fun hl => ?_
      have := (itA_as (rolesA b) (tellsA b) b b.ps.length b.ps.length).2
      rw [if_neg (Nat.lt_irrefl _), List.getElem?_eq_none_iff.2 (Nat.le_refl _)] at this
      rw [List.getElem?_eq_none_iff] at this; omega
    · refine Nat.le_of_not_lt fun hl => ?_
      have := (itA_as (rolesA b) (tellsA b) b b.ps.length (itA (asI (rolesA b) (tellsA b)) b b.ps.length).ps.length).2
      rw [if_pos hl, List.getElem?_eq_none_iff.2 (Nat.le_refl _), List.getElem?_eq_getElem hl] at this
      cases this
  have hc1 : YI (itA (asI (rolesA b) (tellsA b)) b b.ps.length) := ⟨⟨by rw [hcf]; exact h.id, by rw [hcf]; exact h.ma, by rw [hcf]; exact h.he, fun k q hq => (hport k q hq).1, by rw [(itA_asI_told _ _ _ _).1]; exact h.told⟩, fun q hq => by
    obtain ⟨k, hk⟩ := List.mem_iff_getElem?.1 hq
    exact (hport k q hk).2.1⟩
  have hc2 := hc1.to h1
  have hL : LK (itA (asI (rolesA b) (tellsA b)) b b.ps.length) = LK b := by
    refine List.ext_getElem? fun k => ?_
    unfold LK
    rw [List.getElem?_map, List.getElem?_map]
    cases hq : (itA (asI (rolesA b) (tellsA b)) b b.ps.length).ps[k]? with
    | none =>
      have : b.ps[k]? = none := by rw [List.getElem?_eq_none_iff] at *; rw [← hlen]; exact hq
      rw [this]
    | some q =>
      obtain ⟨_, _, ⟨p, hp, e⟩, _⟩ := hport k q hq
      rw [hp]; simp only [Option.map_some, e]
  rw [h3]
  refine ⟨⟨⟨hc2.id, hc2.ma, hc2.he, hc2.p, fun t ht => ?_⟩, hc2.des⟩, (LK_to h1).trans hL⟩
  rcases List.mem_append.1 ht with ht | ht
  · exact hc2.told t ht
  · obtain ⟨k, p, hb, hp, rfl⟩ := tlN_mem _ ht
    obtain ⟨p0, hp0, ha⟩ := anewN_true _ hb
    have h4 := asA_4 ha
    obtain ⟨q, hq, e⟩ := h1.get hp
    have hq4 := (hport k q hq).2.2.2 h4
    obtain ⟨e1, e2, e3, e4, e5, e6⟩ := ky_eq e
    have hn := hc2.des p (List.mem_of_getElem? hp) (by rw [e2]; exact hq4)
    exact ⟨rfl, .inr (.inr ⟨rfl, (hc2.p k p hp).own hn⟩)⟩
theorem y_agree {b : AS} (h : YI b) (i : Nat) : YI (agreeA b i) ∧ LK (agreeA b i) = LK b ∧ ∃ e, (agreeA b i).told = b.told ++ e ∧ e.length ≤ 1 ∧ ∀ t ∈ e, t.d.role ≠ 3 := by
  have g := ky_blk b i
  have h1 := h.to g
  unfold agreeA
  split
  · rename_i p hp
    have hr : (agrD p).role = 1 ∨ (agrD p).role = 2 := by
      unfold agrD pduV
      simp only []
      split
      · exact .inr rfl
      · exact .inl rfl
    refine ⟨⟨⟨h1.id, h1.ma, h1.he, h1.p, fun t ht => ?_⟩, h1.des⟩, (LK_to g :), [⟨(i : Int) + 1, agrD p⟩], ?_, Nat.le_refl _, fun t ht => ?_⟩
    · rcases List.mem_append.1 ht with ht | ht
      · exact h1.told t ht
      · rcases List.mem_singleton.1 ht with rfl
        exact ⟨rfl, hr.elim .inl fun h => .inr (.inl h)⟩
    · show (itA (blkI i) b b.ps.length).told ++ [_] = _
      rw [g.told]
    · rcases List.mem_singleton.1 ht with rfl
      intro e; rw [e] at hr; omega
  · exact ⟨h1, LK_to g, [], by rw [g.told, List.append_nil], Nat.zero_le _, fun _ h => by cases h⟩
theorem y_hearW {k : Nat} {p : PE} {c : CF} (h : YP k p) (hm : c.ma = 9) : hearW p ⟨2, 0, 2, (k : Int) + 1⟩ 0 c = 2 ∨ hearW p ⟨2, 0, 2, (k : Int) + 1⟩ 0 c = 3 := by
  unfold hearW
  have h0 : (!(onP p) || (decide ((0 : Int) < 0) || decide (c.ma ≤ 0))) = false := by rw [h.on, hm]; rfl
  rw [h0]
  rcases h.nf with e | e | e
  · simp [e]
  · have hb := y_bet k (h.own e)
    simp [e, hb]
  · obtain ⟨hv, _⟩ := h.hd e
    simp [anewP, e, hv]
theorem hearP_23 {p : PE} {v : V4} {g : Int} {c : CF} (h : hearW p v g c = 2 ∨ hearW p v g c = 3) : hearP p v g c = { p with nf := 2, v := v, age := g, life := IntKind.i64.wrap (3 * c.he) } := by
  unfold hearP
  rcases h with h | h <;> rw [h] <;> rfl
theorem news_form {a : AS} {i : Nat} {p : PE} {d : PD} (h : hearW p (vecD d) d.age a.cf = 2 ∨ hearW p (vecD d) d.age a.cf = 3) : newsA a i p d = chooseA (setA a i (hearP p (vecD d) d.age a.cf)) ∨ newsA a i p d = agreeA (chooseA (setA a i (hearP p (vecD d) d.age a.cf))) i := by
  unfold newsA
  have h1 : (hearW p (vecD d) d.age a.cf == 1) = false := by rcases h with h | h <;> rw [h] <;> rfl
  have h2 : (hearW p (vecD d) d.age a.cf == 2 || hearW p (vecD d) d.age a.cf == 3) = true := by rcases h with h | h <;> rw [h] <;> rfl
  rw [h1, h2]
  simp only [Bool.false_eq_true, if_false, if_true]
  repeat' split
  all_goals first | exact .inl rfl | exact .inr rfl
/-- A letter of the lesser bridge. -/
structure TT (n : Nat) (port : Int) (d : PD) : Prop where
  ge : 1 ≤ port
  le : port ≤ (n : Int)
  kind : d.kind = 2
  role : d.role = 3
  vec : vecD d = ⟨2, 0, 2, port⟩
  age : d.age = 0
theorem y_news {a : AS} {i : Nat} {p : PE} {d : PD} (h : YI a) (hp : a.ps[i]? = some p) (hv : vecD d = ⟨2, 0, 2, (i : Int) + 1⟩) (ha : d.age = 0) : YI (newsA a i p d) ∧ LK (newsA a i p d) = (LK a).set i (some 6) ∧ (InvA a → p.nf = 2 → ∃ e, (newsA a i p d).told = a.told ++ e ∧ e.length ≤ 1 ∧ ∀ t ∈ e, t.d.role ≠ 3) := by
  have hP := h.p i p hp
  have hw : hearW p (vecD d) d.age a.cf = 2 ∨ hearW p (vecD d) d.age a.cf = 3 := by rw [hv, ha]; exact y_hearW hP h.ma
  have hq := hearP_23 hw
  have hl : IntKind.i64.wrap (3 * a.cf.he) = 6 := by rw [h.he]; rfl
  rw [hl] at hq
  have hY : YW (setA a i (hearP p (vecD d) d.age a.cf)) := ⟨h.id, h.ma, h.he, fun k q hk => by
    by_cases e : i = k
    · subst e
      have : (setA a i (hearP p (vecD d) d.age a.cf)).ps[i]? = some (hearP p (vecD d) d.age a.cf) := List.getElem?_set_self (List.getElem?_eq_some_iff.1 hp).1
      rw [this] at hk
      cases hk
      rw [hq]
      exact ⟨hP.on, hP.cost, .inr (.inr rfl), fun _ => ⟨hv, by show (0 : Int) ≤ 6; decide, by show (6 : Int) ≤ 6; decide⟩, fun e => by cases e⟩
    · have : (setA a i (hearP p (vecD d) d.age a.cf)).ps[k]? = a.ps[k]? := List.getElem?_set_ne e
      rw [this] at hk; exact h.p k q hk, h.told⟩
  have hL : LK (setA a i (hearP p (vecD d) d.age a.cf)) = (LK a).set i (some 6) := by
    unfold LK setA
    rw [List.map_set]
    have : lk (hearP p (vecD d) d.age a.cf) = some 6 := by rw [hq]; rfl
    rw [this]
  obtain ⟨hc, hcL⟩ := y_choose hY
  obtain ⟨hg, hgL, hgn⟩ := y_agree hc i
  have ht : InvA a → p.nf = 2 → (chooseA (setA a i (hearP p (vecD d) d.age a.cf))).told = a.told := fun hi hn => by
    have hs : SameE a (setA a i (hearP p (vecD d) d.age a.cf)) := same_set hp (by rw [hq]; simp only [ess, hn, (hP.hd hn).1, hv])
    exact choose_told (hi.same hs)
  rcases news_form (i := i) hw with e | e <;> rw [e]
  · exact ⟨hc, hcL.trans hL, fun hi hn => ⟨[], by rw [ht hi hn, List.append_nil], Nat.zero_le _, fun _ h => by cases h⟩⟩
  · exact ⟨hg, (hgL.trans hcL).trans hL, fun hi hn => by rw [← ht hi hn]; exact hgn⟩
/-- What the greater bridge makes of a letter of the lesser one. -/
theorem y_hear {b : AS} {port : Int} {d : PD} (h : YI b) (ht : TT b.ps.length port d) : YI (hearT b port d) ∧ LK (hearT b port d) = (LK b).set (port - 1).toNat (some 6) ∧ (InvA b → (LK b)[(port - 1).toNat]? ≠ some none → ∃ e, (hearT b port d).told = b.told ++ e ∧ e.length ≤ 1 ∧ ∀ t ∈ e, t.d.role ≠ 3) := by
  have h1 := ht.ge
  have h2 := ht.le
  have hi : (port - 1).toNat < b.ps.length := by omega
  have hport : (((port - 1).toNat : Nat) : Int) + 1 = port := by omega
  obtain ⟨p, hp⟩ : ∃ p, b.ps[(port - 1).toNat]? = some p := ⟨_, List.getElem?_eq_getElem hi⟩
  have hv : vecD d = ⟨2, 0, 2, (((port - 1).toNat : Nat) : Int) + 1⟩ := by rw [hport]; exact ht.vec
  unfold hearT
  rw [if_neg (by simp; omega), if_neg (by simp; omega), hp]
  simp only [(h.p _ p hp).on, if_true]
  generalize (port - 1).toNat = i at *
  have g : KY b (hear1 b i p d) := kf_hear1 ky_ch (fun _ => rfl) hp d
  have gs := same_hear1 hp d
  have hy := h.to g
  have hL := LK_to g
  have ht0 := g.told
  cases hp2 : (hear1 b i p d).ps[i]? with
  | none => rw [List.getElem?_eq_none_iff, g.len] at hp2; omega
  | some p2 =>
    obtain ⟨n1, n2, n3⟩ := y_news hy hp2 hv ht.age
    have e : hear2 (hear1 b i p d) i d = newsA (hear1 b i p d) i p2 d := by
      unfold hear2
      rw [hp2, ht.kind, ht.role]; rfl
    rw [e]
    refine ⟨n1, by rw [n2, hL], fun hiv hn => ?_⟩
    rw [← ht0]
    refine n3 (hiv.same gs) ?_
    rw [← hL] at hn
    unfold LK at hn
    rw [List.getElem?_map, hp2] at hn
    simp only [Option.map_some, lk] at hn
    refine Decidable.by_contra fun hc => hn ?_
    rw [if_neg hc]
/-! ### a tick of the greater bridge -/
def fadeK : Option Int → Option Int
  | some l => if 1 < l then some (l - 1) else none
  | none => none
theorem lk_fade {k : Nat} {p : PE} (h : YP k p) : lk (fade2 p) = fadeK (lk p) ∧ YP k (fade2 p) := by
  have hf : lk (fadeP p).1 = fadeK (lk p) ∧ YP k (fadeP p).1 := by
    unfold fadeP
    rcases h.nf with e | e | e
    · rw [if_neg (by rw [e]; decide)]; exact ⟨by simp [lk, e, fadeK], h⟩
    · rw [if_neg (by rw [e]; decide)]; exact ⟨by simp [lk, e, fadeK], h⟩
    · obtain ⟨hv, hl⟩ := h.hd e
      have hw : IntKind.i64.wrap (p.life - 1) = p.life - 1 := wr_i64 (by omega) (by omega)
      rw [if_pos (by rw [e]; decide), hw]
      by_cases hc : 0 < p.life - 1
      · rw [if_pos (decide_eq_true hc)]
        refine ⟨?_, ⟨h.on, h.cost, h.nf, fun _ => ⟨hv, by show 0 ≤ p.life - 1; omega, by show p.life - 1 ≤ 6; omega⟩, h.own⟩⟩
        simp only [lk, e, if_true, fadeK]
        rw [if_pos (by omega)]
      · rw [if_neg (by simpa using hc)]
        refine ⟨?_, ⟨h.on, h.cost, .inl rfl, (fun e => by cases e), (fun e => by cases e)⟩⟩
        simp only [lk, e, if_true, fadeK, forgetP]
        rw [if_neg (by omega)]; rfl
  unfold fade2
  split
  · exact ⟨hf.1, ⟨hf.2.on, hf.2.cost, hf.2.nf, hf.2.hd, hf.2.own⟩⟩
  · exact hf
theorem itA_map (g : CF → PE → PE) (a : AS) : ∀ i k, (itA (fun b i p => setA b i (g b.cf p)) a i).cf = a.cf ∧ (itA (fun b i p => setA b i (g b.cf p)) a i).told = a.told ∧ (itA (fun b i p => setA b i (g b.cf p)) a i).beat = a.beat ∧ ((itA (fun b i p => setA b i (g b.cf p)) a i).ps[k]? = if k < i then (a.ps[k]?).map (g a.cf) else a.ps[k]?)
  | 0, k => ⟨rfl, rfl, rfl, by simp [itA]⟩
  | i + 1, k => by
    obtain ⟨h1, h2, h3, _⟩ := itA_map g a i k
    have h4 := fun k => (itA_map g a i k).2.2.2
    have hi := h4 i
    rw [if_neg (Nat.lt_irrefl i)] at hi
    unfold itA
    cases hp : a.ps[i]? with
    | none =>
      rw [hi, hp]
      refine ⟨h1, h2, h3, ?_⟩
      show (itA (fun b i p => setA b i (g b.cf p)) a i).ps[k]? = _
      rw [h4 k]
      by_cases hk : k < i
      · rw [if_pos hk, if_pos (by omega)]
      · rw [if_neg hk]
        have hk2 : a.ps[k]? = none := by rw [List.getElem?_eq_none_iff] at *; omega
        rw [hk2]; split <;> rfl
    | some p =>
      rw [hi, hp]
      refine ⟨h1, h2, h3, ?_⟩
      show ((itA (fun b i p => setA b i (g b.cf p)) a i).ps.set i (g (itA (fun b i p => setA b i (g b.cf p)) a i).cf p))[k]? = _
      rw [h1]
      have hlt : i < (itA (fun b i p => setA b i (g b.cf p)) a i).ps.length := (List.getElem?_eq_some_iff.1 (hi.trans hp)).1
      by_cases e : i = k
      · subst e
        rw [List.getElem?_set_self hlt, if_pos (by omega), hp]; rfl
      · rw [List.getElem?_set_ne e, h4 k]
        by_cases hk : k < i
        · rw [if_pos hk, if_pos (by omega)]
        · rw [if_neg hk, if_neg (by omega)]
theorem itA_mapL (g : CF → PE → PE) (a : AS) : (itA (fun b i p => setA b i (g b.cf p)) a a.ps.length).ps = a.ps.map (g a.cf) := by
  refine List.ext_getElem? fun k => ?_
  rw [(itA_map g a _ k).2.2.2, List.getElem?_map]
  by_cases hk : k < a.ps.length
  · rw [if_pos hk]
  · rw [if_neg hk, List.getElem?_eq_none_iff.2 (by omega)]; rfl
theorem y_tick {b : AS} (h : YI b) : YI (tickA b) ∧ LK (tickA b) = (LK b).map fadeK := by
  have hm := itA_map (fun _ => fade2) b b.ps.length
  have hp := itA_mapL (fun _ => fade2) b
  have hY : YW (itA tick1I b b.ps.length) := ⟨by rw [show (itA tick1I b b.ps.length).cf = b.cf from (hm 0).1]; exact h.id, by rw [show (itA tick1I b b.ps.length).cf = b.cf from (hm 0).1]; exact h.ma, by rw [show (itA tick1I b b.ps.length).cf = b.cf from (hm 0).1]; exact h.he, fun k q hq => by
    rw [show (itA tick1I b b.ps.length).ps = b.ps.map fade2 from hp, List.getElem?_map] at hq
    cases hk : b.ps[k]? with
    | none => rw [hk] at hq; cases hq
    | some p => rw [hk] at hq; cases hq; exact (lk_fade (h.p k p hk)).2, by rw [show (itA tick1I b b.ps.length).told = b.told from (hm 0).2.1]; exact h.told⟩
  have hL : LK (itA tick1I b b.ps.length) = (LK b).map fadeK := by
    unfold LK
    rw [show (itA tick1I b b.ps.length).ps = b.ps.map fade2 from hp, List.map_map, List.map_map]
    refine List.map_congr_left fun p hp => ?_
    obtain ⟨k, hk⟩ := List.mem_iff_getElem?.1 hp
    exact (lk_fade (h.p k p hk)).1
  obtain ⟨c1, c2⟩ := y_choose hY
  unfold tickA tick2
  generalize chooseA (itA tick1I b b.ps.length) = c at *
  have g1 : KY c (itA stI c c.ps.length) := ky_st c
  have g2 : KY c (allA changedI (stepN b.ps.length c c.ps.length) (itA stI c c.ps.length) c.ps.length) := g1.trans (kf_allA (kf_changedI ky_ch) _ _ _)
  have h2 := c1.to g2
  have l2 := LK_to g2
  have hend : tick2 b.ps.length c = beatA (allA changedI (stepN b.ps.length c c.ps.length) (itA stI c c.ps.length) c.ps.length) := rfl
  generalize (allA changedI (stepN b.ps.length c c.ps.length) (itA stI c c.ps.length) c.ps.length) = e at *
  unfold beatA
  split
  · exact ⟨⟨⟨h2.id, h2.ma, h2.he, h2.p, h2.told⟩, h2.des⟩, (l2.trans c2).trans hL⟩
  · rw [itA_beat]
    refine ⟨⟨⟨h2.id, h2.ma, h2.he, h2.p, fun t ht => ?_⟩, h2.des⟩, (l2.trans c2).trans hL⟩
    rcases List.mem_append.1 ht with ht | ht
    · exact h2.told t ht
    · obtain ⟨k, p, hp, ⟨h4, rfl⟩ | ⟨h3, rfl⟩⟩ := btN_mem _ ht
      · have hn := h2.des p (List.mem_of_getElem? hp) h4
        exact ⟨rfl, .inr (.inr ⟨rfl, (h2.p k p hp).own hn⟩)⟩
      · exact ⟨rfl, .inr (.inl rfl)⟩
theorem YI.noT {b : AS} (h : YI b) : YI (Ev.noT b) := ⟨⟨h.id, h.ma, h.he, h.p, fun _ h => by cases h⟩, h.des⟩
end Go.Ev
