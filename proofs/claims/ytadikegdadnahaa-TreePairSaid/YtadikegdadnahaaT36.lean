/- A part of the proof: contracts of the functions that the statement reaches. -/
import Derived.Test.YtadikegdadnahaaT35
namespace Go.Ev
open Go.Proofs
set_option maxRecDepth 100000
set_option linter.unusedSimpArgs false
set_option linter.unusedVariables false
set_option maxHeartbeats 4000000
/-! ### what acts leave alone of each port, told and beat -/
structure KF {α : Type} (f : PE → α) (a b : AS) : Prop where
  cf : b.cf = a.cf
  ps : b.ps.map f = a.ps.map f
  beat : b.beat = a.beat
  told : b.told = a.told
section
variable {α : Type} {f : PE → α}
theorem KF.refl (a : AS) : KF f a a := ⟨rfl, rfl, rfl, rfl⟩
theorem KF.trans {a b c : AS} (h : KF f a b) (g : KF f b c) : KF f a c := ⟨g.cf.trans h.cf, g.ps.trans h.ps, g.beat.trans h.beat, g.told.trans h.told⟩
theorem KF.len {a b : AS} (h : KF f a b) : b.ps.length = a.ps.length := by have := congrArg List.length h.ps; simpa using this
theorem KF.get {a b : AS} (h : KF f a b) {k : Nat} {q : PE} (hq : b.ps[k]? = some q) : ∃ p, a.ps[k]? = some p ∧ f p = f q := by
  have h1 : (b.ps.map f)[k]? = some (f q) := by rw [List.getElem?_map, hq]; rfl
  rw [h.ps, List.getElem?_map] at h1
  cases hp : a.ps[k]? with
  | none => rw [hp] at h1; cases h1
  | some p => rw [hp] at h1; exact ⟨p, rfl, Option.some.inj h1⟩
theorem map_set_same {l : List PE} {i : Nat} {p q : PE} (hp : l[i]? = some p) (h : f q = f p) : (l.set i q).map f = l.map f := by
  rw [List.map_set]
  refine List.ext_getElem? fun k => ?_
  by_cases hk : i = k
  · subst hk
    have hi : i < (l.map f).length := by simpa using (List.getElem?_eq_some_iff.1 hp).1
    rw [List.getElem?_set_self hi, List.getElem?_map, hp, h]; rfl
  · rw [List.getElem?_set_ne hk]
theorem kf_set {a : AS} {i : Nat} {p q : PE} (hp : a.ps[i]? = some p) (h : f q = f p) : KF f a (setA a i q) := ⟨rfl, map_set_same hp h, rfl, rfl⟩
theorem kf_itA {g : AS → Nat → PE → AS} (hf : ∀ b i p, b.ps[i]? = some p → KF f b (g b i p)) (a : AS) : ∀ i, KF f a (itA g a i)
  | 0 => .refl a
  | i + 1 => by
    cases hp : (itA g a i).ps[i]? with
    | some p => rw [itA_next hp]; exact (kf_itA hf a i).trans (hf _ _ _ hp)
    | none => simp only [itA, hp]; exact kf_itA hf a i
theorem kf_allA {g : AS → Nat → AS} (hf : ∀ b i, KF f b (g b i)) (l : List Bool) (a : AS) : ∀ i, KF f a (allA g l a i)
  | 0 => .refl a
  | i + 1 => by unfold allA; split; exact (kf_allA hf l a i).trans (hf _ _); exact kf_allA hf l a i
variable (hc : ∀ (p : PE) (x : Int), f { p with ch := x } = f p)
include hc
theorem kf_spr (but : Int) (al : Bool) (b : AS) (i : Nat) (p : PE) (hp : b.ps[i]? = some p) : KF f b (sprI but al b i p) := by
  unfold sprI
  repeat' split
  all_goals first | exact .refl b | exact ⟨rfl, rfl, rfl, rfl⟩ | exact ⟨rfl, map_set_same hp (hc _ _), rfl, rfl⟩
theorem kf_changed {a : AS} {i : Nat} {p : PE} (hp : a.ps[i]? = some p) : KF f a (changedA a i p) := by
  unfold changedA; split
  · exact .refl a
  · exact (show KF f a (chA a i p) from ⟨rfl, map_set_same hp (hc _ _), rfl, rfl⟩).trans (kf_itA (kf_spr hc _ _) _ _)
theorem kf_changedI (a : AS) (i : Nat) : KF f a (changedI a i) := by
  unfold changedI; split
  · rename_i p hp; exact kf_changed hc hp
  · exact .refl a
theorem kf_hear1 (hu : ∀ p : PE, f (unplain p) = f p) {a : AS} {i : Nat} {p : PE} (hp : a.ps[i]? = some p) (d : PD) : KF f a (hear1 a i p d) := by
  unfold hear1
  by_cases hk : (if d.kind == 128 then true else d.top) = true
  · rw [if_pos hk]; exact (kf_set hp (hu p)).trans (kf_itA (kf_spr hc _ _) _ _)
  · rw [if_neg hk]; exact kf_set hp (hu p)
end
/-- All that counts of a port here but for its state and the clocks. -/
def ky (p : PE) : Bool × Bool × Int × Int × V4 × Int × Int × Int := (p.up, p.ad, p.ro, p.nf, p.v, p.cost, p.prio, p.life)
abbrev KY := KF ky
theorem ky_ch (p : PE) (x : Int) : ky { p with ch := x } = ky p := rfl
theorem ky_step (p : PE) (c : CF) : ky (stepP p c) = ky p := by
  unfold stepP
  repeat' split
  all_goals rfl
theorem ky_agree (p : PE) : ky (agreeP p) = ky p := by unfold agreeP; split <;> rfl
theorem ky_block (p : PE) (c : CF) : ky (blockP p c) = ky p := by unfold blockP; split <;> rfl
theorem ky_reply {a : AS} {i : Nat} {p : PE} (hp : a.ps[i]? = some p) (d : PD) : KY a (replyA a i p d) := by
  have h1 : KY a (setA a i (agreeP p)) := kf_set hp (ky_agree p)
  unfold replyA
  repeat' split
  · exact h1.trans (kf_changed ky_ch (by simp [setA, (List.getElem?_eq_some_iff.1 hp).1]))
  · exact h1
  all_goals exact .refl a
theorem ky_blk (a : AS) (i : Nat) : KY a (itA (blkI i) a a.ps.length) := kf_itA (fun b k p hp => by
  unfold blkI; split
  · exact .refl b
  · exact kf_set hp (ky_block _ _)) _ _
theorem ky_st (a : AS) : KY a (itA stI a a.ps.length) := kf_itA (fun b k p hp => kf_set hp (ky_step _ _)) _ _
/-! ### what is told -/
def tlN (bl : List Bool) (a : AS) : Nat → List TE
  | 0 => []
  | i + 1 => if bl[i]? = some true then (match a.ps[i]? with | some p => tlN bl a i ++ [⟨(i : Int) + 1, tellD a p⟩] | none => tlN bl a i) else tlN bl a i
theorem allA_tell (bl : List Bool) (a : AS) : ∀ i, allA tellI2 bl a i = { a with told := a.told ++ tlN bl a i }
  | 0 => by simp [allA, tlN]
  | i + 1 => by
    unfold allA tlN
    rw [allA_tell bl a i]
    split
    · unfold tellI2
      simp only []
      cases hp : a.ps[i]? with
      | none => rfl
      | some p => simp only [tellA, sendA, tellD, List.append_assoc]
    · rfl
theorem tlN_mem {bl : List Bool} {a : AS} {t : TE} : ∀ i, t ∈ tlN bl a i → ∃ (k : Nat) (p : PE), bl[k]? = some true ∧ a.ps[k]? = some p ∧ t = ⟨(k : Int) + 1, tellD a p⟩
  | 0, h => by cases h
  | i + 1, h => by
    unfold tlN at h
    split at h
    · rename_i hb
      cases hp : a.ps[i]? with
      | none => rw [hp] at h; exact tlN_mem i h
      | some p =>
        rw [hp] at h
        rcases List.mem_append.1 h with h | h
        · exact tlN_mem i h
        · rcases List.mem_singleton.1 h with rfl
          exact ⟨i, p, hb, hp, rfl⟩
    · exact tlN_mem i h
def btN (a : AS) : Nat → List TE
  | 0 => []
  | i + 1 => match a.ps[i]? with
    | some p => btN a i ++ (if onP p then (if p.ro == 4 then [⟨(i : Int) + 1, tellD a p⟩] else if p.ro == 3 then (if decide (0 < p.ch) then [⟨(i : Int) + 1, rootD p⟩] else []) else []) else [])
    | none => btN a i
theorem itA_beat (a : AS) : ∀ i, itA beatI a i = { a with told := a.told ++ btN a i }
  | 0 => by simp [itA, btN]
  | i + 1 => by
    unfold itA btN
    rw [itA_beat a i]
    simp only []
    cases hp : a.ps[i]? with
    | none => rfl
    | some p =>
      simp only []
      unfold beatI
      repeat' split
      all_goals simp only [tellA, sendA, tellD, List.append_assoc, List.append_nil]
theorem btN_mem {a : AS} {t : TE} : ∀ i, t ∈ btN a i → ∃ (k : Nat) (p : PE), a.ps[k]? = some p ∧ (p.ro = 4 ∧ t = ⟨(k : Int) + 1, tellD a p⟩ ∨ p.ro = 3 ∧ t = ⟨(k : Int) + 1, rootD p⟩)
  | 0, h => by cases h
  | i + 1, h => by
    unfold btN at h
    cases hp : a.ps[i]? with
    | none => rw [hp] at h; exact btN_mem i h
    | some p =>
      rw [hp] at h
      rcases List.mem_append.1 h with h | h
      · exact btN_mem i h
      · refine ⟨i, p, hp, ?_⟩
        repeat' split at h
        · rename_i h4; exact .inl ⟨by simpa using h4, List.mem_singleton.1 h⟩
        · rename_i h3 _; exact .inr ⟨by simpa using h3, List.mem_singleton.1 h⟩
        all_goals cases h
/-- Each port that is on and designated tells at a beat. -/
theorem btN_all {a : AS} {k : Nat} {p : PE} (hp : a.ps[k]? = some p) (ho : onP p = true) (h4 : p.ro = 4) : ∀ i, k < i → ⟨(k : Int) + 1, tellD a p⟩ ∈ btN a i
  | 0, h => by omega
  | i + 1, h => by
    unfold btN
    by_cases hk : k = i
    · subst hk
      rw [hp]
      simp only [ho, h4]
      simp
    · have := btN_all hp ho h4 i (by omega)
      cases hq : a.ps[i]? with
      | none => exact this
      | some q => exact List.mem_append_left _ this
/-- Which ports tell when roles are assigned: those that are designated anew. -/
theorem anewN_true {k : Nat} {R : List Int} {T : List V4} {a : AS} {j : Nat} : ∀ i, (anewN k R T a i)[j]? = some true → ∃ p, a.ps[j]? = some p ∧ asA p (R.getD j 0) (T.getD j ⟨0, 0, 0, 0⟩) = true
  | 0, h => by
    unfold anewN at h
    rw [List.getElem?_replicate] at h
    split at h
    · cases h
    · cases h
  | i + 1, h => by
    unfold anewN at h
    cases hp : (itA (asI R T) a i).ps[i]? with
    | none => rw [hp] at h; exact anewN_true i h
    | some p =>
      rw [hp] at h
      simp only [] at h
      by_cases hj : i = j
      · subst hj
        rw [(itA_as R T a i i).2, if_neg (Nat.lt_irrefl i)] at hp
        refine ⟨p, hp, ?_⟩
        rw [List.getElem?_set] at h
        simp only [if_true] at h
        split at h
        · exact Option.some.inj h
        · cases h
      · rw [List.getElem?_set_ne hj] at h
        exact anewN_true i h
theorem asA_4 {p : PE} {r : Int} {t : V4} (h : asA p r t = true) : r = 4 := by
  unfold asA at h
  split at h
  · rename_i h4; simpa using h4
  · cases h
theorem itA_asI_told (R : List Int) (T : List V4) (a : AS) : ∀ i, (itA (asI R T) a i).told = a.told ∧ (itA (asI R T) a i).beat = a.beat
  | 0 => ⟨rfl, rfl⟩
  | i + 1 => by
    unfold itA
    split
    · exact itA_asI_told R T a i
    · exact itA_asI_told R T a i
/-- The state behind the choice: ports with their roles, then ch, then what is told. -/
theorem choose_form (a : AS) : ∃ c2 : AS, KY (itA (asI (rolesA a) (tellsA a)) a a.ps.length) c2 ∧ KF (fun p => (p.ro, p.st, p.wait)) (itA (asI (rolesA a) (tellsA a)) a a.ps.length) c2 ∧ chooseA a = { c2 with told := c2.told ++ tlN (anewN a.ps.length (rolesA a) (tellsA a) a a.ps.length) c2 a.ps.length } :=
  ⟨_, kf_allA (kf_changedI ky_ch) _ _ _, kf_allA (kf_changedI (fun _ _ => rfl)) _ _ _, by unfold chooseA chooseRT; exact allA_tell _ _ _⟩
/-- Where roles are those that are chosen, nothing is told by choosing anew. -/
theorem anewN_inv {a : AS} (h : InvA a) (i j : Nat) : ¬ (anewN a.ps.length (rolesA a) (tellsA a) a i)[j]? = some true := fun hb => by
  obtain ⟨p, hp, ha⟩ := anewN_true i hb
  have h4 := asA_4 ha
  have hr := h.ro j p hp
  have hr2 : (rolesA a).getD j 0 = p.ro := by rw [List.getD_eq_getElem?_getD, hr]; rfl
  rw [hr2] at h4 ha
  obtain ⟨ht, hn⟩ := h.des j p hp h4
  have ht2 : (tellsA a).getD j ⟨0, 0, 0, 0⟩ = p.v := by rw [List.getD_eq_getElem?_getD, ht]; rfl
  rw [ht2] at ha
  simp [asA, desA, h4, hn] at ha
theorem tlN_none {bl : List Bool} {a : AS} (h : ∀ j : Nat, ¬ bl[j]? = some true) : ∀ i, tlN bl a i = []
  | 0 => rfl
  | i + 1 => by unfold tlN; rw [if_neg (h i)]; exact tlN_none h i
theorem choose_told {a : AS} (h : InvA a) : (chooseA a).told = a.told := by
  obtain ⟨c2, h1, _, h3⟩ := choose_form a
  rw [h3]
  show c2.told ++ _ = _
  rw [tlN_none (fun j => anewN_inv h _ j), List.append_nil, h1.told]
  exact (itA_asI_told _ _ _ _).1
theorem choose_beat (a : AS) : (chooseA a).beat = a.beat := by
  obtain ⟨c2, h1, _, h3⟩ := choose_form a
  rw [h3]
  exact h1.beat.trans (itA_asI_told _ _ _ _).2
theorem choose_cf (a : AS) : (chooseA a).cf = a.cf := by
  obtain ⟨c2, h1, _, h3⟩ := choose_form a
  rw [h3]
  exact h1.cf.trans (itA_as _ _ _ _ 0).1
end Go.Ev
