/- A part of the proof: contracts of the functions that the statement reaches. -/
import Derived.Test.YtadikegdadnahaaT26
namespace Go.Ev
open Go.Proofs
set_option maxRecDepth 100000
set_option linter.unusedSimpArgs false
set_option linter.unusedVariables false
set_option maxHeartbeats 4000000
/-- What no act changes. -/
structure KpA (a b : AS) : Prop where
  cn : b.cn = a.cn
  vs : b.vs = a.vs
  ss : b.ss = a.ss
  ds : b.ds = a.ds
theorem KpA.refl (a : AS) : KpA a a := ⟨rfl, rfl, rfl, rfl⟩
theorem KpA.trans {a b c : AS} (h : KpA a b) (g : KpA b c) : KpA a c := ⟨g.cn.trans h.cn, g.vs.trans h.vs, g.ss.trans h.ss, g.ds.trans h.ds⟩
theorem kp_itA {f : AS → Nat → PE → AS} (hf : ∀ b i p, KpA b (f b i p)) (a : AS) : ∀ i, KpA a (itA f a i)
  | 0 => .refl a
  | i + 1 => by
    cases hp : (itA f a i).ps[i]? with
    | some p => rw [itA_next hp]; exact (kp_itA hf a i).trans (hf _ _ _)
    | none => simp only [itA, hp]; exact kp_itA hf a i
theorem kp_allA {f : AS → Nat → AS} (hf : ∀ b i, KpA b (f b i)) (l : List Bool) (a : AS) : ∀ i, KpA a (allA f l a i)
  | 0 => .refl a
  | i + 1 => by unfold allA; split; exact (kp_allA hf l a i).trans (hf _ _); exact kp_allA hf l a i
theorem kp_spr (but : Int) (al : Bool) (b : AS) (i : Nat) (p : PE) : KpA b (sprI but al b i p) := by
  unfold sprI
  repeat' split
  all_goals exact ⟨rfl, rfl, rfl, rfl⟩
theorem kp_changed (a : AS) (i : Nat) (p : PE) : KpA a (changedA a i p) := by
  unfold changedA; split
  · exact .refl a
  · exact (show KpA a (chA a i p) from ⟨rfl, rfl, rfl, rfl⟩).trans (kp_itA (kp_spr _ _) _ _)
theorem kp_changedI (a : AS) (i : Nat) : KpA a (changedI a i) := by
  unfold changedI; split
  · exact kp_changed _ _ _
  · exact .refl a
theorem kp_tellI2 (a : AS) (i : Nat) : KpA a (tellI2 a i) := by unfold tellI2; split <;> exact ⟨rfl, rfl, rfl, rfl⟩
theorem kp_asI (R : List Int) (T : List V4) (b : AS) (i : Nat) (p : PE) : KpA b (asI R T b i p) := ⟨rfl, rfl, rfl, rfl⟩
theorem kp_setA (a : AS) (i : Nat) (q : PE) : KpA a (setA a i q) := ⟨rfl, rfl, rfl, rfl⟩
theorem kp_startI (b : AS) (i : Nat) (p : PE) : KpA b (startI b i p) := kp_setA _ _ _
theorem kp_tick1I (b : AS) (i : Nat) (p : PE) : KpA b (tick1I b i p) := kp_setA _ _ _
theorem kp_stI (b : AS) (i : Nat) (p : PE) : KpA b (stI b i p) := kp_setA _ _ _
theorem kp_choose (a : AS) : KpA a (chooseA a) := by
  unfold chooseA chooseRT
  have h1 := kp_itA (kp_asI (rolesA a) (tellsA a)) a a.ps.length
  have h2 := kp_allA kp_changedI (openN a.ps.length (rolesA a) (tellsA a) a a.ps.length) (itA (asI (rolesA a) (tellsA a)) a a.ps.length) a.ps.length
  exact (h1.trans h2).trans (kp_allA kp_tellI2 _ _ _)
theorem kp_start (a : AS) : KpA a (startA a) := by
  unfold startA
  have h1 : KpA a (zeroB a) := ⟨rfl, rfl, rfl, rfl⟩
  exact (h1.trans (kp_itA kp_startI (zeroB a) a.ps.length)).trans (kp_choose _)
theorem kp_beatI (b : AS) (i : Nat) (p : PE) : KpA b (beatI b i p) := by
  unfold beatI
  repeat' split
  all_goals exact ⟨rfl, rfl, rfl, rfl⟩
theorem kp_beat (a : AS) : KpA a (beatA a) := by
  unfold beatA; split
  · exact ⟨rfl, rfl, rfl, rfl⟩
  · have h1 : KpA a (beat1 a) := ⟨rfl, rfl, rfl, rfl⟩
    exact h1.trans (kp_itA kp_beatI _ _)
theorem kp_tick2 (k : Nat) (a : AS) : KpA a (tick2 k a) := by
  unfold tick2
  exact ((kp_itA kp_stI a a.ps.length).trans (kp_allA kp_changedI _ _ _)).trans (kp_beat _)
theorem kp_tick (a : AS) : KpA a (tickA a) := by
  unfold tickA
  exact ((kp_itA kp_tick1I a a.ps.length).trans (kp_choose _)).trans (kp_tick2 _ _)
theorem kp_reply (a : AS) (i : Nat) (p : PE) (d : PD) : KpA a (replyA a i p d) := by
  unfold replyA
  repeat' split
  · exact (kp_setA _ _ _).trans (kp_changed _ _ _)
  · exact kp_setA _ _ _
  all_goals exact .refl a
theorem kp_agree (a : AS) (i : Nat) : KpA a (agreeA a i) := by
  have h : KpA a (itA (blkI i) a a.ps.length) := kp_itA (fun b k p => by unfold blkI; split; exact .refl b; exact kp_setA _ _ _) a _
  unfold agreeA
  split
  · exact h.trans ⟨rfl, rfl, rfl, rfl⟩
  · exact h
theorem kp_news (a : AS) (i : Nat) (p : PE) (d : PD) : KpA a (newsA a i p d) := by
  have h1 := kp_setA a i (hearP p (vecD d) d.age a.cf)
  have h2 := h1.trans (kp_choose _)
  unfold newsA
  repeat' split
  all_goals first | exact h1 | exact h2 | exact h2.trans (kp_agree _ _) | exact h1.trans ⟨rfl, rfl, rfl, rfl⟩
theorem kp_hear1 (a : AS) (i : Nat) (p : PE) (d : PD) : KpA a (hear1 a i p d) := by
  unfold hear1
  by_cases hk : (if d.kind == 128 then true else d.top) = true
  · rw [if_pos hk]; exact (kp_setA _ _ _).trans (kp_itA (kp_spr _ _) _ _)
  · rw [if_neg hk]; exact kp_setA _ _ _
theorem kp_hear2 (c : AS) (i : Nat) (d : PD) : KpA c (hear2 c i d) := by
  unfold hear2
  split
  · exact .refl c
  · cases c.ps[i]? with
    | none => exact .refl c
    | some p2 =>
      simp only []
      by_cases hk : (if d.kind == 2 then (if d.role == 2 then true else d.role == 1) else false) = true
      · rw [if_pos hk]; exact kp_reply _ _ _ _
      · rw [if_neg hk]; exact kp_news _ _ _ _
theorem kp_hear (a : AS) (port : Int) (d : PD) : KpA a (hearT a port d) := by
  unfold hearT
  split
  · exact .refl a
  split
  · exact .refl a
  cases a.ps[(port - 1).toNat]? with
  | none => exact .refl a
  | some p =>
    simp only []
    split
    · exact (kp_hear1 _ _ _ _).trans (kp_hear2 _ _ _)
    · exact .refl a
theorem fr_start {n : Nat} (a : AS) (hn : a.ps.length ≤ n) : FrA (n * n + n) a (startA a) := by
  have h := itA_fr startI_fr (zeroB a) a.ps.length
  have g := chooseA_fr (n := n) (itA startI (zeroB a) a.ps.length) (by rw [h.len]; exact hn)
  exact ⟨g.len.trans h.len, g.cf.trans h.cf, by have := g.sz; have := h.sz; simp only [Nat.mul_zero, Nat.add_zero, show szA (zeroB a) = szA a from rfl] at *; show szA (chooseA (itA startI (zeroB a) a.ps.length)) ≤ _; omega⟩
theorem fr_tick {n : Nat} (a : AS) (hn : a.ps.length ≤ n) : FrA (n * n + n + n * n + n) a (tickA a) := by
  have h := itA_fr tick1I_fr a a.ps.length
  have g := chooseA_fr (n := n) (itA tick1I a a.ps.length) (by rw [h.len]; exact hn)
  have hg := h.trans g
  unfold tickA
  generalize chooseA (itA tick1I a a.ps.length) = c at *
  have s := itA_fr stI_fr c c.ps.length
  have s2 := allA_fr (f := changedI) (n := c.ps.length) (fun b i h => h ▸ changedI_fr b i) (stepN a.ps.length c c.ps.length) (itA stI c c.ps.length) s.len c.ps.length
  have s3 := beatA_fr (allA changedI (stepN a.ps.length c c.ps.length) (itA stI c c.ps.length) c.ps.length)
  have hcl := hg.len
  have e3 := s2.len.trans s.len
  have := Nat.mul_le_mul (show c.ps.length ≤ n by omega) (show c.ps.length ≤ n by omega)
  exact (hg.trans ((s.trans s2).trans s3)).le (by simp only [Nat.mul_zero] at *; omega)
theorem fr_hear2 {n : Nat} (c : AS) (i : Nat) (d : PD) (hn : c.ps.length ≤ n) : FrA (n * n + n + 1) c (hear2 c i d) := by
  unfold hear2
  split
  · exact (FrA.refl c).le (by omega)
  · cases c.ps[i]? with
    | none => exact (FrA.refl c).le (by omega)
    | some p2 =>
      simp only []
      by_cases hk : (if d.kind == 2 then (if d.role == 2 then true else d.role == 1) else false) = true
      · rw [if_pos hk]; exact (replyA_fr c i p2 d).le (by have := Nat.zero_le (n * n); omega)
      · rw [if_neg hk]; exact newsA_fr c i p2 d hn
theorem fr_hear {n : Nat} (a : AS) (port : Int) (d : PD) (hn : a.ps.length ≤ n) : FrA (n * n + n + 1 + n) a (hearT a port d) := by
  unfold hearT
  split
  · exact (FrA.refl a).le (by omega)
  split
  · exact (FrA.refl a).le (by omega)
  cases a.ps[(port - 1).toNat]? with
  | none => exact (FrA.refl a).le (by omega)
  | some p =>
    simp only []
    split
    · have h := hear1_fr a (port - 1).toNat p d
      exact (h.trans (fr_hear2 (n := n) _ _ d (by rw [h.len]; exact hn))).le (by omega)
    · exact (FrA.refl a).le (by omega)
/-- A state between two acts of the law. -/
structure Good18 (a : AS) : Prop where
  len : a.ps.length ≤ 6
  bare : Bare a
  nn : NnA a
  told : a.told = []
  fl : a.fl = []
theorem Good18.noT {a : AS} (h : Good18 a) : noT a = a := by
  obtain ⟨cf, cn, vs, ss, ds, ps, beat, told, fl⟩ := a
  have h1 := h.told
  have h2 := h.fl
  simp only at h1 h2
  subst h1; subst h2; rfl
theorem Good18.ok {a : AS} (h : Good18 a) : OkS a := ⟨by have := h.len; omega, by rw [h.bare.vs]; exact Nat.zero_le _, by rw [h.bare.ss]; exact Nat.zero_le _, by rw [h.bare.ds]; exact Nat.zero_le _⟩
theorem Good18.sz {a : AS} (h : Good18 a) : szA a = 0 := by unfold szA; rw [h.told, h.fl]; rfl
theorem Good18.next {a b : AS} {k : Nat} (h : Good18 a) (f : FrA k a b) (g : KpA a b) (n : NnA b) : Good18 (Ev.noT b) :=
  ⟨by show b.ps.length ≤ 6; rw [f.len]; exact h.len, ⟨g.vs.trans h.bare.vs, g.ss.trans h.bare.ss, g.ds.trans h.bare.ds⟩, n, rfl, rfl⟩
theorem Bare.kp {a b : AS} (h : Bare a) (g : KpA a b) : Bare b := ⟨g.vs.trans h.vs, g.ss.trans h.ss, g.ds.trans h.ds⟩
theorem made_good (x : SET) (xs : List SPt) : Good18 (madeA x xs) := ⟨madeA_len x xs, ⟨rfl, rfl, rfl⟩, fun p hp => by
  obtain ⟨s, _, rfl⟩ := List.mem_map.1 hp
  exact Int.le_refl 0, rfl, rfl⟩
end Go.Ev
