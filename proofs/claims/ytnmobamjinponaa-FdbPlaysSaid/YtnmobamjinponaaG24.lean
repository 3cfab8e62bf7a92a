/- A part of the proof: contracts of the functions that the statement reaches. -/
import Derived.Test.YtnmobamjinponaaG23
namespace Go.Ev
open Go.Proofs Srt
set_option maxRecDepth 100000
set_option linter.unusedSimpArgs false
set_option linter.unusedVariables false
/-- An entry without its stamp. -/
def zE (e : EN) : EN := ⟨e.k, e.p, e.g, 0⟩
theorem eR_z (e : EN) : eR (zE e) = eR e := rfl
/-- The table and the reference's list stand for the same. -/
structure ST (n l : Int) (clock : Nat) (L R : List EN) : Prop extends OKF n l clock L where
  gp : ∀ e ∈ L, goodB e.k e.p = true
  rs : Sorted EN.k ltK R
  rp : R.Perm (L.map zE)
theorem good_rng {k : KEY} {p : Int} (h : goodB k p = true) : grpB k = false ∧ 1 ≤ p ∧ p ≤ 16 := by
  simp only [goodB, Bool.and_eq_true, Bool.not_eq_true', decide_eq_true_eq] at h
  exact ⟨h.1, h.2.1, h.2.2⟩
theorem ST.lenR {n l : Int} {clock : Nat} {L R : List EN} (h : ST n l clock L R) : R.length = L.length := by simpa using h.rp.length_eq
theorem ST.mem {n l : Int} {clock : Nat} {L R : List EN} (h : ST n l clock L R) {x : EN} (hx : x ∈ R) : ∃ e ∈ L, x = zE e := by
  obtain ⟨e, he, rfl⟩ := List.mem_map.1 (h.rp.mem_iff.1 hx)
  exact ⟨e, he, rfl⟩
theorem ST.rv {n l : Int} {clock : Nat} {L R : List EN} (h : ST n l clock L R) : ∀ x ∈ R, KOK x.k := fun x hx => by
  obtain ⟨e, he, rfl⟩ := h.mem hx
  exact h.v e he
theorem ST.init {n l : Int} (hn : 1 ≤ n) : ST n l 0 [] [] where
  k := List.nodup_nil
  s := List.nodup_nil
  c := by simp
  v := by simp
  len := by simp; omega
  g := by simp
  u := by simp
  gp := by simp
  rs := List.Pairwise.nil
  rp := by simp
theorem ST.look {n l : Int} {clock : Nat} {L R : List EN} (h : ST n l clock L R) (k : KEY) : (atI EN.k R k = -1 ∧ Go.Ev.look L k = none ∧ ∀ x ∈ R, x.k ≠ k) ∨
    ∃ (j : Nat) (e : EN), atI EN.k R k = (j : Int) ∧ j < R.length ∧ Go.Ev.look L k = some e ∧ R[j]? = some (zE e) := by
  rcases at_cases koK h.rs k with ⟨h1, h0⟩ | ⟨R1, x, R2, rfl, rfl, h1, h0⟩
  · refine .inl ⟨h1, look_none fun y hy he => ?_, h0⟩
    exact h0 (zE y) (h.rp.mem_iff.2 (List.mem_map.2 ⟨y, hy, rfl⟩)) he
  · obtain ⟨e, he, rfl⟩ := h.mem (x := x) (by simp)
    refine .inr ⟨R1.length, e, h1, by simp, ?_, by simp⟩
    obtain ⟨l1, l2, rfl, h3⟩ := mem_split h.k he
    exact look_mid h3
theorem srt_z {L : List EN} (hn : NDk L) (hv : ∀ e ∈ L, KOK e.k) : Sorted EN.k ltK ((srt L).map zE) := by
  have hp : (srt L).Pairwise fun a b => leK a b = true := List.pairwise_mergeSort (fun a b c h1 h2 => by rw [leK_iff] at *; omega) (fun a b => by
    rw [Bool.or_eq_true, leK_iff, leK_iff]; omega) L
  unfold Sorted
  rw [List.pairwise_map]
  have hnd : (srt L).Nodup := by
    have : ((srt L).map (fun e : EN => e.k)).Nodup := ((List.mergeSort_perm L leK).map (fun e : EN => e.k)).nodup_iff.2 (show (L.map (fun e : EN => e.k)).Nodup from hn)
    exact List.Pairwise.of_map (·.k) (fun a b h e => h (by rw [e])) this
  refine List.Pairwise.imp_of_mem (fun {a b} ha hb hab => ?_) (hp.and hnd)
  obtain ⟨h1, h2⟩ := hab
  show ltK a.k b.k = true
  rw [leK_iff] at h1
  simp only [ltK, decide_eq_true_eq, cmpK_lt]
  rcases h1 with h1 | ⟨h1, h3⟩
  · exact .inl h1
  · refine .inr ⟨h1, ?_⟩
    rcases Int.lt_or_eq_of_le h3 with h4 | h4
    · exact h4
    · exact absurd (nk_eq hn (srt_mem.1 ha) (srt_mem.1 hb) (kI_inj (hv a (srt_mem.1 ha)) (hv b (srt_mem.1 hb)) h1 h4)) h2
theorem ST.list {n l : Int} {clock : Nat} {L R : List EN} (h : ST n l clock L R) : (srt L).map zE = R :=
  unique koK (srt_z h.k h.v) h.rs (((List.mergeSort_perm L leK).map zE).trans h.rp.symm)
theorem ST.rows {n l : Int} {clock : Nat} {L R : List EN} (h : ST n l clock L R) : (srt L).map eR = R.map eR := by
  rw [← h.list, List.map_map]; rfl
theorem ST.filter {n l : Int} {clock : Nat} {L R : List EN} (h : ST n l clock L R) (p : EN → Bool) (hp : ∀ e, p (zE e) = p e) : ST n l clock (L.filter p) (R.filter p) :=
  { toOKF := h.toOKF.sub List.filter_sublist
    gp := fun e he => h.gp e (List.mem_filter.1 he).1
    rs := sorted_filter p h.rs
    rp := by
      have := h.rp.filter p
      rw [List.filter_map] at this
      have e : (p ∘ zE) = p := funext hp
      rwa [e] at this }
theorem inc_z (e : EN) : inc (zE e) = zE (inc e) := rfl
theorem ST.tick {n l : Int} {clock : Nat} {L R : List EN} (h : ST n l clock L R) (hl : l ≤ 1000) : ST n l clock (tickL l L) (tickL l R) :=
  { toOKF := tick_ok h.toOKF hl
    gp := fun e he => by
      obtain ⟨x, hx, rfl⟩ := List.mem_map.1 (List.mem_filter.1 he).1
      exact h.gp x hx
    rs := sorted_filter _ (sorted_map (fun _ => rfl) h.rs)
    rp := by
      have h1 := (h.rp.map inc).filter fun e => !decide (l ≤ e.g)
      have h2 : List.filter (fun e => !decide (l ≤ e.g)) (List.map inc (List.map zE L)) = (tickL l L).map zE := by
        unfold tickL
        rw [List.map_map, show inc ∘ zE = zE ∘ inc from rfl, ← List.map_map, List.filter_map]
        rfl
      rw [h2] at h1
      exact h1 }
theorem count_not (p : EN → Bool) : ∀ (L : List EN), (L.filter p).length + (L.filter fun e => !p e).length = L.length
  | [] => rfl
  | x :: L => by
    have := count_not p L
    simp only [List.filter_cons]
    cases p x <;> simp <;> omega
theorem ST.tickN {n l : Int} {clock : Nat} {L R : List EN} (h : ST n l clock L R) (hl : l ≤ 1000) : (R.length : Int) - ((tickL l R).length : Int) = (((L.map inc).filter fun e => decide (l ≤ e.g)).length : Int) := by
  have h1 := (h.tick hl).lenR
  have h2 := count_not (fun e => decide (l ≤ e.g)) (L.map inc)
  have h3 := h.lenR
  rw [List.length_map] at h2
  unfold tickL at h1 ⊢
  omega
theorem ST.flushN {n l : Int} {clock : Nat} {L R : List EN} (h : ST n l clock L R) (p : EN → Bool) (hp : ∀ e, p (zE e) = p e) : (R.length : Int) - ((R.filter fun e => !p e).length : Int) = ((L.filter p).length : Int) := by
  have h1 := (h.filter (fun e => !p e) (fun e => by rw [hp])).lenR
  have h2 := count_not p L
  have h3 := h.lenR
  omega
theorem putE_perm {clock : Nat} {L : List EN} (hn : NDk L) {k : KEY} {p g : Int} : ((putE clock L k p g).2.map zE).Perm (⟨k, p, g, 0⟩ :: (delE L k).map zE) := by
  rcases look_cases L hn k with ⟨h1, h0⟩ | ⟨l1, e, l2, rfl, rfl, h1, h0⟩
  · rw [put_miss clock L k p g h1]
    unfold delE
    rw [filter_off k L h0, List.map_append]
    exact List.perm_append_comm.trans (by simp [zE])
  · rw [put_hit clock l1 e l2 p g h1 h0, del_hit l1 e l2 h0]
    simp only [List.map_append, List.map_cons]
    exact List.perm_middle
theorem del_z (L : List EN) (k : KEY) : delE (L.map zE) k = (delE L k).map zE := by
  unfold delE
  rw [List.filter_map]
  rfl
/-- Put, or learn where there is room. -/
theorem ST.putG {n l : Int} {clock : Nat} {L R : List EN} (h : ST n l clock L R) {k : KEY} {p g : Int} (hk : KOK k) (hg : goodB k p = true) (g0 : 0 ≤ g) (g1 : g < l) (hr : (Go.Ev.look L k).isSome = true ∨ (L.length : Int) < n) :
    ST n l (putE clock L k p g).1 (putE clock L k p g).2 (putR R ⟨k, p, g, 0⟩) := by
  have hR : Sorted EN.k ltK (putR R ⟨k, p, g, 0⟩) := by
    unfold putR
    refine ins_sorted koK (sorted_filter _ h.rs) (fun x hx => h.rv x (List.mem_filter.1 hx).1) hk fun x hx => ?_
    have := (List.mem_filter.1 hx).2
    simpa using this
  have hP : (putR R ⟨k, p, g, 0⟩).Perm ((putE clock L k p g).2.map zE) := by
    unfold putR
    refine (ins_perm _ _).trans (List.Perm.trans ?_ (putE_perm h.k).symm)
    refine List.Perm.cons _ ?_
    have h1 : (delE R k).Perm (delE (L.map zE) k) := h.rp.filter _
    rw [del_z] at h1
    exact h1
  rcases look_cases L h.k k with ⟨h1, h0⟩ | ⟨l1, e, l2, rfl, rfl, h1, h0⟩
  · rw [put_miss clock L k p g h1] at hP ⊢
    have hr2 : (L.length : Int) < n := hr.resolve_left (by rw [h1]; simp)
    exact {
      k := by
        unfold NDk
        rw [List.map_append, List.nodup_append]
        exact ⟨h.k, by simp, fun a ha b hb e => by
          obtain ⟨x, hx, rfl⟩ := List.mem_map.1 ha
          simp at hb
          exact h0 x hx (e.trans hb)⟩
      s := by
        unfold NDs
        rw [List.map_append, List.nodup_append]
        exact ⟨h.s, by simp, fun a ha b hb e => by
          obtain ⟨x, hx, rfl⟩ := List.mem_map.1 ha
          simp at hb
          have := h.c x hx
          omega⟩
      c := by
        intro e he
        rcases List.mem_append.1 he with he | he
        · have := h.c e he; show e.s < clock + 1; omega
        · simp at he; subst he; simp
      v := by
        intro e he
        rcases List.mem_append.1 he with he | he
        · exact h.v e he
        · simp at he; subst he; exact hk
      len := by simp; omega
      g := by
        intro e he
        rcases List.mem_append.1 he with he | he
        · exact h.g e he
        · simp at he; subst he; exact ⟨g0, g1⟩
      u := by
        intro e he
        rcases List.mem_append.1 he with he | he
        · exact h.u e he
        · simp at he; subst he; exact (good_rng hg).1
      gp := by
        intro e he
        rcases List.mem_append.1 he with he | he
        · exact h.gp e he
        · simp at he; subst he; exact hg
      rs := hR
      rp := hP }
  · rw [put_hit clock l1 e l2 p g h1 h0] at hP ⊢
    have hm : ∀ x ∈ l1 ++ (⟨e.k, p, g, e.s⟩ : EN) :: l2, x = ⟨e.k, p, g, e.s⟩ ∨ x ∈ l1 ++ e :: l2 := fun x hx => by
      rcases List.mem_append.1 hx with h | h
      · exact .inr (by simp [h])
      · rcases List.mem_cons.1 h with h | h
        · exact .inl h
        · exact .inr (by simp [h])
    have he : e ∈ l1 ++ e :: l2 := by simp
    exact {
      k := by have := h.k; unfold NDk at *; simpa using this
      s := by have := h.s; unfold NDs at *; simpa using this
      c := by
        intro x hx
        rcases hm x hx with rfl | h2
        · exact h.c e he
        · exact h.c x h2
      v := by
        intro x hx
        rcases hm x hx with rfl | h2
        · exact h.v e he
        · exact h.v x h2
      len := by have := h.len; simpa using this
      g := by
        intro x hx
        rcases hm x hx with rfl | h2
        · exact ⟨g0, g1⟩
        · exact h.g x h2
      u := by
        intro x hx
        rcases hm x hx with rfl | h2
        · exact h.u e he
        · exact h.u x h2
      gp := by
        intro x hx
        rcases hm x hx with rfl | h2
        · exact hg
        · exact h.gp x h2
      rs := hR
      rp := hP }
/-- The first of the oldest in the list is the least of the table's, as the program orders them. -/
theorem ST.oldest {n l : Int} {clock : Nat} {L R : List EN} (h : ST n l clock L R) (hl : 1 ≤ L.length) : R[oldI R R.length]? = some (zE (minL (srt L))) := by
  have hR1 : 1 ≤ R.length := by rw [h.lenR]; exact hl
  have hlt := oldI_lt R hR1 R.length (Nat.le_refl _)
  obtain ⟨o, ho⟩ : ∃ o, R[oldI R R.length]? = some o := ⟨_, List.getElem?_eq_getElem hlt⟩
  obtain ⟨x, hx⟩ : ∃ x, minL (srt L) = x := ⟨_, rfl⟩
  have hxm : x ∈ srt L := by rw [← hx]; exact minL_mem (srt L) (by rw [srt_len]; exact hl)
  have hmin : ∀ (Q : List EN) (e : EN), (∀ y ∈ e :: Q, cmpA (Q.foldl (fun m x => if cmpA x m < 0 then x else m) e) y ≤ 0) := by
    have key : ∀ a b : EN, cmpA a b ≤ 0 ↔ b.g < a.g ∨ a.g = b.g ∧ cmpK a.k b.k ≤ 0 := fun a b => by
      simp only [cmpA, orI, cmpI]
      repeat' split
      all_goals omega
    have key2 : ∀ a b : EN, cmpA a b < 0 ↔ b.g < a.g ∨ a.g = b.g ∧ cmpK a.k b.k < 0 := fun a b => by
      simp only [cmpA, orI, cmpI]
      repeat' split
      all_goals omega
    have trans : ∀ a b c : EN, cmpA a b ≤ 0 → cmpA b c ≤ 0 → cmpA a c ≤ 0 := fun a b c h1 h2 => by
      rw [key] at *
      simp only [cmpK_le] at *
      omega
    intro Q
    induction Q with
    | nil => intro e y hy; simp at hy; subst hy; rw [List.foldl_nil, key, cmpK_le]; omega
    | cons q Q ih =>
      intro e y hy
      rw [List.foldl_cons]
      have h1 := ih (if cmpA q e < 0 then q else e)
      have h2 := h1 _ (List.mem_cons_self ..)
      have h3 : cmpA (if cmpA q e < 0 then q else e) e ≤ 0 ∧ cmpA (if cmpA q e < 0 then q else e) q ≤ 0 := by
        split
        · rename_i hq; exact ⟨by omega, by rw [key, cmpK_le]; omega⟩
        · rename_i hq
          refine ⟨by rw [key, cmpK_le]; omega, ?_⟩
          rw [key2, cmpK_lt] at hq
          rw [key, cmpK_le]
          omega
      rcases List.mem_cons.1 hy with rfl | hy
      · exact trans _ _ _ h2 h3.1
      · rcases List.mem_cons.1 hy with rfl | hy
        · exact trans _ _ _ h2 h3.2
        · exact h1 y (List.mem_cons_of_mem _ hy)
  have hall : ∀ y ∈ srt L, cmpA x y ≤ 0 := by
    intro y hy
    cases hs : srt L with
    | nil => rw [hs] at hy; cases hy
    | cons e Q =>
      have := hmin Q e y (by rw [← hs]; exact hy)
      rw [hs] at hx
      have hx2 : Q.foldl (fun m x => if cmpA x m < 0 then x else m) e = x := hx
      rw [hx2] at this
      exact this
  have hzx : zE x ∈ R := by rw [← h.list]; exact List.mem_map.2 ⟨x, hxm, rfl⟩
  obtain ⟨j, hj⟩ := List.getElem?_of_mem hzx
  have hjl := (List.getElem?_eq_some_iff.1 hj).1
  obtain ⟨y, hym, hyo⟩ : ∃ y ∈ srt L, zE y = o := by
    have := List.mem_of_getElem? ho
    rw [← h.list] at this
    exact List.mem_map.1 this
  have hcm := hall y hym
  have hmax := oldI_max R R.length (Nat.le_refl _) j hjl
  rw [gAt_some hj, gAt_some ho] at hmax
  have hg : (zE x).g = x.g := rfl
  have hyg : o.g = y.g := by rw [← hyo]; rfl
  have hcm2 : y.g < x.g ∨ x.g = y.g ∧ cmpK x.k y.k ≤ 0 := by
    have key : ∀ a b : EN, cmpA a b ≤ 0 ↔ b.g < a.g ∨ a.g = b.g ∧ cmpK a.k b.k ≤ 0 := fun a b => by
      simp only [cmpA, orI, cmpI]
      repeat' split
      all_goals omega
    exact (key x y).1 hcm
  rw [hg, hyg] at hmax
  have heq : x.g = y.g := by omega
  have hle : cmpK x.k y.k ≤ 0 := by omega
  rcases Nat.lt_trichotomy j (oldI R R.length) with hlt2 | rfl | hgt
  · have := oldI_first R R.length (Nat.le_refl _) j hlt2
    rw [gAt_some hj, gAt_some ho, hg, hyg] at this
    omega
  · rw [hx]; exact hj
  · have hs := List.pairwise_iff_getElem.1 h.rs (oldI R R.length) j hlt hjl hgt
    rw [(List.getElem?_eq_some_iff.1 ho).2, (List.getElem?_eq_some_iff.1 hj).2, ← hyo] at hs
    have hs2 : ltK y.k x.k = true := hs
    simp only [ltK, decide_eq_true_eq, cmpK_lt] at hs2
    rw [cmpK_le] at hle
    omega
theorem getElem_split {R : List EN} {i : Nat} {x : EN} (h : R[i]? = some x) : R = R.take i ++ x :: R.drop (i + 1) := by
  obtain ⟨hl, rfl⟩ := List.getElem?_eq_some_iff.1 h
  conv => lhs; rw [← List.take_append_drop i R]
  rw [List.drop_eq_getElem_cons hl]
/-- The oldest goes. -/
theorem ST.cut {n l : Int} {clock : Nat} {L R : List EN} (h : ST n l clock L R) (hl : 1 ≤ L.length) : ST n l clock (delE L (minL (srt L)).k) (cutE R (oldI R R.length)) := by
  have ho := h.oldest hl
  have hsp := getElem_split ho
  have hm : minL (srt L) ∈ L := srt_mem.1 (minL_mem (srt L) (by rw [srt_len]; exact hl))
  have hR : cutE R (oldI R R.length) = R.filter fun e => !decide (e.k = (minL (srt L)).k) := by
    have hn := sorted_ne koK h.rs
    generalize oldI R R.length = i at ho hsp ⊢
    unfold cutE
    generalize R.take i = A at *
    generalize R.drop (i + 1) = B at *
    subst hsp
    rw [List.map_append, List.map_cons, List.nodup_append] at hn
    have h0 : ∀ x ∈ A ++ B, x.k ≠ (minL (srt L)).k := fun x hx hh => by
      rcases List.mem_append.1 hx with hx | hx
      · exact hn.2.2 _ (List.mem_map.2 ⟨x, hx, rfl⟩) (zE (minL (srt L))).k (List.mem_cons_self ..) hh
      · exact (List.nodup_cons.1 hn.2.1).1 (List.mem_map.2 ⟨x, hx, hh⟩)
    exact (del_hit A (zE (minL (srt L))) B h0).symm
  rw [hR]
  exact h.filter _ fun _ => rfl
theorem ST.someEq {n l : Int} {clock : Nat} {L R : List EN} (h : ST n l clock L R) (k : KEY) : decide (atI EN.k R k < 0) = !(Go.Ev.look L k).isSome := by
  rcases h.look k with ⟨h1, h2, _⟩ | ⟨j, e, h1, _, h2, _⟩
  · rw [h1, h2]; rfl
  · rw [h1, h2]; simp
theorem ST.noEq {n l : Int} {clock : Nat} {L R : List EN} (h : ST n l clock L R) (k : KEY) (p g : Int) : noF n l L k p g = noR n l R ⟨k, p, g, 0⟩ := by
  unfold noF noR fullB
  rw [h.someEq k, h.lenR]
theorem room_of {n : Int} {L : List EN} {k : KEY} (h : fullB n L k = false) : (Go.Ev.look L k).isSome = true ∨ (L.length : Int) < n := by
  simp only [fullB, Bool.and_eq_false_iff, Bool.not_eq_false', decide_eq_false_iff_not] at h
  rcases h with h | h
  · exact .inl h
  · exact .inr (by omega)
theorem noF_false {n l : Int} {L : List EN} {k : KEY} {p g : Int} (h : noF n l L k p g = false) : goodB k p = true ∧ 0 ≤ g ∧ g < l ∧ ((Go.Ev.look L k).isSome = true ∨ (L.length : Int) < n) := by
  simp only [noF, Bool.or_eq_false_iff, Bool.not_eq_false', decide_eq_false_iff_not] at h
  exact ⟨h.1, by omega, by omega, room_of h.2.2.2⟩
theorem ST.roomEq {n l : Int} {clock : Nat} {L R : List EN} (h : ST n l clock L R) (k : KEY) (hr : (decide (0 ≤ atI EN.k R k) || decide ((R.length : Int) < n)) = true) : fullB n L k = false := by
  have h1 := h.someEq k
  unfold fullB
  rw [← h1, ← h.lenR]
  simp only [Bool.or_eq_true, decide_eq_true_eq] at hr
  simp only [Bool.and_eq_false_iff, decide_eq_false_iff_not]
  omega
theorem ST.fullEq {n l : Int} {clock : Nat} {L R : List EN} (h : ST n l clock L R) (hn : 1 ≤ n) (k : KEY) (hr : (decide (0 ≤ atI EN.k R k) || decide ((R.length : Int) < n)) = false) : fullB n L k = true ∧ 1 ≤ L.length := by
  have h1 := h.someEq k
  simp only [Bool.or_eq_false_iff, decide_eq_false_iff_not] at hr
  have h2 := h.lenR
  refine ⟨?_, by omega⟩
  unfold fullB
  rw [← h1, ← h2]
  simp only [Bool.and_eq_true, decide_eq_true_eq]
  omega
theorem ST.delLt {n l : Int} {clock : Nat} {L R : List EN} (h : ST n l clock L R) (hl : 1 ≤ L.length) : ((delE L (minL (srt L)).k).length : Int) < n := by
  have hm := srt_mem.1 (minL_mem (srt L) (by rw [srt_len]; exact hl))
  have h2 := h.len
  have hn := h.k
  generalize minL (srt L) = e at hm ⊢
  obtain ⟨l1, l2, rfl, h3⟩ := mem_split hn hm
  rw [del_hit l1 e l2 h3]
  simp at h2 ⊢
  omega
end Go.Ev
