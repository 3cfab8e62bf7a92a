/- A part of the proof: contracts of the functions that the statement reaches. -/
import Derived.Test.YtadikegdadnahaaT38
namespace Go.Ev
open Go.Proofs
set_option maxRecDepth 100000
set_option linter.unusedSimpArgs false
set_option linter.unusedVariables false
set_option maxHeartbeats 4000000
/-! ### both bridges and what is under way -/
structure JI (n : Nat) (s : JN) : Prop where
  g : ∃ k, GoodJ s k
  xl : s.a.ps.length = n
  yl : s.b.ps.length = n
  x : XI s.a
  y : YI s.b
  yi : InvA s.b
  q : ∀ m ∈ s.q, m.to = 1 ∧ TT n m.port m.d ∨ m.to = 0 ∧ PL m.d
def wL (m : LT) : Nat := if m.to = 1 then 2 else if m.d.role = 3 then 3 else 1
def wQ (q : List LT) : Nat := (q.map wL).sum
def unh (b : AS) : Nat := (LK b).countP (· == none)
def Phi (s : JN) : Nat := wQ s.q + 301 * unh s.b
theorem wQ_app (p q : List LT) : wQ (p ++ q) = wQ p + wQ q := by simp [wQ]
theorem wL_le (m : LT) : 1 ≤ wL m ∧ wL m ≤ 3 := by
  unfold wL
  repeat' split
  all_goals omega
theorem wQ_le {k : Nat} : ∀ q : List LT, (∀ m ∈ q, wL m ≤ k) → wQ q ≤ k * q.length
  | [], _ => Nat.zero_le _
  | m :: q, h => by
    have h1 := h m (List.mem_cons_self ..)
    have h2 := wQ_le q fun x hx => h x (List.mem_cons_of_mem _ hx)
    show wL m + wQ q ≤ k * (q.length + 1)
    rw [Nat.mul_succ]; omega
theorem mem_out0 {l : List TE} {m : LT} (h : m ∈ outL 0 l) : ∃ t ∈ l, m = ⟨1, t.port, t.d⟩ := by
  obtain ⟨t, ht, rfl⟩ := List.mem_map.1 h
  exact ⟨t, ht, rfl⟩
theorem mem_out1 {l : List TE} {m : LT} (h : m ∈ outL 1 l) : ∃ t ∈ l, m = ⟨0, t.port, t.d⟩ := by
  obtain ⟨t, ht, rfl⟩ := List.mem_map.1 h
  exact ⟨t, ht, rfl⟩
theorem w_out0 (l : List TE) : wQ (outL 0 l) ≤ 2 * l.length := by
  have := wQ_le (k := 2) (outL 0 l) fun m hm => by obtain ⟨t, ht, rfl⟩ := mem_out0 hm; exact Nat.le_refl _
  rwa [outL, List.length_map] at this
theorem w_out1 (l : List TE) : wQ (outL 1 l) ≤ 3 * l.length := by
  have := wQ_le (k := 3) (outL 1 l) fun m hm => (wL_le m).2
  rwa [outL, List.length_map] at this
theorem w_out1a (l : List TE) (h : ∀ t ∈ l, t.d.role ≠ 3) : wQ (outL 1 l) ≤ l.length := by
  have := wQ_le (k := 1) (outL 1 l) fun m hm => by obtain ⟨t, ht, rfl⟩ := mem_out1 hm; unfold wL; rw [if_neg (show ¬ (0 : Int) = 1 by decide), if_neg (h t ht)]; exact Nat.le_refl _
  rwa [outL, List.length_map, Nat.one_mul] at this
theorem cnt_set (v : Int) : ∀ (l : List (Option Int)) (i : Nat), (l.set i (some v)).countP (· == none) ≤ l.countP (· == none) ∧ (l[i]? = some none → (l.set i (some v)).countP (· == none) + 1 = l.countP (· == none))
  | [], i => ⟨Nat.le_refl _, fun h => by cases h⟩
  | x :: l, 0 => by
    have e1 : ((some v :: l).countP (· == none)) = l.countP (· == none) := List.countP_cons_of_neg (by simp)
    show ((some v :: l).countP (· == none)) ≤ _ ∧ ((x :: l)[0]? = some none → ((some v :: l).countP (· == none)) + 1 = _)
    rw [e1]
    refine ⟨?_, fun h => ?_⟩
    · rw [List.countP_cons]; omega
    · have hx : x = none := by simpa using h
      subst hx
      rw [List.countP_cons_of_pos (by rfl)]
  | x :: l, i + 1 => by
    obtain ⟨h1, h2⟩ := cnt_set v l i
    show ((x :: l.set i (some v)).countP (· == none)) ≤ _ ∧ ((x :: l)[i + 1]? = some none → ((x :: l.set i (some v)).countP (· == none)) + 1 = _)
    rw [List.countP_cons, List.countP_cons, List.getElem?_cons_succ]
    exact ⟨by omega, fun h => by have := h2 h; omega⟩
theorem told_len {k : Nat} {a n : AS} (ht : a.told = []) (hf : a.fl = []) (f : FrA k a n) : n.told.length ≤ k := by
  have h1 := f.sz
  unfold szA at h1
  rw [ht, hf] at h1
  simp only [List.length_nil] at h1
  omega
theorem ji_pop {n : Nat} {s : JN} {m : LT} {q : List LT} (h : JI n s) (e : s.q = m :: q) : JI n (popJ s) ∧ Phi (popJ s) + 1 ≤ Phi s ∧
    (m.to = 1 ∧ TT n m.port m.d ∧ (popJ s).a = s.a ∧ LK (popJ s).b = (LK s.b).set (m.port - 1).toNat (some 6) ∨ m.to = 0 ∧ (popJ s).b = s.b ∧ (popJ s).a.beat = s.a.beat ∧ ∀ k, RkA k s.a → RkA k (popJ s).a) ∧ ∃ r, (popJ s).q = q ++ r := by
  obtain ⟨k, hg⟩ := h.g
  have hg2 := good_pop hg
  have hm := h.q m (by rw [e]; exact List.mem_cons_self ..)
  have hq : ∀ x ∈ q, x.to = 1 ∧ TT n x.port x.d ∨ x.to = 0 ∧ PL x.d := fun x hx => h.q x (by rw [e]; exact List.mem_cons_of_mem _ hx)
  have hW : wQ s.q = wL m + wQ q := by rw [e]; rfl
  have hpe : popJ s = if m.to = 0 then toA s (hearT s.a m.port m.d) q else toB s (hearT s.b m.port m.d) q := by unfold popJ; rw [e]
  rcases hm with ⟨ht, hT⟩ | ⟨ht, hP⟩
  · rw [if_neg (by rw [ht]; decide)] at hpe
    have hT2 : TT s.b.ps.length m.port m.d := by rw [h.yl]; exact hT
    obtain ⟨y1, y2, y3⟩ := y_hear h.y hT2
    have hlen := told_len hg.b.told hg.b.fl (fr_hear (n := 6) s.b m.port m.d hg.b.len)
    have yl2 : (hearT s.b m.port m.d).ps.length = n := (tk_hear s.b m.port m.d).len.trans h.yl
    refine ⟨⟨⟨k + 1, hg2⟩, ?_, ?_, ?_, ?_, ?_, ?_⟩, ?_, .inl ⟨ht, hT, ?_, ?_⟩, ?_⟩ <;> rw [hpe]
    · exact h.xl
    · exact yl2
    · exact h.x
    · exact y1.noT
    · exact (inv_hear _ _ h.yi).noT
    · intro x hx
      rcases List.mem_append.1 hx with hx | hx
      · exact hq x hx
      · obtain ⟨t, htm, rfl⟩ := mem_out1 hx
        exact .inr ⟨rfl, y1.told t htm⟩
    · show wQ (q ++ outL 1 (hearT s.b m.port m.d).told) + 301 * unh (noT (hearT s.b m.port m.d)) + 1 ≤ wQ s.q + 301 * unh s.b
      have hu : unh (noT (hearT s.b m.port m.d)) = ((LK s.b).set (m.port - 1).toNat (some 6)).countP (· == none) := by rw [← y2]; rfl
      obtain ⟨c1, c2⟩ := cnt_set 6 (LK s.b) (m.port - 1).toNat
      have hwm : wL m = 2 := by unfold wL; rw [if_pos ht]
      rw [wQ_app, hW, hwm, hu]
      have hub : unh s.b = (LK s.b).countP (· == none) := rfl
      rw [hub]
      by_cases hn : (LK s.b)[(m.port - 1).toNat]? = some none
      · have := c2 hn
        have := w_out1 (hearT s.b m.port m.d).told
        omega
      · obtain ⟨r, r1, r2, r3⟩ := y3 h.yi hn
        rw [hg.b.told, List.nil_append] at r1
        rw [← r1] at r2 r3
        have := w_out1a _ r3
        omega
    · rfl
    · show LK (noT (hearT s.b m.port m.d)) = _
      rw [← y2]; rfl
    · exact ⟨_, rfl⟩
  · rw [if_pos ht] at hpe
    obtain ⟨x1, x2, x3, r, r1, r2, r3⟩ := x_hear h.x m.port hP
    have xl2 : (hearT s.a m.port m.d).ps.length = n := (tk_hear s.a m.port m.d).len.trans h.xl
    rw [hg.a.told, List.nil_append] at r1
    refine ⟨⟨⟨k + 1, hg2⟩, ?_, ?_, ?_, ?_, ?_, ?_⟩, ?_, .inr ⟨ht, ?_, ?_, ?_⟩, ?_⟩ <;> rw [hpe]
    · exact xl2
    · exact h.yl
    · exact x1.noT
    · exact h.y
    · exact h.yi
    · intro x hx
      rcases List.mem_append.1 hx with hx | hx
      · exact hq x hx
      · obtain ⟨t, htm, rfl⟩ := mem_out0 hx
        rw [r1] at htm
        exact .inl ⟨rfl, by rw [← h.xl]; exact r3 t htm⟩
    · show wQ (q ++ outL 0 (hearT s.a m.port m.d).told) + 301 * unh s.b + 1 ≤ wQ s.q + 301 * unh s.b
      have hwm : wL m = if m.d.role = 3 then 3 else 1 := by unfold wL; rw [if_neg (by rw [ht]; decide)]
      have := w_out0 (hearT s.a m.port m.d).told
      rw [wQ_app, hW, hwm]
      rw [r1] at this ⊢
      split at r2
      · rename_i e3; rw [if_pos e3]; omega
      · rename_i e3; rw [if_neg e3]; omega
    · rfl
    · exact x2
    · exact fun k hk => x3 k hk
    · exact ⟨_, rfl⟩
theorem popJ_nil {s : JN} (e : s.q = []) : popJ s = s := by unfold popJ; rw [e]
theorem ji_drain {n : Nat} {s : JN} (h : JI n s) {P : JN → Prop} (hp : ∀ (s : JN) (m : LT) (q : List LT), JI n s → s.q = m :: q → P s → P (popJ s)) (h0 : P s) : ∀ k, JI n (drainJ s k) ∧ P (drainJ s k) ∧ (Phi (drainJ s k) + k ≤ Phi s ∨ (drainJ s k).q = [])
  | 0 => ⟨h, h0, .inl (Nat.le_refl _)⟩
  | k + 1 => by
    obtain ⟨h1, h2, h3⟩ := ji_drain h hp h0 k
    unfold drainJ
    cases e : (drainJ s k).q with
    | nil => rw [popJ_nil e]; exact ⟨h1, h2, .inr e⟩
    | cons m q =>
      obtain ⟨g1, g2, _⟩ := ji_pop h1 e
      refine ⟨g1, hp _ m q h1 e h2, .inl ?_⟩
      rcases h3 with h3 | h3
      · omega
      · rw [e] at h3; cases h3
/-- What a whole drain keeps; nothing is under way behind it. -/
theorem ji_drained {n : Nat} {s : JN} (h : JI n s) (hf : Phi s < 5000) {P : JN → Prop} (hp : ∀ (s : JN) (m : LT) (q : List LT), JI n s → s.q = m :: q → P s → P (popJ s)) (h0 : P s) : JI n (drainJ s 5000) ∧ P (drainJ s 5000) ∧ (drainJ s 5000).q = [] := by
  obtain ⟨h1, h2, h3⟩ := ji_drain h hp h0 5000
  exact ⟨h1, h2, h3.resolve_left (by omega)⟩
/-- The lives are l at least. -/
def HL (l : Int) (s : JN) : Prop := ∀ x ∈ LK s.b, ∃ v, x = some v ∧ l ≤ v
theorem hl_pop {n : Nat} {l : Int} (hl : l ≤ 6) (s : JN) (m : LT) (q : List LT) (h : JI n s) (e : s.q = m :: q) (g : HL l s) : HL l (popJ s) := by
  obtain ⟨_, _, h3, _⟩ := ji_pop h e
  rcases h3 with ⟨_, _, _, h3⟩ | ⟨_, h3, _⟩
  · intro x hx
    rw [h3] at hx
    rcases List.mem_or_eq_of_mem_set hx with hx | rfl
    · exact g x hx
    · exact ⟨6, rfl, hl⟩
  · intro x hx; rw [h3] at hx; exact g x hx
/-- Each port is heard, or a letter to it is under way. -/
def HT (n : Nat) (s : JN) : Prop := ∀ k, k < n → (LK s.b)[k]? = some (some 6) ∨ ∃ m ∈ s.q, m.to = 1 ∧ m.port = (k : Int) + 1
theorem ht_pop {n : Nat} (s : JN) (m : LT) (q : List LT) (h : JI n s) (e : s.q = m :: q) (g : HT n s) : HT n (popJ s) := by
  obtain ⟨_, _, h3, r, h4⟩ := ji_pop h e
  intro k hk
  have hL : k < (LK s.b).length := by unfold LK; rw [List.length_map, h.yl]; exact hk
  rcases g k hk with g | ⟨x, hx, hx1, hx2⟩
  · left
    rcases h3 with ⟨_, _, _, h3⟩ | ⟨_, h3, _⟩
    · rw [h3, List.getElem?_set]
      split
      · rename_i e; subst e; rw [if_pos hL]
      · exact g
    · rw [h3]; exact g
  · rw [e] at hx
    rcases List.mem_cons.1 hx with rfl | hx
    · left
      rcases h3 with ⟨_, _, _, h3⟩ | ⟨h0, _⟩
      · rw [h3, hx2]
        have : ((k : Int) + 1 - 1).toNat = k := by omega
        rw [this, List.getElem?_set_self hL]
      · rw [hx1] at h0; cases h0
    · right
      exact ⟨x, by rw [h4]; exact List.mem_append_left _ hx, hx1, hx2⟩
theorem ht_end {n : Nat} {s : JN} (h : JI n s) (e : s.q = []) (g : HT n s) : HL 6 s := fun x hx => by
  obtain ⟨k, hk⟩ := List.mem_iff_getElem?.1 hx
  have hlt : k < n := by
    have := (List.getElem?_eq_some_iff.1 hk).1
    unfold LK at this; rw [List.length_map, h.yl] at this; exact this
  rcases g k hlt with g | ⟨m, hm, _⟩
  · rw [g] at hk; cases hk; exact ⟨6, rfl, Int.le_refl _⟩
  · rw [e] at hm; cases hm
def HQ (n : Nat) (s : JN) : Prop := ∀ k, k < n → ∃ m ∈ s.q, m.to = 1 ∧ m.port = (k : Int) + 1
theorem HQ.ht {n : Nat} {s : JN} (h : HQ n s) : HT n s := fun k hk => .inr (h k hk)
/-! ### a tick of one bridge -/
theorem ji_ticka {n : Nat} {s : JN} (h : JI n s) : JI n (toA s (tickA s.a) s.q) ∧ Phi (toA s (tickA s.a) s.q) ≤ Phi s + 200 ∧ (∀ k, RkA (k + 1) s.a → RkA k (toA s (tickA s.a) s.q).a) ∧
    (if 0 < IntKind.i64.wrap (s.a.beat - 1) then (toA s (tickA s.a) s.q).a.beat = IntKind.i64.wrap (s.a.beat - 1) else (toA s (tickA s.a) s.q).a.beat = 2 ∧ HQ n (toA s (tickA s.a) s.q)) := by
  obtain ⟨k, hg⟩ := h.g
  obtain ⟨x1, x2, e, x3, x4, x5⟩ := x_tick h.x
  rw [hg.a.told, List.nil_append] at x3
  have hlen := told_len hg.a.told hg.a.fl (fr_tick (n := 6) s.a hg.a.len)
  have hw := w_out0 (tickA s.a).told
  refine ⟨⟨⟨k + 1, good_tick0 hg⟩, (tk_tick _).len.trans h.xl, h.yl, x1.noT, h.y, h.yi, fun m hm => ?_⟩, ?_, fun k hk => x2 k hk, ?_⟩
  · rcases List.mem_append.1 hm with hm | hm
    · exact h.q m hm
    · obtain ⟨t, ht, rfl⟩ := mem_out0 hm
      rw [x3] at ht
      exact .inl ⟨rfl, by rw [← h.xl]; exact x4 t ht⟩
  · show wQ (s.q ++ outL 0 (tickA s.a).told) + 301 * unh s.b ≤ wQ s.q + 301 * unh s.b + 200
    rw [wQ_app]; omega
  · by_cases hb : 0 < IntKind.i64.wrap (s.a.beat - 1)
    · rw [if_pos hb] at x5 ⊢; exact x5
    · rw [if_neg hb] at x5 ⊢
      refine ⟨x5.1, fun k hk => ?_⟩
      obtain ⟨t, ht, hp⟩ := x5.2 k (by rw [h.xl]; exact hk)
      refine ⟨⟨1, t.port, t.d⟩, List.mem_append_right _ (List.mem_map.2 ⟨t, by rw [x3]; exact ht, rfl⟩), rfl, hp⟩
theorem ji_tickb {n : Nat} {s : JN} (h : JI n s) : JI n (toB s (tickA s.b) s.q) ∧ Phi (toB s (tickA s.b) s.q) ≤ wQ s.q + 2200 ∧ LK (toB s (tickA s.b) s.q).b = (LK s.b).map fadeK := by
  obtain ⟨k, hg⟩ := h.g
  obtain ⟨y1, y2⟩ := y_tick h.y
  have hlen := told_len hg.b.told hg.b.fl (fr_tick (n := 6) s.b hg.b.len)
  have hw := w_out1 (tickA s.b).told
  have hl2 : (tickA s.b).ps.length = n := (tk_tick _).len.trans h.yl
  have hn : n ≤ 6 := by rw [← h.yl]; exact hg.b.len
  refine ⟨⟨⟨k + 1, good_tick1 hg⟩, h.xl, hl2, h.x, y1.noT, (inv_tick h.yi).noT, fun m hm => ?_⟩, ?_, ?_⟩
  · rcases List.mem_append.1 hm with hm | hm
    · exact h.q m hm
    · obtain ⟨t, ht, rfl⟩ := mem_out1 hm
      exact .inr ⟨rfl, y1.told t ht⟩
  · show wQ (s.q ++ outL 1 (tickA s.b).told) + 301 * unh (noT (tickA s.b)) ≤ _
    have : unh (noT (tickA s.b)) ≤ n := by
      refine Nat.le_trans (List.countP_le_length ..) ?_
      unfold LK; rw [List.length_map]; exact Nat.le_of_eq hl2
    rw [wQ_app]; omega
  · show LK (noT (tickA s.b)) = _
    rw [← y2]; rfl
end Go.Ev
