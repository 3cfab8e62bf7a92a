/- A part of the proof: contracts of the functions that the statement reaches. -/
import Derived.Test.YtadikegdadnahaaT39
namespace Go.Ev
open Go.Proofs
set_option maxRecDepth 100000
set_option linter.unusedSimpArgs false
set_option linter.unusedVariables false
set_option maxHeartbeats 4000000
/-! ### the start -/
def gS (c : CF) (p : PE) : PE := switchP (switchP p false p.ad c) p.up p.ad c
structure S0 (c : CF) (q : PE) : Prop where
  on : onP q = true
  cost : 1 ≤ q.cost ∧ q.cost ≤ 4
  nf : q.nf = 0
  ro : q.ro = 0
  ed : q.ed = false
  prio : q.prio = 0
theorem gS_made (c : CF) {x : Int} (hx : 0 ≤ x ∧ x ≤ 255) : S0 c (gS c (madeP ⟨x, 0, false, true, true⟩)) := by
  have e : gS c (madeP ⟨x, 0, false, true, true⟩) = { madeP ⟨x, 0, false, true, true⟩ with pl := true, wait := c.de } := by
    simp [gS, switchP, offP, forgetP, onP, madeP]
  rw [e]
  refine ⟨rfl, ?_, rfl, rfl, rfl, rfl⟩
  show 1 ≤ IntKind.u32.wrap (1 + IntKind.u32.wrap (Int.tmod x 4)) ∧ IntKind.u32.wrap (1 + IntKind.u32.wrap (Int.tmod x 4)) ≤ 4
  have h1 : Int.tmod x 4 = x % 4 := Int.tmod_eq_emod_of_nonneg hx.1
  have h2 : ∀ y, IntKind.u32.wrap y = y % 4294967296 := fun y => by simp [IntKind.wrap, IntKind.bits, IntKind.signed]
  rw [h1, h2, h2]; omega
def Byt (cs : List Int) : Prop := ∀ c ∈ cs, 0 ≤ c ∧ c ≤ 255
theorem made_port {x : SET} {cs : List Int} (hc : Byt cs) {n k : Nat} {p : PE} (h : (madeA x (setPL cs n)).ps[k]? = some p) : ∃ c, (0 ≤ c ∧ c ≤ 255) ∧ p = madeP ⟨c, 0, false, true, true⟩ := by
  have hm := List.mem_of_getElem? h
  obtain ⟨s, hs, rfl⟩ := List.mem_map.1 hm
  obtain ⟨j, hj, rfl⟩ := List.mem_map.1 (List.mem_of_mem_take hs)
  refine ⟨_, ?_, rfl⟩
  rw [List.getD_eq_getElem?_getD]
  cases e : cs[j]? with
  | none => exact ⟨by decide, by decide⟩
  | some c => exact hc c (List.mem_of_getElem? e)
theorem start_form (a : AS) : (itA startI (zeroB a) a.ps.length).cf = a.cf ∧ (itA startI (zeroB a) a.ps.length).told = a.told ∧ (itA startI (zeroB a) a.ps.length).beat = 0 ∧ (itA startI (zeroB a) a.ps.length).ps = a.ps.map (gS a.cf) :=
  ⟨(itA_map gS (zeroB a) a.ps.length 0).1, (itA_map gS (zeroB a) a.ps.length 0).2.1, (itA_map gS (zeroB a) a.ps.length 0).2.2.1, itA_mapL gS (zeroB a)⟩
theorem start_port {x : SET} {cs : List Int} (hc : Byt cs) {n k : Nat} {q : PE} (h : (itA startI (zeroB (madeA x (setPL cs n))) (madeA x (setPL cs n)).ps.length).ps[k]? = some q) : S0 (madeA x (setPL cs n)).cf q := by
  rw [(start_form _).2.2.2, List.getElem?_map] at h
  cases hp : (madeA x (setPL cs n)).ps[k]? with
  | none => rw [hp] at h; cases h
  | some p =>
    rw [hp] at h; cases h
    obtain ⟨c, hb, rfl⟩ := made_port hc hp
    exact gS_made _ hb
theorem y_start {cs : List Int} (hc : Byt cs) (n : Nat) : YI (startA (madeA ⟨2, 3, 1, 2⟩ (setPL cs n))) := by
  obtain ⟨h1, h2, h3, h4⟩ := start_form (madeA ⟨2, 3, 1, 2⟩ (setPL cs n))
  unfold startA
  refine (y_choose ⟨?_, ?_, ?_, fun k q hq => ?_, ?_⟩).1
  · rw [h1]; rfl
  · rw [h1]; rfl
  · rw [h1]; rfl
  · have h := start_port hc hq
    exact ⟨h.on, h.cost, .inl h.nf, (fun e => by rw [h.nf] at e; cases e), (fun e => by rw [h.nf] at e; cases e)⟩
  · rw [h2]; intro t ht; cases ht
theorem best_0 {self : Int} {L : List PT} (h : ∀ x ∈ L, x.heard = false) : ∀ i, (bestW self L i).n = 0
  | 0 => rfl
  | i + 1 => by
    unfold bestW
    cases hx : L[i]? with
    | none => exact best_0 h i
    | some x =>
      have := h x (List.mem_of_getElem? hx)
      simp only [stepW, isWay, this, Bool.false_and, Bool.and_false, Bool.false_eq_true, if_false]
      exact best_0 h i
theorem x_start {cs : List Int} (hc : Byt cs) {n : Nat} (hn : n ≤ 6) : XI (startA (madeA ⟨1, 3, 1, 2⟩ (setPL cs n))) ∧ RkA 8 (startA (madeA ⟨1, 3, 1, 2⟩ (setPL cs n))) ∧ (startA (madeA ⟨1, 3, 1, 2⟩ (setPL cs n))).beat = 0 ∧ ∀ t ∈ (startA (madeA ⟨1, 3, 1, 2⟩ (setPL cs n))).told, TT (madeA ⟨1, 3, 1, 2⟩ (setPL cs n)).ps.length t.port t.d := by
  have hI := inv_start (madeA ⟨1, 3, 1, 2⟩ (setPL cs n))
  have hl6 : (madeA ⟨1, 3, 1, 2⟩ (setPL cs n)).ps.length ≤ 6 := madeA_len _ _
  obtain ⟨h1, h2, h3, h4⟩ := start_form (madeA ⟨1, 3, 1, 2⟩ (setPL cs n))
  have hP := fun k q => start_port (x := ⟨1, 3, 1, 2⟩) hc (n := n) (k := k) (q := q)
  have hlen : (itA startI (zeroB (madeA ⟨1, 3, 1, 2⟩ (setPL cs n))) (madeA ⟨1, 3, 1, 2⟩ (setPL cs n)).ps.length).ps.length = (madeA ⟨1, 3, 1, 2⟩ (setPL cs n)).ps.length := by rw [h4, List.length_map]
  have hid : (madeA ⟨1, 3, 1, 2⟩ (setPL cs n)).cf.id = 2 := rfl
  have hhe : (madeA ⟨1, 3, 1, 2⟩ (setPL cs n)).cf.he = 2 := rfl
  have hde : (madeA ⟨1, 3, 1, 2⟩ (setPL cs n)).cf.de = 3 := rfl
  have htd : (madeA ⟨1, 3, 1, 2⟩ (setPL cs n)).told = [] := rfl
  unfold startA at hI ⊢
  rw [← h1] at hid hhe hde hP
  rw [← h2] at htd
  clear h1 h2 h4
  generalize itA startI (zeroB (madeA ⟨1, 3, 1, 2⟩ (setPL cs n))) (madeA ⟨1, 3, 1, 2⟩ (setPL cs n)).ps.length = b at *
  rw [← hlen] at hl6
  rw [← hlen]
  have hh : hA b = ⟨2, 0, 0⟩ := by
    have : (bestW b.cf.id (ptsA b) (ptsA b).length).n = 0 := best_0 (fun x hx => by
      obtain ⟨k, hk⟩ := List.mem_iff_getElem?.1 hx
      have hlt : k < b.ps.length := by rw [← ptsA_len]; exact (List.getElem?_eq_some_iff.1 hk).1
      obtain ⟨p, hp⟩ : ∃ p, b.ps[k]? = some p := ⟨_, List.getElem?_eq_getElem hlt⟩
      rw [ptsA_get hp] at hk
      cases hk
      simp [ptOf, (hP k p hp).nf]) _
    unfold hA chS
    rw [if_neg (by omega), hid]
  have hR : ∀ (k : Nat) (p : PE), b.ps[k]? = some p → (rolesA b).getD k 0 = 4 ∧ (tellsA b).getD k ⟨0, 0, 0, 0⟩ = ⟨2, 0, 2, (k : Int) + 1⟩ := fun k p hp => by
    have q := hP k p hp
    have hk : k < b.ps.length := (List.getElem?_eq_some_iff.1 hp).1
    rw [getD_of (rolesA_get hp), getD_of (tellsA_get hp), hh]
    constructor
    · unfold roleI
      simp only [ptOf, q.on, q.nf]
      rw [if_neg (by simp), if_neg (by simp; omega), if_pos (by simp)]
    · unfold tellI ptOf idP
      simp only [hid, q.prio]
      have e0 : shL IntKind.i64 0 12 = 0 := by decide
      have h2 : ∀ y, IntKind.u16.wrap y = y % 65536 := fun y => by simp [IntKind.wrap, IntKind.bits, IntKind.signed]
      rw [e0, wr_i64 (by omega) (by omega), h2]
      have : (0 + ((k : Int) + 1)) % 65536 = (k : Int) + 1 := by omega
      rw [this]
  obtain ⟨c2, g, g2, e⟩ := choose_form b
  have hport : ∀ (k : Nat) (q : PE), (itA (asI (rolesA b) (tellsA b)) b b.ps.length).ps[k]? = some q → onP q = true ∧ q.ro = 4 ∧ q.nf = 1 ∧ q.v = ⟨2, 0, 2, (k : Int) + 1⟩ ∧ RkP 8 q := fun k q hq => by
    rw [(itA_as _ _ _ _ _).2] at hq
    cases hp : b.ps[k]? with
    | none => rw [hp] at hq; split at hq <;> cases hq
    | some p =>
      have hk : k < b.ps.length := (List.getElem?_eq_some_iff.1 hp).1
      rw [if_pos hk, hp] at hq
      cases hq
      obtain ⟨r1, r2⟩ := hR k p hp
      have q := hP k p hp
      rw [r1, r2]
      obtain ⟨n1, n2⟩ := as_4 p ⟨2, 0, 2, (k : Int) + 1⟩ b.cf
      refine ⟨(as_keep p 4 _ b.cf).1.trans q.on, as_ro _ _ _ _, n1, n2, ?_⟩
      have e : asP p 4 ⟨2, 0, 2, (k : Int) + 1⟩ b.cf = { p with ro := 4, nf := 1, v := ⟨2, 0, 2, (k : Int) + 1⟩, age := 0, life := 0, ag := false, st := 0, wait := b.cf.de } := by
        simp [asP, desP, des1, desA, des2, des3, edgeP, q.ro, q.nf, q.ed]
      show RkP 8 (asP p 4 _ b.cf)
      rw [e]
      exact ⟨rfl, by show 0 ≤ b.cf.de; omega, by show b.cf.de ≤ 3; omega, .inr (.inr ⟨rfl, by show b.cf.de + 5 ≤ 8; omega⟩)⟩
  have hc2 : ∀ (k : Nat) (q : PE), c2.ps[k]? = some q → onP q = true ∧ q.ro = 4 ∧ q.nf = 1 ∧ q.v = ⟨2, 0, 2, (k : Int) + 1⟩ := fun k q hq => by
    obtain ⟨p, hp, e⟩ := g.get hq
    obtain ⟨e1, e2, e3, e4, _⟩ := ky_eq e
    obtain ⟨a1, a2, a3, a4, _⟩ := hport k p hp
    exact ⟨e1.trans a1, e2.trans a2, e3.trans a3, e4.trans a4⟩
  have hcl : c2.ps.length = b.ps.length := by
    have h1 : (chooseA b).ps.length = b.ps.length := (tk_choose b).len
    rw [e] at h1; exact h1
  have hX : XI (chooseA b) := ⟨by rw [choose_cf]; exact hid, by rw [choose_cf]; exact hhe, by rw [choose_cf]; exact hde, hI, fun k q hq => by rw [e] at hq; exact hc2 k q hq⟩
  refine ⟨hX, ?_, by rw [choose_beat]; exact h3, fun t ht => ?_⟩
  · have : RkA 8 (itA (asI (rolesA b) (tellsA b)) b b.ps.length) := fun q hq => by
      obtain ⟨k, hk⟩ := List.mem_iff_getElem?.1 hq
      exact (hport k q hk).2.2.2.2
    have := this.to g2
    rw [e]; exact this
  · rw [e] at ht
    rcases List.mem_append.1 ht with ht | ht
    · rw [g.told, (itA_asI_told _ _ _ _).1, htd] at ht; cases ht
    · obtain ⟨k, p, _, hp, rfl⟩ := tlN_mem _ ht
      have hro : ∀ p ∈ c2.ps, p.ro = 4 := fun p hp => by
        obtain ⟨k, hk⟩ := List.mem_iff_getElem?.1 hp
        exact (hc2 k p hk).2.1
      rw [← hcl]
      exact x_tell hro (List.getElem?_eq_some_iff.1 hp).1 (hc2 k p hp).2.2.2
/-- What holds ahead of each round. -/
structure RI (n : Nat) (s : JN) : Prop where
  j : JI n s
  phi : Phi s < 5000
  bt : 0 ≤ s.a.beat ∧ s.a.beat ≤ 2
  rk : RkA 8 s.a
theorem unh_le {n : Nat} {s : JN} (h : JI n s) : unh s.b ≤ 6 := by
  obtain ⟨k, hg⟩ := h.g
  have := hg.b.len
  refine Nat.le_trans (List.countP_le_length ..) ?_
  unfold LK; rw [List.length_map]; exact this
theorem ri_start {cs : List Int} (hc : Byt cs) : RI (linksN cs) (startJ cs) := by
  have hn : linksN cs ≤ 6 := by unfold linksN; omega
  obtain ⟨x1, x2, x3, x4⟩ := x_start hc hn
  have y1 := y_start hc (linksN cs)
  have hl := len_startJ cs
  have m1 := made_good ⟨1, 3, 1, 2⟩ (setPL cs (linksN cs))
  have m2 := made_good ⟨2, 3, 1, 2⟩ (setPL cs (linksN cs))
  have l1 := told_len m1.told m1.fl (fr_start (n := 6) _ m1.len)
  have l2 := told_len m2.told m2.fl (fr_start (n := 6) _ m2.len)
  have w1 := w_out0 (startA (madeA ⟨1, 3, 1, 2⟩ (setPL cs (linksN cs)))).told
  have w2 := w_out1 (startA (madeA ⟨2, 3, 1, 2⟩ (setPL cs (linksN cs)))).told
  have hx : (madeA ⟨1, 3, 1, 2⟩ (setPL cs (linksN cs))).ps.length = linksN cs := by simp [madeA, setPL]; omega
  have hJ : JI (linksN cs) (startJ cs) := ⟨⟨2, good_startJ cs⟩, hl.1, hl.2, x1.noT, y1.noT, (inv_start _).noT, fun m hm => by
    rcases List.mem_append.1 hm with hm | hm
    · obtain ⟨t, ht, rfl⟩ := mem_out0 hm
      exact .inl ⟨rfl, by rw [← hx]; exact x4 t ht⟩
    · obtain ⟨t, ht, rfl⟩ := mem_out1 hm
      exact .inr ⟨rfl, y1.told t ht⟩⟩
  have hu := unh_le hJ
  have hb : (startJ cs).a.beat = 0 := x3
  refine ⟨hJ, ?_, ⟨by omega, by omega⟩, x2⟩
  have e : Phi (startJ cs) = wQ (outL 0 (startA (madeA ⟨1, 3, 1, 2⟩ (setPL cs (linksN cs)))).told ++ outL 1 (startA (madeA ⟨2, 3, 1, 2⟩ (setPL cs (linksN cs)))).told) + 301 * unh (startJ cs).b := rfl
  rw [e, wQ_app]
  omega
theorem RkA.le {j k : Nat} {a : AS} (h : RkA j a) (g : j ≤ k) : RkA k a := fun p hp => (h p hp).le g
/-- A drain: what it keeps. -/
structure DR (n : Nat) (s d : JN) : Prop where
  j : JI n d
  q : d.q = []
  bt : d.a.beat = s.a.beat
  rk : ∀ k, RkA k s.a → RkA k d.a
  hl : ∀ l, l ≤ 6 → HL l s → HL l d
  ht : HT n s → HL 6 d
theorem ri_drain {n : Nat} {s : JN} (h : RI n s) : DR n s (drainJ s 5000) := by
  have h0 := ji_drained h.j h.phi (P := fun _ => True) (fun _ _ _ _ _ _ => trivial) trivial
  refine ⟨h0.1, h0.2.2, ?_, fun k hk => ?_, fun l hl g => ?_, fun g => ?_⟩
  · refine (ji_drained h.j h.phi (P := fun d => d.a.beat = s.a.beat) (fun t m q hj e g => ?_) rfl).2.1
    obtain ⟨_, _, h3, _⟩ := ji_pop hj e
    rcases h3 with ⟨_, _, h3, _⟩ | ⟨_, _, h3, _⟩
    · rw [h3]; exact g
    · rw [h3]; exact g
  · refine (ji_drained h.j h.phi (P := fun d => RkA k d.a) (fun t m q hj e g => ?_) hk).2.1
    obtain ⟨_, _, h3, _⟩ := ji_pop hj e
    rcases h3 with ⟨_, _, h3, _⟩ | ⟨_, _, _, h3⟩
    · rw [h3]; exact g
    · exact h3 k g
  · exact (ji_drained h.j h.phi (P := HL l) (fun t m q hj e g => hl_pop hl t m q hj e g) g).2.1
  · obtain ⟨a1, a2, a3⟩ := ji_drained h.j h.phi (P := HT n) (fun t m q hj e g => ht_pop t m q hj e g) g
    exact ht_end a1 a3 a2
theorem beat_next {b : Int} (h : 0 ≤ b ∧ b ≤ 2) : IntKind.i64.wrap (b - 1) = b - 1 := wr_i64 (by omega) (by omega)
theorem ri_a {n : Nat} {d : JN} (h : JI n d) (hq : d.q = []) (hb : 0 ≤ d.a.beat ∧ d.a.beat ≤ 2) (hr : RkA 8 d.a) : JI n (toA d (tickA d.a) d.q) ∧ wQ (toA d (tickA d.a) d.q).q ≤ 200 ∧ (0 ≤ (toA d (tickA d.a) d.q).a.beat ∧ (toA d (tickA d.a) d.q).a.beat ≤ 2) ∧ RkA 8 (toA d (tickA d.a) d.q).a := by
  obtain ⟨h1, h2, h3, h4⟩ := ji_ticka h
  refine ⟨h1, ?_, ?_, h3 8 (hr.le (by omega))⟩
  · have e : Phi (toA d (tickA d.a) d.q) = wQ (toA d (tickA d.a) d.q).q + 301 * unh d.b := rfl
    have e2 : Phi d = wQ d.q + 301 * unh d.b := rfl
    have e3 : wQ d.q = 0 := by rw [hq]; rfl
    omega
  · split at h4
    · rename_i hc; rw [beat_next hb] at hc h4; omega
    · omega
theorem ri_round {n : Nat} (acts : List Int) (i : Nat) {s : JN} (h : RI n s) : RI n (tickJ acts i (drainJ s 5000) 2) := by
  have d := ri_drain h
  have hb : 0 ≤ (drainJ s 5000).a.beat ∧ (drainJ s 5000).a.beat ≤ 2 := by rw [d.bt]; exact h.bt
  have hr := d.rk 8 h.rk
  obtain ⟨a1, a2, a3, a4⟩ := ri_a d.j d.q hb hr
  have w0 : wQ (drainJ s 5000).q = 0 := by rw [d.q]; rfl
  have hfin : ∀ t : JN, JI n t → wQ t.q ≤ 200 → (0 ≤ t.a.beat ∧ t.a.beat ≤ 2) → RkA 8 t.a → RI n t ∧ RI n (toB t (tickA t.b) t.q) := fun t h1 h2 h3 h4 => by
    obtain ⟨b1, b2, _⟩ := ji_tickb h1
    have hu := unh_le h1
    exact ⟨⟨h1, by show wQ t.q + 301 * unh t.b < 5000; omega, h3, h4⟩, ⟨b1, by omega, h3, h4⟩⟩
  unfold tickJ
  simp only []
  have hs : JI n (tickJ acts i (drainJ s 5000) 1) ∧ wQ (tickJ acts i (drainJ s 5000) 1).q ≤ 200 ∧ (0 ≤ (tickJ acts i (drainJ s 5000) 1).a.beat ∧ (tickJ acts i (drainJ s 5000) 1).a.beat ≤ 2) ∧ RkA 8 (tickJ acts i (drainJ s 5000) 1).a := by
    unfold tickJ
    split
    · exact ⟨d.j, by omega, hb, hr⟩
    · exact ⟨a1, a2, a3, a4⟩
  generalize tickJ acts i (drainJ s 5000) 1 = t at *
  obtain ⟨s1, s2, s3, s4⟩ := hs
  split
  · exact (hfin t s1 s2 s3 s4).1
  · exact (hfin t s1 s2 s3 s4).2
theorem hl_tick {l : Int} {L : List (Option Int)} (hl : 1 ≤ l) (h : ∀ x ∈ L, ∃ v, x = some v ∧ l + 1 ≤ v) : ∀ x ∈ L.map fadeK, ∃ v, x = some v ∧ l ≤ v := fun x hx => by
  obtain ⟨y, hy, rfl⟩ := List.mem_map.1 hx
  obtain ⟨v, rfl, hv⟩ := h y hy
  refine ⟨v - 1, ?_, by omega⟩
  show (if 1 < v then some (v - 1) else none) = some (v - 1)
  rw [if_pos (by omega)]
/-- A round in which both clocks go. -/
theorem ri_calm {n : Nat} (acts : List Int) {i : Nat} (hi : 20 ≤ i) {s : JN} (h : RI n s) : (∀ k, RkA (k + 1) s.a → RkA k (tickJ acts i (drainJ s 5000) 2).a) ∧ (∀ l, 1 ≤ l → l ≤ 5 → HL (l + 1) s → HL l (tickJ acts i (drainJ s 5000) 2)) ∧ (HT n s → HL 5 (tickJ acts i (drainJ s 5000) 2)) ∧
    (if 0 < s.a.beat - 1 then (tickJ acts i (drainJ s 5000) 2).a.beat = s.a.beat - 1 else (tickJ acts i (drainJ s 5000) 2).a.beat = 2 ∧ HQ n (tickJ acts i (drainJ s 5000) 2)) := by
  have d := ri_drain h
  have hs : ∀ b, standN acts i b = false := fun b => by unfold standN; rw [decide_eq_false (by omega), Bool.false_and]
  have e : tickJ acts i (drainJ s 5000) 2 = toB (toA (drainJ s 5000) (tickA (drainJ s 5000).a) (drainJ s 5000).q) (tickA (toA (drainJ s 5000) (tickA (drainJ s 5000).a) (drainJ s 5000).q).b) (toA (drainJ s 5000) (tickA (drainJ s 5000).a) (drainJ s 5000).q).q := by
    simp only [tickJ, hs]; rfl
  rw [e]
  generalize drainJ s 5000 = t at *
  obtain ⟨a1, a2, a3, a4⟩ := ji_ticka d.j
  obtain ⟨b1, b2, b3⟩ := ji_tickb a1
  have hb : IntKind.i64.wrap (t.a.beat - 1) = s.a.beat - 1 := by rw [d.bt]; exact beat_next h.bt
  rw [hb] at a4
  refine ⟨fun k hk => a3 k (d.rk _ hk), fun l h1 h2 hl => ?_, fun ht => ?_, ?_⟩
  · have := d.hl (l + 1) (by omega) hl
    unfold HL
    rw [b3]
    exact hl_tick h1 this
  · have := d.ht ht
    unfold HL
    rw [b3]
    exact hl_tick (l := 5) (by decide) this
  · split
    · rename_i hc; rw [if_pos hc] at a4; exact a4
    · rename_i hc; rw [if_neg hc] at a4
      refine ⟨a4.1, fun k hk => ?_⟩
      obtain ⟨m, hm, h1, h2⟩ := a4.2 k hk
      exact ⟨m, List.mem_append_left _ hm, h1, h2⟩
theorem ri_rounds {cs : List Int} (hc : Byt cs) (acts : List Int) : ∀ i, RI (linksN cs) (roundsJ acts (startJ cs) i)
  | 0 => ri_start hc
  | i + 1 => ri_round acts i (ri_rounds hc acts i)
theorem rk_rounds {cs : List Int} (hc : Byt cs) (acts : List Int) : ∀ j, RkA (8 - j) (roundsJ acts (startJ cs) (20 + j)).a
  | 0 => (ri_rounds hc acts 20).rk
  | j + 1 => (ri_calm acts (i := 20 + j) (by omega) (ri_rounds hc acts (20 + j))).1 _ ((rk_rounds hc acts j).le (by omega))
theorem hl_end {cs : List Int} (hc : Byt cs) (acts : List Int) : HL 3 (roundsJ acts (startJ cs) 60) := by
  have r := ri_rounds hc acts
  have s := fun i (hi : 20 ≤ i) => ri_calm acts hi (r i)
  have hb := (r 56).bt
  have s56 := s 56 (by decide)
  have s57 := s 57 (by decide)
  have s58 := s 58 (by decide)
  have s59 := s 59 (by decide)
  have le : ∀ {l m : Int} {t : JN}, HL l t → m ≤ l → HL m t := fun h g x hx => by
    obtain ⟨v, e, hv⟩ := h x hx; exact ⟨v, e, by omega⟩
  by_cases c : 0 < (roundsJ acts (startJ cs) 56).a.beat - 1
  · have h1 := s56.2.2.2
    rw [if_pos c] at h1
    have h2 : (roundsJ acts (startJ cs) 57).a.beat = (roundsJ acts (startJ cs) 56).a.beat - 1 := h1
    have h3 := s57.2.2.2
    rw [if_neg (by omega)] at h3
    have h4 : HL 5 (roundsJ acts (startJ cs) 59) := s58.2.2.1 h3.2.ht
    exact le (s59.2.1 4 (by decide) (by decide) h4) (by decide)
  · have h1 := s56.2.2.2
    rw [if_neg c] at h1
    have h2 : HL 5 (roundsJ acts (startJ cs) 58) := s57.2.2.1 h1.2.ht
    have h3 : HL 4 (roundsJ acts (startJ cs) 59) := s58.2.1 4 (by decide) (by decide) h2
    exact s59.2.1 3 (by decide) (by decide) h3
/-! ### the last look -/
theorem best_n {self : Int} {L : List PT} : ∀ i, 0 ≤ (bestW self L i).n ∧ (bestW self L i).n ≤ (i : Int) ∧ (0 < i → (∃ x, L[i - 1]? = some x ∧ isWay self x = true) → 0 < (bestW self L i).n)
  | 0 => ⟨Int.le_refl _, Int.le_refl _, fun h => by omega⟩
  | i + 1 => by
    obtain ⟨h1, h2, _⟩ := best_n (self := self) (L := L) i
    unfold bestW
    cases hx : L[i]? with
    | none =>
      simp only []
      exact ⟨h1, by omega, fun _ ⟨x, hy, _⟩ => by rw [Nat.add_sub_cancel, hx] at hy; cases hy⟩
    | some x =>
      simp only []
      unfold stepW
      cases hw : isWay self x with
      | false => exact ⟨h1, by simp; omega, fun _ ⟨y, hy, hw2⟩ => by rw [Nat.add_sub_cancel, hx] at hy; cases hy; rw [hw] at hw2; cases hw2⟩
      | true =>
        simp only [if_true]
        repeat' split
        · simp; omega
        · simp; omega
        · rename_i hn _
          have : (bestW self L i).n ≠ 0 := by simpa using hn
          exact ⟨h1, by omega, fun _ _ => by omega⟩
theorem cnt_one {m : Int} : ∀ (l : List PE) (o : Int), (∀ (k : Nat) (p : PE), l[k]? = some p → (p.ro = 3 ↔ o + (k : Int) + 1 = m)) → l.countP (fun q => q.ro == 3) = if o + 1 ≤ m ∧ m ≤ o + (l.length : Int) then 1 else 0
  | [], o, h => by
    rw [if_neg (by simp; omega)]; rfl
  | p :: l, o, h => by
    have ih := cnt_one (m := m) l (o + 1) fun k q hq => by
      have := h (k + 1) q (by rw [List.getElem?_cons_succ]; exact hq)
      rw [this]; constructor <;> intro e <;> omega
    have h0 := h 0 p rfl
    rw [List.countP_cons, ih, List.length_cons]
    by_cases e : p.ro = 3
    · have := h0.1 e
      have hb : (p.ro == 3) = true := by rw [e]; rfl
      simp only [hb, if_true]
      repeat' split
      all_goals omega
    · have : ¬ o + ((0 : Nat) : Int) + 1 = m := fun g => e (h0.2 g)
      have hb : (p.ro == 3) = false := by simpa using e
      simp only [hb, Bool.false_eq_true, if_false]
      repeat' split
      all_goals omega
theorem last_ok {n : Nat} (hn : 1 ≤ n) {s : JN} (h : JI n s) (hr : RkA 0 s.a) (hl : HL 3 s) : lastJ s n = true := by
  have hy : ∀ (k : Nat) (p : PE), s.b.ps[k]? = some p → p.nf = 2 := fun k p hp => by
    have : lk p ∈ LK s.b := List.mem_map_of_mem (List.mem_of_getElem? hp)
    obtain ⟨v, e, _⟩ := hl _ this
    unfold lk at e
    split at e
    · assumption
    · cases e
  have hro : ∀ (k : Nat) (p : PE), s.b.ps[k]? = some p → p.ro = if (k : Int) + 1 = (hA s.b).n then 3 else 1 := fun k p hp => by
    have h1 := y_role h.y.toYW hp (hy k p hp)
    have h2 := h.yi.ro k p hp
    rw [h1] at h2
    exact (Option.some.inj h2).symm
  have hid := h.y.id
  have hnn : 1 ≤ (hA s.b).n ∧ (hA s.b).n ≤ (n : Int) := by
    have hL : (ptsA s.b).length = n := by rw [ptsA_len]; exact h.yl
    obtain ⟨p, hp⟩ : ∃ p, s.b.ps[n - 1]? = some p := ⟨_, List.getElem?_eq_getElem (by rw [h.yl]; omega)⟩
    have hP := h.y.p _ p hp
    have hw : isWay s.b.cf.id (ptOf p (n - 1)) = true := by
      have hv := (hP.hd (hy _ p hp)).1
      simp [isWay, ptOf, hP.on, hy _ p hp, hv, hid]
    obtain ⟨b1, b2, b3⟩ := best_n (self := s.b.cf.id) (L := ptsA s.b) n
    have b4 := b3 (by omega) ⟨_, ptsA_get hp, hw⟩
    have b5 := y_best h.y.toYW n
    have e : hA s.b = ⟨(bestW s.b.cf.id (ptsA s.b) n).v.r, (bestW s.b.cf.id (ptsA s.b) n).v.c, (bestW s.b.cf.id (ptsA s.b) n).n⟩ := by
      unfold hA chS
      rw [hL, if_pos ⟨b4, by rcases b5 with e | ⟨e, _⟩; omega; rw [e, hid]; decide⟩]
    rw [e]; exact ⟨by show 1 ≤ (bestW s.b.cf.id (ptsA s.b) n).n; omega, b2⟩
  unfold lastJ
  rw [Bool.and_eq_true]
  constructor
  · rw [List.all_eq_true]
    intro i hi
    have hi := List.mem_range.1 hi
    obtain ⟨p, hp⟩ : ∃ p, s.a.ps[i]? = some p := ⟨_, List.getElem?_eq_getElem (by rw [h.xl]; exact hi)⟩
    obtain ⟨q, hq⟩ : ∃ q, s.b.ps[i]? = some q := ⟨_, List.getElem?_eq_getElem (by rw [h.yl]; exact hi)⟩
    rw [hp, hq]
    have p4 := (h.x.p i p hp).2.1
    have p2 : p.st = 2 := by
      obtain ⟨_, w1, w2, w3⟩ := hr p (List.mem_of_getElem? hp)
      omega
    have hq1 := hro i q hq
    show okJ p q = true
    unfold okJ
    rw [p4, p2]
    by_cases e : (i : Int) + 1 = (hA s.b).n
    · rw [if_pos e] at hq1
      have := h.yi.root q (List.mem_of_getElem? hq) hq1
      rw [hq1, this]; rfl
    · rw [if_neg e] at hq1
      rw [hq1]; rfl
  · have ht : s.b.ps.take n = s.b.ps := List.take_of_length_le (by rw [h.yl]; exact Nat.le_refl _)
    rw [ht, cnt_one (m := (hA s.b).n) s.b.ps 0 (fun k p hp => by
      rw [hro k p hp]
      constructor
      · intro e; split at e
        · omega
        · cases e
      · intro e; rw [if_pos (by omega)])]
    rw [if_pos (by rw [h.yl]; omega)]; rfl
theorem pair_ok {cs : List Int} (hc : Byt cs) (acts : List Int) : pairJ cs acts = true := by
  unfold pairJ
  exact last_ok (by unfold linksN; omega) (ri_rounds hc acts 60).j (rk_rounds hc acts 40) (hl_end hc acts)
end Go.Ev
