/- A part of the proof: contracts of the functions that the statement reaches. -/
import Derived.Test.YtadikegdadnahaaT32
namespace Go.Ev
open Go.Proofs
set_option maxRecDepth 100000
set_option linter.unusedSimpArgs false
set_option linter.unusedVariables false
set_option maxHeartbeats 4000000
/-! ### what acts send: ports and ages within bounds -/
structure TkA (a b : AS) : Prop where
  len : b.ps.length = a.ps.length
  told : ∃ e, b.told = a.told ++ e ∧ ∀ t ∈ e, 0 ≤ t.port ∧ t.port ≤ (a.ps.length : Int) ∧ 0 ≤ t.d.age ∧ t.d.age ≤ 65535
theorem TkA.same {a b : AS} (h : b.ps.length = a.ps.length) (g : b.told = a.told) : TkA a b := ⟨h, [], by rw [g, List.append_nil], fun _ h => by cases h⟩
theorem TkA.refl (a : AS) : TkA a a := .same rfl rfl
theorem TkA.trans {a b c : AS} (h : TkA a b) (g : TkA b c) : TkA a c := by
  obtain ⟨e1, h1, q1⟩ := h.told
  obtain ⟨e2, h2, q2⟩ := g.told
  refine ⟨g.len.trans h.len, e1 ++ e2, by rw [h2, h1, List.append_assoc], fun t ht => ?_⟩
  rcases List.mem_append.1 ht with ht | ht
  · exact q1 t ht
  · have := q2 t ht; rw [h.len] at this; exact this
theorem TkA.send (a : AS) {port : Int} {d : PD} (h : 0 ≤ port ∧ port ≤ (a.ps.length : Int)) (hd : 0 ≤ d.age ∧ d.age ≤ 65535) : TkA a (sendA a port d) := ⟨rfl, [⟨port, d⟩], rfl, fun t ht => by
  rcases List.mem_singleton.1 ht with rfl
  exact ⟨h.1, h.2, hd.1, hd.2⟩⟩
theorem at_lt {l : List PE} {i : Nat} {p : PE} (h : l[i]? = some p) : i < l.length := (List.getElem?_eq_some_iff.1 h).1
theorem u16_in (x : Int) : 0 ≤ IntKind.u16.wrap x ∧ IntKind.u16.wrap x ≤ 65535 := by
  have h : IntKind.u16.wrap x = x % 65536 := by simp [IntKind.wrap, IntKind.bits, IntKind.signed]
  rw [h]; omega
theorem tk_tell {b : AS} {i : Nat} {p : PE} (h : b.ps[i]? = some p) : TkA b (tellA b i p) := .send b (by have := at_lt h; omega) (u16_in _)
theorem tk_itA {f : AS → Nat → PE → AS} (hf : ∀ b i p, b.ps[i]? = some p → TkA b (f b i p)) (a : AS) : ∀ i, TkA a (itA f a i)
  | 0 => .refl a
  | i + 1 => by
    cases hp : (itA f a i).ps[i]? with
    | some p => rw [itA_next hp]; exact (tk_itA hf a i).trans (hf _ _ _ hp)
    | none => simp only [itA, hp]; exact tk_itA hf a i
theorem tk_allA {f : AS → Nat → AS} (hf : ∀ b i, TkA b (f b i)) (l : List Bool) (a : AS) : ∀ i, TkA a (allA f l a i)
  | 0 => .refl a
  | i + 1 => by unfold allA; split; exact (tk_allA hf l a i).trans (hf _ _); exact tk_allA hf l a i
theorem tk_setA (a : AS) (i : Nat) (q : PE) : TkA a (setA a i q) := .same (by simp [setA]) rfl
theorem tk_spr (but : Int) (al : Bool) (b : AS) (i : Nat) (p : PE) (_ : b.ps[i]? = some p) : TkA b (sprI but al b i p) := by
  unfold sprI
  repeat' split
  all_goals exact .same (by simp) rfl
theorem tk_changed (a : AS) (i : Nat) (p : PE) : TkA a (changedA a i p) := by
  unfold changedA; split
  · exact .refl a
  · exact (show TkA a (chA a i p) from .same (by simp [chA]) rfl).trans (tk_itA (tk_spr _ _) _ _)
theorem tk_changedI (a : AS) (i : Nat) : TkA a (changedI a i) := by
  unfold changedI; split
  · exact tk_changed _ _ _
  · exact .refl a
theorem tk_tellI2 (a : AS) (i : Nat) : TkA a (tellI2 a i) := by
  unfold tellI2; split
  · rename_i p hp; exact tk_tell hp
  · exact .refl a
theorem tk_asI (R : List Int) (T : List V4) (b : AS) (i : Nat) (p : PE) (_ : b.ps[i]? = some p) : TkA b (asI R T b i p) := .same (by simp [asI]) rfl
theorem tk_choose (a : AS) : TkA a (chooseA a) := by
  unfold chooseA chooseRT
  have h1 := tk_itA (tk_asI (rolesA a) (tellsA a)) a a.ps.length
  have h2 := tk_allA tk_changedI (openN a.ps.length (rolesA a) (tellsA a) a a.ps.length) (itA (asI (rolesA a) (tellsA a)) a a.ps.length) a.ps.length
  exact (h1.trans h2).trans (tk_allA tk_tellI2 _ _ _)
theorem tk_start (a : AS) : TkA a (startA a) := by
  unfold startA
  have h1 : TkA a (zeroB a) := .same rfl rfl
  exact (h1.trans (tk_itA (f := startI) (fun b i p _ => tk_setA _ _ _) (zeroB a) a.ps.length)).trans (tk_choose _)
theorem tk_beatI (b : AS) (i : Nat) (p : PE) (hp : b.ps[i]? = some p) : TkA b (beatI b i p) := by
  unfold beatI
  repeat' split
  · exact tk_tell hp
  · exact .send b (by have := at_lt hp; omega) ⟨Int.le_refl _, (by show (0 : Int) ≤ 65535; decide)⟩
  all_goals exact .refl b
theorem tk_beat (a : AS) : TkA a (beatA a) := by
  unfold beatA; split
  · exact .same rfl rfl
  · have h1 : TkA a (beat1 a) := .same rfl rfl
    exact h1.trans (tk_itA tk_beatI _ _)
theorem tk_tick (a : AS) : TkA a (tickA a) := by
  unfold tickA tick2
  refine ((tk_itA (f := tick1I) (fun b i p _ => tk_setA _ _ _) a a.ps.length).trans (tk_choose _)).trans ?_
  exact ((tk_itA (f := stI) (fun b i p _ => tk_setA _ _ _) _ _).trans (tk_allA tk_changedI _ _ _)).trans (tk_beat _)
theorem tk_reply (a : AS) (i : Nat) (p : PE) (d : PD) : TkA a (replyA a i p d) := by
  unfold replyA
  repeat' split
  · exact (tk_setA _ _ _).trans (tk_changed _ _ _)
  · exact tk_setA _ _ _
  all_goals exact .refl a
theorem tk_agree (a : AS) (i : Nat) : TkA a (agreeA a i) := by
  have h : TkA a (itA (blkI i) a a.ps.length) := tk_itA (fun b k p _ => by unfold blkI; split; exact .refl b; exact tk_setA _ _ _) a _
  unfold agreeA
  split
  · rename_i p hp
    exact h.trans (.send _ (by have := at_lt hp; omega) ⟨Int.le_refl _, (by show (0 : Int) ≤ 65535; decide)⟩)
  · exact h
theorem tk_news {a : AS} {i : Nat} {p : PE} (hp : a.ps[i]? = some p) (d : PD) : TkA a (newsA a i p d) := by
  have h1 := tk_setA a i (hearP p (vecD d) d.age a.cf)
  have h2 := h1.trans (tk_choose _)
  have h3 : ∀ q, TkA a (tellA (setA a i q) i q) := fun q => (tk_setA a i q).trans (tk_tell (by simp [setA, at_lt hp]))
  unfold newsA
  repeat' split
  all_goals first | exact h1 | exact h2 | exact h2.trans (tk_agree _ _) | exact h3 _
theorem tk_hear1 (a : AS) (i : Nat) (p : PE) (d : PD) : TkA a (hear1 a i p d) := by
  unfold hear1
  by_cases hk : (if d.kind == 128 then true else d.top) = true
  · rw [if_pos hk]; exact (tk_setA _ _ _).trans (tk_itA (tk_spr _ _) _ _)
  · rw [if_neg hk]; exact tk_setA _ _ _
theorem tk_hear2 (c : AS) (i : Nat) (d : PD) : TkA c (hear2 c i d) := by
  unfold hear2
  split
  · exact .refl c
  · cases hp : c.ps[i]? with
    | none => exact .refl c
    | some p2 =>
      simp only []
      by_cases hk : (if d.kind == 2 then (if d.role == 2 then true else d.role == 1) else false) = true
      · rw [if_pos hk]; exact tk_reply _ _ _ _
      · rw [if_neg hk]; exact tk_news hp _
theorem tk_hear (a : AS) (port : Int) (d : PD) : TkA a (hearT a port d) := by
  unfold hearT
  split
  · exact .refl a
  split
  · exact .refl a
  cases a.ps[(port - 1).toNat]? with
  | none => exact .refl a
  | some p =>
    simp only []
    split
    · exact (tk_hear1 _ _ _ _).trans (tk_hear2 _ _ _)
    · exact .refl a
/-! ### two bridges: the plain run -/
structure JN where
  (a b : AS) (q : List LT)
def linksN (cs : List Int) : Nat := 1 + cs.length % 4
def setPL (cs : List Int) (i : Nat) : List SPt := (List.range i).map fun k => ⟨cs.getD k 1, 0, false, true, true⟩
def toA (s : JN) (n : AS) (q : List LT) : JN := ⟨noT n, s.b, q ++ outL 0 n.told⟩
def toB (s : JN) (n : AS) (q : List LT) : JN := ⟨s.a, noT n, q ++ outL 1 n.told⟩
def popJ (s : JN) : JN := match s.q with
  | [] => s
  | m :: q => if m.to = 0 then toA s (hearT s.a m.port m.d) q else toB s (hearT s.b m.port m.d) q
def drainJ (s : JN) : Nat → JN
  | 0 => s
  | k + 1 => popJ (drainJ s k)
def standN (acts : List Int) (i : Nat) (b : Int) : Bool := decide (i < 20) && (match acts[i]? with | some v => IntKind.i64.wrap (Int.tmod v 3) == b | none => false)
def tickJ (acts : List Int) (i : Nat) (s : JN) : Nat → JN
  | 0 => s
  | 1 => if standN acts i 0 then s else toA s (tickA s.a) s.q
  | _ + 2 => let s := tickJ acts i s 1; if standN acts i 1 then s else toB s (tickA s.b) s.q
def roundsJ (acts : List Int) (s : JN) : Nat → JN
  | 0 => s
  | i + 1 => tickJ acts i (drainJ (roundsJ acts s i) 5000) 2
def startJ (cs : List Int) : JN :=
  let a := startA (madeA ⟨1, 3, 1, 2⟩ (setPL cs (linksN cs)))
  let b := startA (madeA ⟨2, 3, 1, 2⟩ (setPL cs (linksN cs)))
  ⟨noT a, noT b, outL 0 a.told ++ outL 1 b.told⟩
/-- What the walk asks of a state between two acts. -/
structure GoodJ (s : JN) (k : Nat) : Prop where
  a : Good18 s.a
  b : Good18 s.b
  q : ∀ m ∈ s.q, (m.to = 0 ∨ m.to = 1) ∧ 0 ≤ m.port ∧ m.port ≤ 6 ∧ 0 ≤ m.d.age ∧ m.d.age ≤ 65535
  n : s.q.length ≤ 100 * k
theorem out_ok (frm : Int) (hf : frm = 0 ∨ frm = 1) {a n : AS} (ha : Good18 a) (h : TkA a n) : ∀ m ∈ outL frm n.told, (m.to = 0 ∨ m.to = 1) ∧ 0 ≤ m.port ∧ m.port ≤ 6 ∧ 0 ≤ m.d.age ∧ m.d.age ≤ 65535 := fun m hm => by
  obtain ⟨e, h1, h2⟩ := h.told
  rw [ha.told, List.nil_append] at h1
  rw [h1] at hm
  obtain ⟨t, ht, rfl⟩ := List.mem_map.1 hm
  obtain ⟨p1, p2, p3, p4⟩ := h2 t ht
  have := ha.len
  refine ⟨?_, p1, by show t.port ≤ 6; omega, p3, p4⟩
  rcases hf with rfl | rfl
  · right; rfl
  · left; rfl
theorem out_len (frm : Int) {a n : AS} {k : Nat} (ha : Good18 a) (f : FrA k a n) : (outL frm n.told).length ≤ k := by
  have h1 := f.sz
  have h2 := ha.sz
  have h3 := szA_t n
  have : (outL frm n.told).length = n.told.length := by simp [outL]
  omega
theorem good_toA {s : JN} {k : Nat} (h : GoodJ s k) {n : AS} {q : List LT} (hq : ∀ m ∈ q, m ∈ s.q) (hl : q.length ≤ s.q.length) (f : FrA 100 s.a n) (kp : KpA s.a n) (nn : NnA n) (tk : TkA s.a n) : GoodJ (toA s n q) (k + 1) := by
  refine ⟨h.a.next f kp nn, h.b, fun m hm => ?_, ?_⟩
  · rcases List.mem_append.1 hm with hm | hm
    · exact h.q m (hq m hm)
    · exact out_ok 0 (.inl rfl) h.a tk m hm
  · have h1 := out_len 0 h.a f
    have h2 := h.n
    show (q ++ outL 0 n.told).length ≤ _
    rw [List.length_append]; omega
theorem good_toB {s : JN} {k : Nat} (h : GoodJ s k) {n : AS} {q : List LT} (hq : ∀ m ∈ q, m ∈ s.q) (hl : q.length ≤ s.q.length) (f : FrA 100 s.b n) (kp : KpA s.b n) (nn : NnA n) (tk : TkA s.b n) : GoodJ (toB s n q) (k + 1) := by
  refine ⟨h.a, h.b.next f kp nn, fun m hm => ?_, ?_⟩
  · rcases List.mem_append.1 hm with hm | hm
    · exact h.q m (hq m hm)
    · exact out_ok 1 (.inr rfl) h.b tk m hm
  · have h1 := out_len 1 h.b f
    have h2 := h.n
    show (q ++ outL 1 n.told).length ≤ _
    rw [List.length_append]; omega
theorem GoodJ.le {s : JN} {k l : Nat} (h : GoodJ s k) (g : k ≤ l) : GoodJ s l := ⟨h.a, h.b, h.q, by have := h.n; omega⟩
theorem good_pop {s : JN} {k : Nat} (h : GoodJ s k) : GoodJ (popJ s) (k + 1) := by
  cases e : s.q with
  | nil => unfold popJ; rw [e]; exact h.le (by omega)
  | cons m q =>
    have hq : ∀ x ∈ q, x ∈ s.q := fun x hx => by rw [e]; exact List.mem_cons_of_mem _ hx
    have hl : q.length ≤ s.q.length := by rw [e]; simp
    unfold popJ; rw [e]
    simp only []
    split
    · exact good_toA h hq hl ((fr_hear (n := 6) s.a m.port m.d h.a.len).le (by omega)) (kp_hear _ _ _) (nn_hear _ _ h.a.nn) (tk_hear _ _ _)
    · exact good_toB h hq hl ((fr_hear (n := 6) s.b m.port m.d h.b.len).le (by omega)) (kp_hear _ _ _) (nn_hear _ _ h.b.nn) (tk_hear _ _ _)
theorem good_drain {s : JN} {k : Nat} (h : GoodJ s k) : ∀ j, GoodJ (drainJ s j) (k + j)
  | 0 => h
  | j + 1 => good_pop (good_drain h j)
theorem good_tick0 {s : JN} {k : Nat} (h : GoodJ s k) : GoodJ (toA s (tickA s.a) s.q) (k + 1) := good_toA h (fun _ h => h) (Nat.le_refl _) ((fr_tick (n := 6) s.a h.a.len).le (by omega)) (kp_tick _) (nn_tick h.a.nn) (tk_tick _)
theorem good_tick1 {s : JN} {k : Nat} (h : GoodJ s k) : GoodJ (toB s (tickA s.b) s.q) (k + 1) := good_toB h (fun _ h => h) (Nat.le_refl _) ((fr_tick (n := 6) s.b h.b.len).le (by omega)) (kp_tick _) (nn_tick h.b.nn) (tk_tick _)
theorem good_tick {s : JN} {k : Nat} (acts : List Int) (i : Nat) (h : GoodJ s k) : ∀ j, GoodJ (tickJ acts i s j) (k + j)
  | 0 => by unfold tickJ; exact h
  | 1 => by unfold tickJ; split; exact h.le (by omega); exact good_tick0 h
  | j + 2 => by
    have h1 := good_tick acts i h 1
    unfold tickJ
    simp only []
    split
    · exact h1.le (by omega)
    · exact (good_tick1 h1).le (by omega)
theorem good_rounds {s : JN} {k : Nat} (acts : List Int) (h : GoodJ s k) : ∀ i, GoodJ (roundsJ acts s i) (k + 5002 * i)
  | 0 => h
  | i + 1 => (good_tick acts i (good_drain (good_rounds acts h i) 5000) 2).le (by omega)
theorem good_startJ (cs : List Int) : GoodJ (startJ cs) 2 := by
  have h1 := made_good ⟨1, 3, 1, 2⟩ (setPL cs (linksN cs))
  have h2 := made_good ⟨2, 3, 1, 2⟩ (setPL cs (linksN cs))
  have g0 : GoodJ ⟨madeA ⟨1, 3, 1, 2⟩ (setPL cs (linksN cs)), madeA ⟨2, 3, 1, 2⟩ (setPL cs (linksN cs)), []⟩ 0 := ⟨h1, h2, fun _ h => by (cases h), Nat.zero_le _⟩
  have g1 := good_toA g0 (n := startA (madeA ⟨1, 3, 1, 2⟩ (setPL cs (linksN cs)))) (q := []) (fun _ h => h) (Nat.le_refl _) ((fr_start (n := 6) _ h1.len).le (by omega)) (kp_start _) (nn_start h1.nn) (tk_start _)
  exact good_toB g1 (n := startA (madeA ⟨2, 3, 1, 2⟩ (setPL cs (linksN cs)))) (q := outL 0 (startA (madeA ⟨1, 3, 1, 2⟩ (setPL cs (linksN cs)))).told) (fun _ h => h) (Nat.le_refl _) ((fr_start (n := 6) _ h2.len).le (by omega)) (kp_start _) (nn_start h2.nn) (tk_start _)
def LenJ (s : JN) (n : Nat) : Prop := s.a.ps.length = n ∧ s.b.ps.length = n
theorem len_pop {s : JN} {n : Nat} (h : LenJ s n) : LenJ (popJ s) n := by
  unfold popJ
  split
  · exact h
  · split
    · exact ⟨(tk_hear _ _ _).len.trans h.1, h.2⟩
    · exact ⟨h.1, (tk_hear _ _ _).len.trans h.2⟩
theorem len_drain {s : JN} {n : Nat} (h : LenJ s n) : ∀ j, LenJ (drainJ s j) n
  | 0 => h
  | j + 1 => len_pop (len_drain h j)
theorem len_tick {s : JN} {n : Nat} (acts : List Int) (i : Nat) (h : LenJ s n) : ∀ j, LenJ (tickJ acts i s j) n
  | 0 => by unfold tickJ; exact h
  | 1 => by unfold tickJ; split; exact h; exact ⟨(tk_tick _).len.trans h.1, h.2⟩
  | j + 2 => by
    have h1 := len_tick acts i h 1
    unfold tickJ
    simp only []
    split
    · exact h1
    · exact ⟨h1.1, (tk_tick _).len.trans h1.2⟩
theorem len_rounds {s : JN} {n : Nat} (acts : List Int) (h : LenJ s n) : ∀ i, LenJ (roundsJ acts s i) n
  | 0 => h
  | i + 1 => len_tick acts i (len_drain (len_rounds acts h i) 5000) 2
theorem len_startJ (cs : List Int) : LenJ (startJ cs) (linksN cs) := by
  have h : ∀ x, (madeA x (setPL cs (linksN cs))).ps.length = linksN cs := fun x => by
    have : linksN cs ≤ 4 := by unfold linksN; omega
    simp [madeA, setPL]; omega
  exact ⟨(tk_start _).len.trans (h _), (tk_start _).len.trans (h _)⟩
/-- The law's last look. -/
def okJ (p q : PE) : Bool := p.ro == 4 && p.st == 2 && (q.ro == 3 && q.st == 2 || q.ro == 1)
def lastJ (s : JN) (n : Nat) : Bool := (List.range n).all (fun i => match s.a.ps[i]?, s.b.ps[i]? with | some p, some q => okJ p q | _, _ => false) && ((s.b.ps.take n).countP fun q => q.ro == 3) == 1
def pairJ (cs acts : List Int) : Bool := lastJ (roundsJ acts (startJ cs) 60) (linksN cs)
end Go.Ev
