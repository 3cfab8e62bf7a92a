/- A part of the proof: contracts of the functions that the statement reaches. -/
import Derived.Test.YtlngmicffhkghaaDoorE6
namespace Go.Ev
open Go.RowKit Go.Proofs
set_option maxRecDepth 100000
set_option linter.unusedSimpArgs false
set_option linter.unusedVariables false
set_option maxHeartbeats 4000000
/-- What the temporaries hold of the operations that are done. -/
def Tab (L : List (Nat × Nat × IV)) (dn : Nat → Bool) (tm : TM) : Prop := ∀ x ∈ L, dn x.1 = true → get tm x.2.1 = x.2.2
def keyed (L : List (Nat × Nat × IV)) : Bool := decide ((L.map (·.1)).Nodup) && decide ((L.map (·.2.1)).Nodup)
theorem nodup_fst {α β : Type} {f : α → β} : ∀ {L : List α} {x y : α}, (L.map f).Nodup → x ∈ L → y ∈ L → f x = f y → x = y
  | z :: L, x, y, hn, hx, hy, e => by
    rw [List.map_cons, List.nodup_cons] at hn
    rcases List.mem_cons.1 hx with rfl | hx
    · rcases List.mem_cons.1 hy with rfl | hy
      · rfl
      · exact absurd (List.mem_map.2 ⟨y, hy, e.symm⟩) hn.1
    · rcases List.mem_cons.1 hy with h | hy
      · rw [h] at e; exact absurd (List.mem_map.2 ⟨x, hx, e⟩) hn.1
      · exact nodup_fst hn.2 hx hy e
theorem Tab.put {L : List (Nat × Nat × IV)} {dn : Nat → Bool} {tm : TM} (h : Tab L dn tm) (hk : keyed L = true) {i t : Nat} {v : IV} (hin : (i, t, v) ∈ L) : Tab L (fun j => if j = i then true else dn j) (Ev.put tm (some t) v) := by
  simp only [keyed, Bool.and_eq_true, decide_eq_true_eq] at hk
  intro x hx hd
  simp only [Ev.put, Ev.get]
  by_cases e : t = x.2.1
  · rw [if_pos e]
    have := nodup_fst hk.2 hin hx e
    rw [← this]
  · rw [if_neg e]
    have hne : x.1 ≠ i := fun h2 => e (by have := nodup_fst hk.1 hin hx h2.symm; rw [← this])
    simp only [if_neg hne] at hd
    exact h x hx hd
theorem Tab.none {L : List (Nat × Nat × IV)} {dn : Nat → Bool} {tm : TM} (h : Tab L dn tm) {i : Nat} (hin : ∀ x ∈ L, x.1 ≠ i) : Tab L (fun j => if j = i then true else dn j) tm := by
  intro x hx hd
  simp only [if_neg (hin x hx)] at hd
  exact h x hx hd

section
variable {P : Program} {X : Ctx} {all : Array Oper} {tm : TM} {H : Heap} {o : Oper} {k J : TM → Heap → Prop} {d : Option Nat} {t : Nat} {p : String} {af : Array Edge} {g : Option (Nat × Bool)}
theorem gd_none (hg : o.guard = none) (h : evOp P X o k tm H) : gd (guardB all tm o.guard) (evOp P X o k) J tm H := by
  rw [hg]; exact ⟨fun _ => h, fun e => by cases e⟩
theorem op_move {x : Operand} (h : k (put tm d (rd tm x)) H) : evOp P X ⟨d, .move x, t, p, af, g⟩ k tm H := ⟨trivial, h⟩
theorem op_assign {x : Operand} (h : k (put tm d (rd tm x)) H) : evOp P X ⟨d, .assign x, t, p, af, g⟩ k tm H := ⟨trivial, h⟩
end
theorem bf {a b : Bool} (h : a = true → b = true) (hb : b = false) : a = false := by
  cases a with
  | false => rfl
  | true => rw [hb] at h; exact (h rfl).symm
structure Ch (dn : Nat → Bool) : Prop where
  c10 : dn 1 = true → dn 0 = true
  c41 : dn 4 = true → dn 1 = true
  c43 : dn 4 = true → dn 3 = true
  c54 : dn 5 = true → dn 4 = true
  c65 : dn 6 = true → dn 5 = true
  c76 : dn 7 = true → dn 6 = true
  c72 : dn 7 = true → dn 2 = true
  c87 : dn 8 = true → dn 7 = true
theorem Ch.step {dn : Nat → Bool} (h : Ch dn) (i : Nat) (hd : ∀ a b, (a, b) ∈ [(1, 0), (4, 1), (4, 3), (5, 4), (6, 5), (7, 6), (7, 2), (8, 7)] → a = i → dn b = true) : Ch (fun j => if j = i then true else dn j) := by
  have key : ∀ a b, (a, b) ∈ [(1, 0), (4, 1), (4, 3), (5, 4), (6, 5), (7, 6), (7, 2), (8, 7)] → (dn a = true → dn b = true) → (if a = i then true else dn a) = true → (if b = i then true else dn b) = true := by
    intro a b hm hab h1
    by_cases hb : b = i
    · rw [if_pos hb]
    · rw [if_neg hb]
      by_cases ha : a = i
      · exact hd a b hm ha
      · rw [if_neg ha] at h1; exact hab h1
  exact ⟨key 1 0 (by simp) h.c10, key 4 1 (by simp) h.c41, key 4 3 (by simp) h.c43, key 5 4 (by simp) h.c54, key 6 5 (by simp) h.c65, key 7 6 (by simp) h.c76, key 7 2 (by simp) h.c72, key 8 7 (by simp) h.c87⟩
def hB (ps qs : List PR) (pr : Nat) (d : Int) (nf : Nat) (c0 c1 c2 c3 c4 c5 c6 c7 c8 c9 c10 c11 c12 c13 : Nat) : Heap := [.rows false 3 (ps.map encL), .rows true 14 [cntR c0 c1 c2 c3 c4 c5 c6 c7 c8 c9 c10 c11 c12 c13], .rows true 9 (List.replicate nf zfR), .rows true 25 [stateR d c0 c1 c2 c3 c4 c5 c6 c7 c8 c9 c10 c11 c12 c13 qs.length nf], .rows true 21 (qs.map portR), .rows true 1 ((outP pr d nf qs qs.length).map sC)]
def oL (qs : List PR) (pr : Nat) (d : Int) (nf : Nat) (c0 c1 c2 c3 c4 c5 c6 c7 c8 c9 c10 c11 c12 c13 : Nat) : List ByteArray := headS pr d nf :: (lnsP qs qs.length ++ [lastS [c0, c1, c2, c3, c4, c5, c6, c7, c8, c9, c10, c11, c12, c13]])
def h16 (ps qs : List PR) (pr : Nat) (d : Int) (nf : Nat) (c0 c1 c2 c3 c4 c5 c6 c7 c8 c9 c10 c11 c12 c13 : Nat) (b1 b6 b7 : Bool) : Heap :=
  if b7 = true then (hB ps qs pr d nf c0 c1 c2 c3 c4 c5 c6 c7 c8 c9 c10 c11 c12 c13).set 5 .gone ++ [.rows true 1 ((oL qs pr d nf c0 c1 c2 c3 c4 c5 c6 c7 c8 c9 c10 c11 c12 c13).map sC), .rows true 1 [sC (lastS [c0, c1, c2, c3, c4, c5, c6, c7, c8, c9, c10, c11, c12, c13])], .rows true 1 ((oL qs pr d nf c0 c1 c2 c3 c4 c5 c6 c7 c8 c9 c10 c11 c12 c13).map sC)]
  else if b6 = true then hB ps qs pr d nf c0 c1 c2 c3 c4 c5 c6 c7 c8 c9 c10 c11 c12 c13 ++ [.rows true 1 ((oL qs pr d nf c0 c1 c2 c3 c4 c5 c6 c7 c8 c9 c10 c11 c12 c13).map sC), .rows true 1 [sC (lastS [c0, c1, c2, c3, c4, c5, c6, c7, c8, c9, c10, c11, c12, c13])]]
  else if b1 = true then hB ps qs pr d nf c0 c1 c2 c3 c4 c5 c6 c7 c8 c9 c10 c11 c12 c13 ++ [.rows true 1 ((oL qs pr d nf c0 c1 c2 c3 c4 c5 c6 c7 c8 c9 c10 c11 c12 c13).map sC)] else hB ps qs pr d nf c0 c1 c2 c3 c4 c5 c6 c7 c8 c9 c10 c11 c12 c13
def L16 (qs : List PR) (d : Int) (nf : Nat) (c0 c1 c2 c3 c4 c5 c6 c7 c8 c9 c10 c11 c12 c13 : Nat) : List (Nat × Nat × IV) := [(0, 137, .a (stateR d c0 c1 c2 c3 c4 c5 c6 c7 c8 c9 c10 c11 c12 c13 qs.length nf)), (1, 138, .s (.slice 6 0 (qs.length + 2))), (2, 139, .s (.slice 5 0 (qs.length + 1))), (3, 140, .a (cntR c0 c1 c2 c3 c4 c5 c6 c7 c8 c9 c10 c11 c12 c13)), (4, 141, .s (.raw (.string (showL [c0, c1, c2, c3, c4, c5, c6, c7, c8, c9, c10, c11, c12, c13])))), (5, 142, .s (.raw (.string (lastS [c0, c1, c2, c3, c4, c5, c6, c7, c8, c9, c10, c11, c12, c13])))), (6, 143, .s (.slice 7 0 1)), (7, 144, .s (.slice 8 0 (qs.length + 2))), (8, 145, .s (.raw (.bool true))), (9, 6, .s (.raw (.bool true)))]
def I16d (ps qs : List PR) (pr : Nat) (d : Int) (nf : Nat) (c0 c1 c2 c3 c4 c5 c6 c7 c8 c9 c10 c11 c12 c13 : Nat) (dn : Nat → Bool) (tm : TM) (H : Heap) : Prop :=
  (get tm 5 = .s (.ptr 1 0 0) ∧ get tm 7 = .s (.ptr 3 0 0) ∧ get tm 9 = .s (.slice 5 0 (qs.length + 1))) ∧ Tab (L16 qs d nf c0 c1 c2 c3 c4 c5 c6 c7 c8 c9 c10 c11 c12 c13) dn tm ∧ Ch dn ∧ H = h16 ps qs pr d nf c0 c1 c2 c3 c4 c5 c6 c7 c8 c9 c10 c11 c12 c13 (dn 1) (dn 6) (dn 7)
theorem I16d.put {ps qs : List PR} {pr : Nat} {d : Int} {nf : Nat} {c0 c1 c2 c3 c4 c5 c6 c7 c8 c9 c10 c11 c12 c13 : Nat} {dn : Nat → Bool} {tm : TM} {H H' : Heap} (h : I16d ps qs pr d nf c0 c1 c2 c3 c4 c5 c6 c7 c8 c9 c10 c11 c12 c13 dn tm H) {i t : Nat} {v : IV} (hin : (i, t, v) ∈ L16 qs d nf c0 c1 c2 c3 c4 c5 c6 c7 c8 c9 c10 c11 c12 c13) (ht : t ≠ 5 ∧ t ≠ 7 ∧ t ≠ 9)
    (hd : ∀ a b, (a, b) ∈ [(1, 0), (4, 1), (4, 3), (5, 4), (6, 5), (7, 6), (7, 2), (8, 7)] → a = i → dn b = true)
    (hH : H' = h16 ps qs pr d nf c0 c1 c2 c3 c4 c5 c6 c7 c8 c9 c10 c11 c12 c13 (if 1 = i then true else dn 1) (if 6 = i then true else dn 6) (if 7 = i then true else dn 7)) : I16d ps qs pr d nf c0 c1 c2 c3 c4 c5 c6 c7 c8 c9 c10 c11 c12 c13 (fun j => if j = i then true else dn j) (put tm (some t) v) H' := by
  obtain ⟨⟨g5, g7, g9⟩, hT, hC, _⟩ := h
  refine ⟨⟨?_, ?_, ?_⟩, hT.put rfl hin, hC.step i hd, hH⟩
  · simp only [Ev.put, get]; rw [if_neg ht.1]; exact g5
  · simp only [Ev.put, get]; rw [if_neg ht.2.1]; exact g7
  · simp only [Ev.put, get]; rw [if_neg ht.2.2]; exact g9
theorem I16d.at {ps qs : List PR} {pr : Nat} {d : Int} {nf : Nat} {c0 c1 c2 c3 c4 c5 c6 c7 c8 c9 c10 c11 c12 c13 : Nat} {dn : Nat → Bool} {tm : TM} {H : Heap} (h : I16d ps qs pr d nf c0 c1 c2 c3 c4 c5 c6 c7 c8 c9 c10 c11 c12 c13 dn tm H) (i : Nat) {t : Nat} {v : IV} (hin : (L16 qs d nf c0 c1 c2 c3 c4 c5 c6 c7 c8 c9 c10 c11 c12 c13)[i]? = some (i, t, v)) (hd : dn i = true) : get tm t = v := h.2.1 _ (List.mem_of_getElem? hin) hd
end Go.Ev
