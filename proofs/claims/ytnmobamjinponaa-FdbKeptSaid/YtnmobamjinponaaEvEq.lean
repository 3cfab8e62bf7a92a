/- Structs and arrays held against one another, cell by cell. -/
import Derived.Test.YtnmobamjinponaaEvStep
import Derived.Laws.StructEq
import Derived.ChangeKeysEq
namespace Go.Ev
open Go.RowKit

/-- What compares cell by cell: the kinds of an aggregate's cells. -/
inductive Leaf where
  | int (k : IntKind) | bool | string
  deriving DecidableEq

def leafEq : Leaf → SV → SV → Option Bool
  | .int k, .raw (.int k1 a), .raw (.int k2 b) => if k1 = k ∧ k2 = k then some (a == b) else none
  | .bool, .raw (.bool a), .raw (.bool b) => some (a == b)
  | .string, .raw (.string a), .raw (.string b) => some (a.toList == b.toList)
  | _, _, _ => none

theorem leafEq_int {k : IntKind} {x y : SV} {b : Bool} (h : leafEq (.int k) x y = some b) : ∃ a c, x = .raw (.int k a) ∧ y = .raw (.int k c) ∧ b = (a == c) := by
  unfold leafEq at h
  split at h <;> first
    | (split at h
       · rename_i e hk; cases e; cases h; obtain ⟨rfl, rfl⟩ := hk; exact ⟨_, _, rfl, rfl, rfl⟩
       · cases h)
    | (rename_i e; cases e; done)
    | (cases h; done)
theorem leafEq_bool {x y : SV} {b : Bool} (h : leafEq .bool x y = some b) : ∃ a c, x = .raw (.bool a) ∧ y = .raw (.bool c) ∧ b = (a == c) := by
  unfold leafEq at h
  split at h <;> first
    | (rename_i e; cases e; done)
    | (cases h; exact ⟨_, _, rfl, rfl, rfl⟩)
    | (cases h; done)
theorem leafEq_string {x y : SV} {b : Bool} (h : leafEq .string x y = some b) : ∃ a c, x = .raw (.string a) ∧ y = .raw (.string c) ∧ b = (a.toList == c.toList) := by
  unfold leafEq at h
  split at h <;> first
    | (rename_i e; cases e; done)
    | (cases h; exact ⟨_, _, rfl, rfl, rfl⟩)
    | (cases h; done)

def cellsEq : List Leaf → List SV → List SV → Option Bool
  | [], [], [] => some true
  | t :: ts, x :: xs, y :: ys => match leafEq t x y with
    | some b => match cellsEq ts xs ys with
      | some c => some (b && c)
      | none => none
    | none => none
  | _, _, _ => none

mutual
def leavesOf (P : Program) : Nat → TypeId → Option (List Leaf)
  | 0, _ => none
  | d + 1, t => match P.underlying t with
    | some (.int k) => some [.int k]
    | some .bool => some [.bool]
    | some .string => some [.string]
    | some (.array n e) => match leavesOf P d e with
      | some l => if szT P e = some l.length ∧ szT P t = some (n * l.length) then some (List.replicate n l).flatten else none
      | none => none
    | some (.struct fs) => if P.stoodInHeld t then none else match leavesFields P d 0 fs.toList with
      | some ls => if szT P t = some ls.length then some ls else none
      | none => none
    | _ => none
def leavesFields (P : Program) : Nat → Nat → List Field → Option (List Leaf)
  | 0, _, _ => none
  | d + 1, off, fs => match fs with
    | [] => some []
    | f :: fs => if f.name ≠ "_" ∧ f.offset = off then match leavesOf P d f.type with
      | some a => if szT P f.type = some a.length then match leavesFields P d (off + a.length) fs with
        | some b => some (a ++ b)
        | none => none
        else none
      | none => none
      else none
end

def pack (P : Program) (t : TypeId) (vs : List Value) : Value := if aggT P t = some true then .agg vs.toArray else vs.headD undef

theorem cellsEq_append : ∀ {l1 l2 : List Leaf} {xs ys : List SV} {b : Bool}, cellsEq (l1 ++ l2) xs ys = some b →
    ∃ x1 x2 y1 y2 b1 b2, xs = x1 ++ x2 ∧ ys = y1 ++ y2 ∧ x1.length = l1.length ∧ y1.length = l1.length ∧ cellsEq l1 x1 y1 = some b1 ∧ cellsEq l2 x2 y2 = some b2 ∧ b = (b1 && b2)
  | [], l2, xs, ys, b, h => ⟨[], xs, [], ys, true, b, rfl, rfl, rfl, rfl, rfl, h, by simp⟩
  | t :: l1, l2, x :: xs, y :: ys, b, h => by
    simp only [List.cons_append, cellsEq] at h
    split at h
    · rename_i b0 hb0
      split at h
      · rename_i c hc
        cases h
        obtain ⟨x1, x2, y1, y2, b1, b2, rfl, rfl, hx, hy, h1, h2, rfl⟩ := cellsEq_append hc
        exact ⟨x :: x1, x2, y :: y1, y2, b0 && b1, b2, rfl, rfl, by simp [hx], by simp [hy], by simp [cellsEq, hb0, h1], h2, by simp [Bool.and_assoc]⟩
      · cases h
    · cases h
  | _ :: _, _, [], _, _, h => by simp [cellsEq] at h
  | _ :: _, _, _ :: _, [], _, h => by simp [cellsEq] at h

theorem cellsEq_len : ∀ {l : List Leaf} {xs ys : List SV} {b : Bool}, cellsEq l xs ys = some b → xs.length = l.length ∧ ys.length = l.length
  | l, xs, ys, b, h => by
    have := cellsEq_append (l1 := l) (l2 := []) (xs := xs) (ys := ys) (b := b) (by simpa using h)
    obtain ⟨x1, x2, y1, y2, b1, b2, rfl, rfl, hx, hy, _, h2, _⟩ := this
    match x2, y2, h2 with
    | [], [], _ => simp [hx, hy]

theorem relL_append {ρ : Ren} : ∀ {x1 x2 : List SV} {vs : List Value}, relL ρ (x1 ++ x2) vs → ∃ v1 v2, vs = v1 ++ v2 ∧ relL ρ x1 v1 ∧ relL ρ x2 v2
  | [], x2, vs, h => ⟨[], vs, rfl, trivial, h⟩
  | x :: x1, x2, v :: vs, h => by
    obtain ⟨v1, v2, rfl, h1, h2⟩ := relL_append h.2
    exact ⟨v :: v1, v2, rfl, ⟨h.1, h1⟩, h2⟩
  | _ :: _, _, [], h => h.elim

theorem relL.append {ρ : Ren} : ∀ {x1 x2 : List SV} {v1 v2 : List Value}, relL ρ x1 v1 → relL ρ x2 v2 → relL ρ (x1 ++ x2) (v1 ++ v2)
  | [], _, [], _, _, h => h
  | _ :: _, _, _ :: _, _, h, h2 => ⟨h.1, h.2.append h2⟩
  | [], _, _ :: _, _, h, _ => h.elim
  | _ :: _, _, [], _, h, _ => h.elim

section
variable {P : Program} {w : World}

theorem part_run {t : TypeId} {pre mid post : List Value} {ag : Bool} (hag : aggT P t = some ag) (hs : szT P t = some mid.length) (h1 : ag = false → mid.length = 1) :
    (part t (pre ++ mid ++ post).toArray pre.length).run P w = .ok (pack P t mid) w := by
  unfold part
  simp only [Sem.run_bind, run_isAgg' P w hag, Result.andThen_ok]
  cases ag with
  | true =>
    simp only [if_true, run_sizeOf' P w hs, Sem.run_bind, Result.andThen_ok, Sem.run_pure, pack, hag]
    congr 2
    apply Array.ext'
    simp
  | false =>
    obtain ⟨v, rfl⟩ := List.length_eq_one_iff.1 (h1 rfl)
    simp [pack, hag]

theorem aggT_leaf {d : Nat} {t : TypeId} {l : List Leaf} (h : leavesOf P d t = some l) : ∃ ag, aggT P t = some ag ∧ (ag = false → l.length = 1) := by
  cases d with
  | zero => simp [leavesOf] at h
  | succ d =>
    unfold leavesOf at h
    unfold aggT
    split at h
    · rename_i hu; simp [hu]; cases h; rfl
    · rename_i hu; simp [hu]; cases h; rfl
    · rename_i hu; simp [hu]; cases h; rfl
    · rename_i hu; simp [hu]
    · rename_i hu; simp [hu]
    · cases h

theorem cellsEq_self_none : True := trivial

theorem cellsOf_of {t : TypeId} {n : Nat} (h : szT P t = some n) : P.cellsOf t = n := by
  unfold szT at h
  cases hi : P.info? t with
  | none => simp [hi] at h
  | some i => simp [hi] at h; simp [Program.cellsOf, hi, h]

mutual
theorem eq_leaves {ρ : Ren} : ∀ (d : Nat) (t : TypeId) (ls : List Leaf), leavesOf P d t = some ls → ∀ (D : Nat), d ≤ D → ∀ (xs ys : List SV) (vs us : List Value) (b : Bool),
    relL ρ xs vs → relL ρ ys us → cellsEq ls xs ys = some b → (Op.equalIn D t (pack P t vs) (pack P t us)).run P w = .ok b w
  | 0, t, ls, h, _, _, _, _, _, _, _, _, _, _ => by simp [leavesOf] at h
  | d + 1, t, ls, h, D, hD, xs, ys, vs, us, b, hx, hy, he => by
    obtain ⟨D, rfl⟩ : ∃ D', D = D' + 1 := ⟨D - 1, by omega⟩
    have leaf : ∀ {l : Leaf}, ls = [l] → aggT P t = some false → (∀ (x y : SV) (v u : Value) (b : Bool), leafEq l x y = some b → relS ρ x v → relS ρ y u → (Op.equalIn (D + 1) t v u).run P w = .ok b w) →
        (Op.equalIn (D + 1) t (pack P t vs) (pack P t us)).run P w = .ok b w := by
      rintro l rfl hag k
      obtain ⟨h1, h2⟩ := cellsEq_len he
      obtain ⟨x, rfl⟩ := List.length_eq_one_iff.1 h1
      obtain ⟨y, rfl⟩ := List.length_eq_one_iff.1 h2
      obtain ⟨v, rfl⟩ := List.length_eq_one_iff.1 hx.len
      obtain ⟨u, rfl⟩ := List.length_eq_one_iff.1 hy.len
      simp only [cellsEq] at he
      split at he
      · rename_i b0 hb0
        simp at he
        subst he
        simp only [pack, hag]
        exact k x y v u b0 hb0 hx.1 hy.1
      · cases he
    unfold leavesOf at h
    split at h
    · rename_i k hu
      cases h
      refine leaf rfl (by simp [aggT, hu]) fun x y v u b hl h1 h2 => ?_
      obtain ⟨a, c, rfl, rfl, rfl⟩ := leafEq_int hl
      obtain ⟨rfl, _⟩ := h1; obtain ⟨rfl, _⟩ := h2
      simp [Op.equalIn, run_underlying' P w hu]
    · rename_i hu
      cases h
      refine leaf rfl (by simp [aggT, hu]) fun x y v u b hl h1 h2 => ?_
      obtain ⟨a, c, rfl, rfl, rfl⟩ := leafEq_bool hl
      obtain ⟨rfl, _⟩ := h1; obtain ⟨rfl, _⟩ := h2
      simp [Op.equalIn, run_underlying' P w hu]
    · rename_i hu
      cases h
      refine leaf rfl (by simp [aggT, hu]) fun x y v u b hl h1 h2 => ?_
      obtain ⟨a, c, rfl, rfl, rfl⟩ := leafEq_string hl
      obtain ⟨rfl, _⟩ := h1; obtain ⟨rfl, _⟩ := h2
      simp [Op.equalIn, run_underlying' P w hu, beq_toListBytes]
    · rename_i n e hu
      split at h
      · rename_i l hl
        split at h
        · rename_i hsz2
          have hsz := hsz2.1
          cases h
          have hag : aggT P t = some true := by simp [aggT, hu]
          simp only [pack, hag, if_true]
          have hinfo : ∃ i, P.info? e = some i := by
            unfold szT at hsz
            cases hi : P.info? e with
            | none => simp [hi] at hsz
            | some i => exact ⟨i, rfl⟩
          obtain ⟨i, hi⟩ := hinfo
          rw [run_equalIn_array (P := P) w D vs.toArray us.toArray hu hi, cellsOf_of hsz, List.range_eq_range']
          obtain ⟨ag, hage, h1⟩ := aggT_leaf hl
          -- the items, from the i-th on
          have items : ∀ (n : Nat) (pv pu vs us : List Value) (xs ys : List SV) (k : Nat) (b : Bool), pv.length = k * l.length → pu.length = k * l.length → relL ρ xs vs → relL ρ ys us → cellsEq (List.replicate n l).flatten xs ys = some b →
              (Op.eqItems D e l.length (pv ++ vs).toArray (pu ++ us).toArray (List.range' k n)).run P w = .ok b w := by
            intro n
            induction n with
            | zero =>
              intro pv pu vs us xs ys k b _ _ _ _ hc
              have := cellsEq_len hc
              simp at this
              obtain ⟨rfl, rfl⟩ := this
              simp [cellsEq] at hc; subst hc
              simp [Op.eqItems]
            | succ n ih =>
              intro pv pu vs us xs ys k b hpv hpu hx hy hc
              rw [List.replicate_succ, List.flatten_cons] at hc
              obtain ⟨x1, x2, y1, y2, b1, b2, rfl, rfl, hlx, hly, hc1, hc2, rfl⟩ := cellsEq_append hc
              obtain ⟨v1, v2, rfl, hv1, hv2⟩ := relL_append hx
              obtain ⟨u1, u2, rfl, hu1, hu2⟩ := relL_append hy
              have ev1 : v1.length = l.length := by rw [hv1.len, hlx]
              have eu1 : u1.length = l.length := by rw [hu1.len, hly]
              have p1 := part_run (P := P) (w := w) (t := e) (pre := pv) (mid := v1) (post := v2) hage (by rw [ev1]; exact hsz) (fun h => by rw [ev1]; exact h1 h)
              have p2 := part_run (P := P) (w := w) (t := e) (pre := pu) (mid := u1) (post := u2) hage (by rw [eu1]; exact hsz) (fun h => by rw [eu1]; exact h1 h)
              rw [hpv, List.append_assoc] at p1
              rw [hpu, List.append_assoc] at p2
              have p3 := eq_leaves d e l hl D (by omega) x1 y1 v1 u1 b1 hv1 hu1 hc1
              have p4 := ih (pv ++ v1) (pu ++ u1) v2 u2 x2 y2 (k + 1) b2 (by simp [hpv, ev1, Nat.add_mul]) (by simp [hpu, eu1, Nat.add_mul]) hv2 hu2 hc2
              simp only [List.append_assoc] at p4
              rw [List.range'_succ]
              simp only [Op.eqItems, Sem.run_bind, p1, p2, p3, Result.andThen_ok]
              cases b1
              · simp
              · simpa using p4
          exact items n [] [] vs us xs ys 0 b (by simp) (by simp) hx hy he
        · cases h
      · cases h
    · rename_i fs hu
      split at h
      · cases h
      · rename_i hst
        have hag : aggT P t = some true := by simp [aggT, hu]
        simp only [pack, hag, if_true]
        have hf : P.fieldsOf t = fs := by simp [Program.fieldsOf, hu]
        rw [run_equalIn_struct (P := P) w D t vs.toArray us.toArray (by rw [hf]; exact hu) (by simpa using hst), hf]
        split at h
        · rename_i ls' hls
          split at h
          · cases h
            exact eq_fields d 0 fs.toList ls hls D (by omega) [] [] xs ys vs us b rfl rfl hx hy he
          · cases h
        · cases h
    · cases h
theorem eq_fields {ρ : Ren} : ∀ (d off : Nat) (fs : List Field) (ls : List Leaf), leavesFields P d off fs = some ls → ∀ (D : Nat), d ≤ D → ∀ (pv pu : List Value) (xs ys : List SV) (vs us : List Value) (b : Bool),
    pv.length = off → pu.length = off → relL ρ xs vs → relL ρ ys us → cellsEq ls xs ys = some b → (Op.eqFields D (pv ++ vs).toArray (pu ++ us).toArray fs).run P w = .ok b w
  | 0, off, fs, ls, h, _, _, _, _, _, _, _, _, _, _, _, _, _, _ => by simp [leavesFields] at h
  | d + 1, off, [], ls, h, D, _, pv, pu, xs, ys, vs, us, b, _, _, hx, hy, he => by
    simp [leavesFields] at h; subst h
    have := cellsEq_len he
    simp at this
    obtain ⟨rfl, rfl⟩ := this
    simp [cellsEq] at he; subst he
    simp [Op.eqFields]
  | d + 1, off, f :: fs, ls, h, D, hD, pv, pu, xs, ys, vs, us, b, hpv, hpu, hx, hy, he => by
    unfold leavesFields at h
    simp only at h
    split at h
    · rename_i hfo
      split at h
      · rename_i l hl
        split at h
        · rename_i hsz
          split at h
          · rename_i l2 hl2
            cases h
            obtain ⟨x1, x2, y1, y2, b1, b2, rfl, rfl, hlx, hly, hc1, hc2, rfl⟩ := cellsEq_append he
            obtain ⟨v1, v2, rfl, hv1, hv2⟩ := relL_append hx
            obtain ⟨u1, u2, rfl, hu1, hu2⟩ := relL_append hy
            have ev1 : v1.length = l.length := by rw [hv1.len, hlx]
            have eu1 : u1.length = l.length := by rw [hu1.len, hly]
            obtain ⟨ag, hage, h1⟩ := aggT_leaf hl
            have p1 := part_run (P := P) (w := w) (t := f.type) (pre := pv) (mid := v1) (post := v2) hage (by rw [ev1]; exact hsz) (fun h => by rw [ev1]; exact h1 h)
            have p2 := part_run (P := P) (w := w) (t := f.type) (pre := pu) (mid := u1) (post := u2) hage (by rw [eu1]; exact hsz) (fun h => by rw [eu1]; exact h1 h)
            rw [hpv, List.append_assoc, ← hfo.2] at p1
            rw [hpu, List.append_assoc, ← hfo.2] at p2
            have p3 := eq_leaves d f.type l hl D (by omega) x1 y1 v1 u1 b1 hv1 hu1 hc1
            have p4 := eq_fields d (off + l.length) fs l2 hl2 D (by omega) (pv ++ v1) (pu ++ u1) x2 y2 v2 u2 b2 (by simp [hpv, ev1]) (by simp [hpu, eu1]) hv2 hu2 hc2
            simp only [List.append_assoc] at p4
            simp only [Op.eqFields, if_pos hfo.1, Sem.run_bind, p1, p2, p3, Result.andThen_ok]
            cases b1
            · simp
            · simpa using p4
          · cases h
        · cases h
      · cases h
    · cases h
end
end
end Go.Ev
