/- Maps with keys of any plain kind: looked up, laid, taken out, counted; function values. -/
import Derived.Test.YtnmobamjinponaaEvAny
import Derived.WideKeyRuns
namespace Go.Ev
open Go.RowKit

section
variable {P : Program} {X : Ctx} {ρ : Ren} {H : Heap} {w : World} {tm : TM} {k : TM → Heap → Prop} {d : Option Nat} {t : Nat} {p : String} {af : Array Edge} {g : Option (Nat × Bool)}

/-- Does a value stand as a type's values do? -/
def shapeB (P : Program) (kt : TypeId) (x : IV) : Bool := match aggT P kt, x with
  | some true, .a _ => true
  | some false, .s _ => true
  | _, _ => false
theorem shape_pack {kt : TypeId} {x : IV} {v : Value} (hs : shapeB P kt x = true) (hr : relC ρ x v) : ∃ vs, relL ρ x.cells vs ∧ v = pack P kt vs := by
  unfold shapeB at hs
  split at hs
  · rename_i hag
    obtain ⟨cs, rfl, hl⟩ := hr
    exact ⟨cs, hl, by simp [pack, hag]⟩
  · rename_i x hag
    exact ⟨[v], ⟨hr, trivial⟩, by simp [pack, hag]⟩
  · cases hs

mutual
theorem check_leaves (em : Bool) : ∀ (d : Nat) (t : TypeId) (ls : List Leaf), leavesOf P d t = some ls → ∀ (D : Nat), d ≤ D → ∀ (vs : List Value), vs.length = ls.length → (Instr.checkKey em D t (pack P t vs)).run P w = .ok () w
  | 0, t, ls, h, _, _, _, _ => by simp [leavesOf] at h
  | d + 1, t, ls, h, D, hD, vs, hv => by
    obtain ⟨D, rfl⟩ : ∃ D', D = D' + 1 := ⟨D - 1, by omega⟩
    unfold leavesOf at h
    split at h
    · rename_i k hu
      rw [Instr.checkKey]
      simp [run_underlying' P w hu]
    · rename_i hu
      rw [Instr.checkKey]
      simp [run_underlying' P w hu]
    · rename_i hu
      rw [Instr.checkKey]
      simp [run_underlying' P w hu]
    · rename_i n e hu
      split at h
      · rename_i l hl
        split at h
        · rename_i hsz2
          have hsz := hsz2.1
          cases h
          have hag : aggT P t = some true := by simp [aggT, hu]
          obtain ⟨ag, hage, h1⟩ := aggT_leaf hl
          simp only [pack, hag, if_true]
          rw [Instr.checkKey]
          simp only [Sem.run_bind, run_underlying' P w hu, Result.andThen_ok]
          simp only [Std.Legacy.Range.forIn_eq_forIn_range', Std.Legacy.Range.size, Nat.sub_zero, Nat.add_one_sub_one, Nat.div_one]
          have items : ∀ (n : Nat) (pv vs : List Value) (k : Nat), pv.length = k * l.length → vs.length = n * l.length →
              (forIn (List.range' k n) PUnit.unit fun i (_ : PUnit) => do
                Instr.checkKey em D e (← part e (pv ++ vs).toArray (i * (← sizeOf e)))
                pure (ForInStep.yield PUnit.unit) : Sem PUnit).run P w = .ok PUnit.unit w := by
            intro n
            induction n with
            | zero => intro pv vs k _ _; simp
            | succ n ih =>
              intro pv vs k hpv hvs
              obtain ⟨v1, v2, rfl, ev1⟩ : ∃ v1 v2, vs = v1 ++ v2 ∧ v1.length = l.length := ⟨vs.take l.length, vs.drop l.length, (List.take_append_drop _ _).symm, by simp [hvs, Nat.add_mul]⟩
              have p1 := part_run (P := P) (w := w) (t := e) (pre := pv) (mid := v1) (post := v2) hage (by rw [ev1]; exact hsz) (fun h => by rw [ev1]; exact h1 h)
              rw [hpv, List.append_assoc] at p1
              have p3 := check_leaves em d e l hl D (by omega) v1 ev1
              have p4 := ih (pv ++ v1) v2 (k + 1) (by simp [hpv, ev1, Nat.add_mul]) (by simp [ev1, Nat.add_mul] at hvs; omega)
              rw [List.append_assoc] at p4
              rw [List.range'_succ]
              simp only [List.forIn_cons, Sem.run_bind, run_sizeOf' P w hsz, Result.andThen_ok, p1, p3, Sem.run_pure]
              exact p4
          have := items n [] vs 0 (by simp) (by rw [hv]; simp)
          simp at this
          simp [this]
        · cases h
      · cases h
    · rename_i fs hu
      split at h
      · cases h
      · rename_i hst
        have hag : aggT P t = some true := by simp [aggT, hu]
        simp only [pack, hag, if_true]
        split at h
        · rename_i ls' hls
          split at h
          · cases h
            rw [Instr.checkKey]
            simp only [Sem.run_bind, run_underlying' P w hu, Result.andThen_ok]
            rw [← Array.forIn_toList]
            have := check_fields em d 0 fs.toList ls hls D (by omega) [] vs rfl hv
            rw [List.nil_append] at this
            rw [this]
            rfl
          · cases h
        · cases h
    · cases h
theorem check_fields (em : Bool) : ∀ (d off : Nat) (fs : List Field) (ls : List Leaf), leavesFields P d off fs = some ls → ∀ (D : Nat), d ≤ D → ∀ (pv vs : List Value), pv.length = off → vs.length = ls.length →
    (forIn fs PUnit.unit fun f (_ : PUnit) => do
      if f.name ≠ "_" then
        Instr.checkKey em D f.type (← part f.type (pv ++ vs).toArray f.offset)
        pure (ForInStep.yield PUnit.unit)
      else pure (ForInStep.yield PUnit.unit) : Sem PUnit).run P w = .ok PUnit.unit w
  | 0, off, fs, ls, h, _, _, _, _, _, _ => by simp [leavesFields] at h
  | d + 1, off, [], ls, h, D, _, pv, vs, _, _ => by simp
  | d + 1, off, f :: fs, ls, h, D, hD, pv, vs, hpv, hv => by
    unfold leavesFields at h
    simp only at h
    split at h
    · rename_i hfo
      split at h
      · rename_i l hl
        split at h
        · rename_i hsz
          split at h
          · rename_i l2 hl2
            cases h
            rw [List.length_append] at hv
            obtain ⟨v1, v2, rfl, ev1⟩ : ∃ v1 v2, vs = v1 ++ v2 ∧ v1.length = l.length := ⟨vs.take l.length, vs.drop l.length, (List.take_append_drop _ _).symm, by simp [hv]⟩
            obtain ⟨ag, hage, h1⟩ := aggT_leaf hl
            have p1 := part_run (P := P) (w := w) (t := f.type) (pre := pv) (mid := v1) (post := v2) hage (by rw [ev1]; exact hsz) (fun h => by rw [ev1]; exact h1 h)
            rw [hpv, List.append_assoc, ← hfo.2] at p1
            have p3 := check_leaves em d f.type l hl D (by omega) v1 ev1
            have p4 := check_fields em d (off + l.length) fs l2 hl2 D (by omega) (pv ++ v1) v2 (by simp [hpv, ev1]) (by simp [ev1] at hv; omega)
            rw [List.append_assoc] at p4
            simp only [List.forIn_cons, if_pos hfo.1, Sem.run_bind, p1, p3, Result.andThen_ok, Sem.run_pure]
            exact p4
          · cases h
        · cases h
      · cases h
    · cases h
end

theorem leaf_same {l : Leaf} {x y : SV} {v u : Value} (h : leafEq l x y = some true) (hx : relS ρ x v) (hy : relS ρ y u) : v = u ∧ ∀ n, Instr.sameBits n v v = true := by
  cases l with
  | int k =>
    obtain ⟨a, c, rfl, rfl, e⟩ := leafEq_int h
    obtain ⟨rfl, _⟩ := hx; obtain ⟨rfl, _⟩ := hy
    have : a = c := by simpa using e.symm
    subst this
    exact ⟨rfl, fun n => by cases n <;> simp [Instr.sameBits]⟩
  | bool =>
    obtain ⟨a, c, rfl, rfl, e⟩ := leafEq_bool h
    obtain ⟨rfl, _⟩ := hx; obtain ⟨rfl, _⟩ := hy
    have : a = c := by simpa using e.symm
    subst this
    exact ⟨rfl, fun n => by cases n <;> simp [Instr.sameBits]⟩
  | string =>
    obtain ⟨a, c, rfl, rfl, e⟩ := leafEq_string h
    obtain ⟨rfl, _⟩ := hx; obtain ⟨rfl, _⟩ := hy
    have : a = c := by
      have h2 : a.toList = c.toList := by simpa using e.symm
      rw [ByteArray.toList_eq, ByteArray.toList_eq] at h2
      exact WideShapes.bytes_inj h2
    subst this
    exact ⟨rfl, fun n => by cases n <;> simp only [Instr.sameBits] <;> rw [beq_toListBytes] <;> exact beq_self_eq_true _⟩
theorem cells_same : ∀ {ls : List Leaf} {xs ys : List SV} {vs us : List Value}, cellsEq ls xs ys = some true → relL ρ xs vs → relL ρ ys us → vs = us ∧ ∀ n, ∀ v ∈ vs, Instr.sameBits n v v = true
  | [], [], [], [], [], _, _, _ => ⟨rfl, fun _ _ h => by cases h⟩
  | l :: ls, x :: xs, y :: ys, v :: vs, u :: us, h, hx, hy => by
    unfold cellsEq at h
    split at h
    · rename_i b hb
      split at h
      · rename_i c hc
        simp at h
        obtain ⟨rfl, rfl⟩ := h
        obtain ⟨rfl, h1⟩ := leaf_same hb hx.1 hy.1
        obtain ⟨rfl, h2⟩ := cells_same hc hx.2 hy.2
        exact ⟨rfl, fun n v hv => by
          rcases List.mem_cons.1 hv with rfl | hv
          · exact h1 n
          · exact h2 n v hv⟩
      · cases h
    · cases h
  | [], [], [], _ :: _, _, _, h, _ => h.elim
  | [], [], [], [], _ :: _, _, _, h => h.elim
  | [], _ :: _, _, _, _, h, _, _ => by simp [cellsEq] at h
  | [], [], _ :: _, _, _, h, _, _ => by simp [cellsEq] at h
  | _ :: _, [], _, _, _, h, _, _ => by simp [cellsEq] at h
  | _ :: _, _ :: _, [], _, _, h, _, _ => by simp [cellsEq] at h
  | _ :: _, _ :: _, _ :: _, [], _, _, h, _ => h.elim
  | _ :: _, _ :: _, _ :: _, _ :: _, [], _, _, h => h.elim
theorem bits_agg : ∀ (vs : List Value) (n : Nat), (∀ v ∈ vs, Instr.sameBits n v v = true) → ((vs.zip vs).all fun (x, y) => Instr.sameBits n x y) = true
  | [], _, _ => rfl
  | v :: vs, n, h => by
    simp only [List.zip_cons_cons, List.all_cons, h v (by simp), Bool.true_and]
    exact bits_agg vs n fun u hu => h u (List.mem_cons_of_mem _ hu)
theorem pack_same {kt : TypeId} {vs : List Value} (h : ∀ n, ∀ v ∈ vs, Instr.sameBits n v v = true) (hag : aggT P kt = some false → vs.length = 1) (hag0 : aggT P kt ≠ none) : Instr.sameBits 10000 (pack P kt vs) (pack P kt vs) = true := by
  unfold pack
  split
  · simp only [Instr.sameBits, beq_self_eq_true, Bool.true_and]
    have := bits_agg vs 9999 fun v hv => h _ v hv
    simpa using this
  · rename_i hne
    cases e : aggT P kt with
    | none => exact absurd e hag0
    | some b =>
      cases b with
      | true => exact absurd e hne
      | false =>
        obtain ⟨v, rfl⟩ := List.length_eq_one_iff.1 (hag e)
        exact h _ v (by simp)

/-- Where a key stands among entries. -/
def findI (ls : List Leaf) (x : IV) : List (IV × IV × Nat) → List MapEntry → Nat → Option (Nat × Value)
  | y :: q, e :: es, i => if cellsEq ls x.cells y.1.cells = some true then some (i, e.val) else findI ls x q es (i + 1)
  | _, _, _ => none

theorem shape_one {kt : TypeId} {x : IV} (hag : aggT P kt = some false) (hs : shapeB P kt x = true) : ∃ s, x = .s s := by
  unfold shapeB at hs
  split at hs
  · rename_i h; rw [hag] at h; cases h
  · exact ⟨_, rfl⟩
  · cases hs

theorem findKey_run {kt : TypeId} {ls : List Leaf} (hl : leavesOf P 60 kt = some ls) {x : IV} {kv : Value} (hx : relC ρ x kv) (sx : shapeB P kt x = true) :
    ∀ {q : List (IV × IV × Nat)} {es : List MapEntry}, relM ρ q es → (∀ y ∈ q, shapeB P kt y.1 = true ∧ ∃ b, cellsEq ls x.cells y.1.cells = some b) → (Instr.findKey kt kv es).run P w = .ok (findI ls x q es 0) w := by
  intro q es hq hk
  obtain ⟨vs, hvs, rfl⟩ := shape_pack sx hx
  have plain : ∀ {kd : TypeDesc} {l : Leaf}, P.underlying kt = some kd → ls = [l] → aggT P kt = some false → (∀ (x y : SV) (v u : Value) (b : Bool), leafEq l x y = some b → relS ρ x v → relS ρ y u → Instr.sameNow kd v u = some b) →
      (Instr.findKey kt (pack P kt vs) es).run P w = .ok (findI ls x q es 0) w := by
    rintro kd l hu rfl hag hs
    obtain ⟨x, rfl⟩ := shape_one hag sx
    obtain ⟨v, rfl⟩ := List.length_eq_one_iff.1 hvs.len
    have gen : ∀ (q : List (IV × IV × Nat)) (es : List MapEntry) (i : Nat), relM ρ q es → (∀ y ∈ q, shapeB P kt y.1 = true ∧ ∃ b, cellsEq [l] (IV.s x).cells y.1.cells = some b) → Instr.findNow kd v es i = some (findI [l] (.s x) q es i) := by
      intro q
      induction q with
      | nil => intro es i hq _; cases es with
        | nil => rfl
        | cons _ _ => exact hq.elim
      | cons y q ih => intro es i hq hk; cases es with
        | nil => exact hq.elim
        | cons e es =>
          obtain ⟨s1, b, hb⟩ := hk y (by simp)
          obtain ⟨y1, hy1⟩ := shape_one hag s1
          rw [hy1] at hb
          simp only [IV.cells, cellsEq] at hb
          split at hb
          · rename_i b0 hb0
            simp at hb
            subst hb
            have hy := hq.1
            rw [hy1] at hy
            have := hs x y1 v e.key b0 hb0 hvs.1 hy
            simp only [Instr.findNow, this, findI, hy1, IV.cells, cellsEq, hb0]
            cases b0 with
            | true => simp
            | false => simpa using ih es (i + 1) hq.2.2.2 fun z hz => hk z (List.mem_cons_of_mem _ hz)
          · cases hb
    have := gen q es 0 hq hk
    simp only [pack, hag, Option.some.injEq, Bool.false_eq_true, if_false, List.headD_cons]
    simp only [Instr.findKey, Sem.run_bind, run_underlying' P w hu, Result.andThen_ok, this, Sem.run_pure]
  have wide : (match P.underlying kt with | some (.array _ _) | some (.struct _) => true | _ => false) = true → (Instr.findKey kt (pack P kt vs) es).run P w = .ok (findI ls x q es 0) w := by
    intro hw
    rw [run_findKey_eq w hw]
    have gen : ∀ (q : List (IV × IV × Nat)) (es : List MapEntry) (i : Nat), relM ρ q es → (∀ y ∈ q, shapeB P kt y.1 = true ∧ ∃ b, cellsEq ls x.cells y.1.cells = some b) → (Instr.findAsking kt (pack P kt vs) es i).run P w = .ok (findI ls x q es i) w := by
      intro q
      induction q with
      | nil => intro es i hq _; cases es with
        | nil => simp [Instr.findAsking, findI]
        | cons _ _ => exact hq.elim
      | cons y q ih => intro es i hq hk; cases es with
        | nil => exact hq.elim
        | cons e es =>
          obtain ⟨s1, b, hb⟩ := hk y (by simp)
          obtain ⟨us, hus, he⟩ := shape_pack s1 hq.1
          have h1 := eq_leaves (P := P) (w := w) 60 kt ls hl 10000 (by omega) x.cells y.1.cells vs us b hvs hus hb
          simp only [Instr.findAsking, he, Sem.run_bind]
          have h2 : (Op.equal kt (pack P kt vs) (pack P kt us)).run P w = .ok b w := h1
          simp only [h2, Result.andThen_ok, findI, hb]
          cases b with
          | true => simp
          | false => simpa using ih es (i + 1) hq.2.2.2 fun z hz => hk z (List.mem_cons_of_mem _ hz)
    exact gen q es 0 hq hk
  unfold leavesOf at hl
  split at hl
  · rename_i kd hu
    cases hl
    refine plain hu rfl (by simp [aggT, hu]) fun x y v u b h h1 h2 => ?_
    obtain ⟨a, c, rfl, rfl, rfl⟩ := leafEq_int h
    obtain ⟨rfl, _⟩ := h1; obtain ⟨rfl, _⟩ := h2
    simp [Instr.sameNow]
  · rename_i hu
    cases hl
    refine plain hu rfl (by simp [aggT, hu]) fun x y v u b h h1 h2 => ?_
    obtain ⟨a, c, rfl, rfl, rfl⟩ := leafEq_bool h
    obtain ⟨rfl, _⟩ := h1; obtain ⟨rfl, _⟩ := h2
    simp [Instr.sameNow]
  · rename_i hu
    cases hl
    refine plain hu rfl (by simp [aggT, hu]) fun x y v u b h h1 h2 => ?_
    obtain ⟨a, c, rfl, rfl, rfl⟩ := leafEq_string h
    obtain ⟨rfl, _⟩ := h1; obtain ⟨rfl, _⟩ := h2
    simp [Instr.sameNow, beq_toListBytes]
  · rename_i n e hu
    exact wide (by simp [hu])
  · rename_i fs hu
    exact wide (by simp [hu])
  · cases hl

/-- No key of these is x. -/
def noKey (ls : List Leaf) (x : IV) (l : List (IV × IV × Nat)) : Prop := ∀ y ∈ l, cellsEq ls x.cells y.1.cells = some false
def shaped (P : Program) (kt : TypeId) (l : List (IV × IV × Nat)) : Prop := ∀ y ∈ l, shapeB P kt y.1 = true

theorem findI_none {ls : List Leaf} {x : IV} : ∀ {q : List (IV × IV × Nat)} {es : List MapEntry} {i : Nat}, noKey ls x q → findI ls x q es i = none
  | [], _, _, _ => by simp [findI]
  | _ :: _, [], _, _ => by simp [findI]
  | y :: q, e :: es, i, h => by
    have h1 := h y (by simp)
    simp only [findI, h1]
    simpa using findI_none fun z hz => h z (List.mem_cons_of_mem _ hz)
theorem findI_some {ls : List Leaf} {x : IV} {y : IV × IV × Nat} {q2 : List (IV × IV × Nat)} {e : MapEntry} {es2 : List MapEntry} (hy : cellsEq ls x.cells y.1.cells = some true) :
    ∀ {q1 : List (IV × IV × Nat)} {es1 : List MapEntry} {i : Nat}, es1.length = q1.length → noKey ls x q1 → findI ls x (q1 ++ y :: q2) (es1 ++ e :: es2) i = some (i + q1.length, e.val)
  | [], [], i, _, _ => by simp [findI, hy]
  | z :: q1, f :: es1, i, hl, h => by
    have h1 := h z (by simp)
    simp only [List.cons_append, findI, h1]
    have := findI_some (q2 := q2) (e := e) (es2 := es2) hy (q1 := q1) (es1 := es1) (i := i + 1) (by simpa using hl) fun z hz => h z (List.mem_cons_of_mem _ hz)
    rw [if_neg (by simp), this, List.length_cons]
    congr 2; omega
  | [], _ :: _, _, h, _ => by simp at h
  | _ :: _, [], _, h, _ => by simp at h
theorem relM_len : ∀ {l : List (IV × IV × Nat)} {es : List MapEntry}, relM ρ l es → es.length = l.length
  | [], [], _ => rfl
  | _ :: _, _ :: _, h => by simp [relM_len h.2.2.2]
  | [], _ :: _, h => h.elim
  | _ :: _, [], h => h.elim
theorem relM_split : ∀ {q1 : List (IV × IV × Nat)} {y : IV × IV × Nat} {q2 : List (IV × IV × Nat)} {es : List MapEntry}, relM ρ (q1 ++ y :: q2) es → ∃ es1 e es2, es = es1 ++ e :: es2 ∧ relM ρ q1 es1 ∧ (relC ρ y.1 e.key ∧ relC ρ y.2.1 e.val ∧ e.born = y.2.2) ∧ relM ρ q2 es2
  | [], y, q2, e :: es, h => ⟨[], e, es, rfl, trivial, ⟨h.1, h.2.1, h.2.2.1⟩, h.2.2.2⟩
  | z :: q1, y, q2, e :: es, h => by
    obtain ⟨es1, e1, es2, rfl, h1, h2, h3⟩ := relM_split (q1 := q1) h.2.2.2
    exact ⟨e :: es1, e1, es2, rfl, ⟨h.1, h.2.1, h.2.2.1, h1⟩, h2, h3⟩
  | [], _, _, [], h => h.elim
  | _ :: _, _, _, [], h => h.elim
theorem relM_join : ∀ {q1 q2 : List (IV × IV × Nat)} {es1 es2 : List MapEntry}, relM ρ q1 es1 → relM ρ q2 es2 → relM ρ (q1 ++ q2) (es1 ++ es2)
  | [], _, [], _, _, h => h
  | _ :: _, _, _ :: _, _, h, h' => ⟨h.1, h.2.1, h.2.2.1, relM_join h.2.2.2 h'⟩
  | [], _, _ :: _, _, h, _ => h.elim
  | _ :: _, _, [], _, h, _ => h.elim

/-- The one entry with a key, in the order in which the map keeps it. -/
theorem perm_one {ls : List Leaf} {x : IV} {e : IV × IV × Nat} {l1 l2 q : List (IV × IV × Nat)} (hp : q.Perm (l1 ++ e :: l2)) (h0 : noKey ls x (l1 ++ l2)) :
    ∃ q1 q2, q = q1 ++ e :: q2 ∧ (q1 ++ q2).Perm (l1 ++ l2) ∧ noKey ls x (q1 ++ q2) := by
  have he : e ∈ q := hp.mem_iff.2 (by simp)
  obtain ⟨q1, q2, rfl⟩ := List.append_of_mem he
  have h2 : (q1 ++ q2).Perm (l1 ++ l2) := by
    have a : (e :: (q1 ++ q2)).Perm (e :: (l1 ++ l2)) := (List.perm_middle.symm.trans hp).trans List.perm_middle
    exact a.cons_inv
  exact ⟨q1, q2, rfl, h2, fun y hy => h0 y (h2.mem_iff.1 hy)⟩

/-- The place of a map, opened. -/
theorem map_at {x : Operand} {n : Nat} {a : Act} {c clock : Nat} {es : List (IV × IV × Nat)} (ha : RelA n ρ tm a) (hi : Inv X ρ H w) (hx : rd tm x = .s (.ref c)) (hc : H[c]? = some (.map clock es)) :
    ∃ b ents q, a.eval x = .map (some b) ∧ ρ[c]? = some (.obj b (.map (some b))) ∧ w.heap[b]? = some (.map ents clock) ∧ q.Perm es ∧ relM ρ q ents.toList ∧ (∀ e ∈ es, e.2.2 < clock) ∧ (es.map (·.2.2)).Nodup := by
  have hr := rd_rel ha x
  rw [hx] at hr
  obtain ⟨l, hl, b, ents, rfl, hb, ⟨q, hperm, hq⟩, hlt, hnd⟩ := hi.sat c _ hc
  refine ⟨b, ents, q, ?_, hl, hb, hperm, hq, hlt, hnd⟩
  rcases hr with ⟨b', h⟩ | ⟨h, _⟩
  · rw [hl, Option.some.injEq, Pl.obj.injEq] at h; exact h.2.symm
  · rw [hl] at h; cases h
theorem rel_key {n : Nat} {a : Act} {kt : TypeId} {key : Operand} {x : IV} (ha : RelA n ρ tm a) (hkey : rd tm key = x) (sx : shapeB P kt x = true) : relC ρ x (a.eval key) := by
  have hr := rd_rel ha key
  rw [hkey] at hr
  cases x with
  | s _ => exact hr
  | a _ => exact hr
  | t _ => simp [shapeB] at sx
  | j => trivial
theorem get_run {b clock : Nat} {ents : Array MapEntry} (hb : w.heap[b]? = some (.map ents clock)) : (getObj b).run P w = .ok (.map ents clock) w := by simp [getObj, Sem.run, hb]
theorem check_run {kt : TypeId} {ls : List Leaf} (em : Bool) (hl : leavesOf P 60 kt = some ls) {x : IV} {kv : Value} (hx : relC ρ x kv) (sx : shapeB P kt x = true) (hlen : x.cells.length = ls.length) : (Instr.checkKey em 10000 kt kv).run P w = .ok () w := by
  obtain ⟨vs, hvs, rfl⟩ := shape_pack sx hx
  exact check_leaves em 60 kt ls hl 10000 (by omega) vs (by rw [hvs.len, hlen])

/-- What an operation makes of every state that reads as this one. -/
def GRun (P : Program) (X : Ctx) (o : Oper) (tm : TM) (H : Heap) (v : IV) (W : List (Nat × Chunk)) : Prop :=
  ∀ (n : Nat) (ρ : Ren) (a : Act) (w : World), RelA n ρ tm a → Inv X ρ H w → ∃ (x : Value) (w' : World), ((execOp a.eval o).run P w = .ok (.value x) w' ∨ (execOp a.eval o).run P w = .ok .skip w' ∧ x = undef) ∧ relI ρ v x ∧ Inv X ρ (upd H W) w'
theorem gen_of {o : Oper} {v : IV} {W : List (Nat × Chunk)} (h : GRun P X o tm H v W) (hk : k (put tm o.dst v) (upd H W)) : genK P X o k tm H := fun n ρ a w ha hi =>
  let ⟨x, w', h1, h2, h3⟩ := h n ρ a w ha hi
  ⟨x, w', v, upd H W, ρ, h1, h2, Le.refl _, h3, hk⟩
theorem genD_of {o : Oper} {v : IV} {W : List (Nat × Chunk)} {kd : List Nat → IV → List (Nat × Chunk) → Prop} (σ : List Nat) (hW : ∀ k ∈ W.map (·.1), k ∈ σ ∧ ∃ ch, H[k]? = some ch ∧ ch ≠ .gone)
    (h : ∀ tm' H', H'.length = H.length → (∀ x ∈ o.op.operands, rd tm' x = rd tm x) → (∀ c ∈ σ, H'[c]? = H[c]?) → GRun P X o tm' H' v W) (hk : kd σ v W) : genD P X o tm H kd :=
  ⟨σ, v, W, ⟨hW, fun n ρ tm' H' a w hl hr hs ha hi => h tm' H' hl hr hs n ρ a w ha hi⟩, hk⟩
theorem upd_one {c : Nat} {ch ch' : Chunk} (hc : H[c]? = some ch) : upd H [(c, ch')] = H.set c ch' := by
  have := (List.getElem?_eq_some_iff.1 hc).1
  simp only [upd, up1]; rw [if_neg (by omega)]

/-- A key that is there, looked up. -/
theorem lookup_hit_run {T kt vt : TypeId} {m' key : Operand} {ok : Bool} {ls : List Leaf} {x : IV} {c clock : Nat} {l1 l2 : List (IV × IV × Nat)} {e : IV × IV × Nat} (hT : P.underlying T = some (.map kt vt)) (hl : leavesOf P 60 kt = some ls) (hm : rd tm m' = .s (.ref c))
    (hkey : rd tm key = x) (sx : shapeB P kt x = true) (hc : H[c]? = some (.map clock (l1 ++ e :: l2))) (hsh : shaped P kt (l1 ++ e :: l2)) (h1 : cellsEq ls x.cells e.1.cells = some true) (h0 : noKey ls x (l1 ++ l2))
    : GRun P X ⟨d, .lookup T m' key ok, t, p, af, g⟩ tm H (if ok then .t [e.2.1, .s (.raw (.bool true))] else e.2.1) [] := by
  intro n ρ a w ha hi
  obtain ⟨b, ents, q, hv, hl2, hb, hperm, hq, hlt, hnd⟩ := map_at ha hi hm hc
  have hrk := rel_key ha hkey sx
  obtain ⟨q1, q2, rfl, hp2, hno⟩ := perm_one hperm h0
  obtain ⟨es1, me, es2, hes, r1, ⟨rk, rv, rb⟩, r2⟩ := relM_split hq
  have hbs : ∀ y ∈ q1 ++ e :: q2, shapeB P kt y.1 = true ∧ ∃ b, cellsEq ls x.cells y.1.cells = some b := fun y hy => by
    refine ⟨hsh y (hperm.mem_iff.1 hy), ?_⟩
    rcases List.mem_append.1 hy with h | h
    · exact ⟨false, hno y (by simp [h])⟩
    · rcases List.mem_cons.1 h with rfl | h
      · exact ⟨true, h1⟩
      · exact ⟨false, hno y (by simp [h])⟩
  have hfk := findKey_run (w := w) hl hrk sx hq hbs
  rw [hes, findI_some h1 (relM_len r1) (fun y hy => hno y (by simp [hy]))] at hfk
  have hck := check_run (w := w) ents.isEmpty hl hrk sx (cellsEq_len h1).1
  have hrun : (Instr.lookup T (a.eval m') (a.eval key) ok).run P w = .ok (if ok then .tuple #[me.val, .bool true] else me.val) w := by
    simp only [Instr.lookup, hv, Sem.run_bind, run_underlying' P w hT, Result.andThen_ok, get_run hb, hck, hes, hfk, Sem.run_pure]
  refine ⟨if ok then .tuple #[me.val, .bool true] else me.val, w, .inl ?_, ?_, hi⟩
  · have hex : execOp a.eval ⟨d, .lookup T m' key ok, t, p, af, g⟩ = (do pure (.value (← Instr.lookup T (a.eval m') (a.eval key) ok))) := rfl
    rw [hex, Sem.run_bind, hrun]; rfl
  · cases ok with
    | true => exact ⟨[me.val, .bool true], rfl, rv, ⟨rfl, rfl⟩, trivial⟩
    | false =>
      show relI ρ e.2.1 me.val
      exact (relA_of_relT (l := [e.2.1]) (vs := [me.val]) ⟨rv, trivial⟩).1

/-- A key that is not there. -/
theorem lookup_miss_run {T kt vt : TypeId} {m' key : Operand} {ok : Bool} {ls : List Leaf} {x : IV} {c clock : Nat} {es : List (IV × IV × Nat)} {z : Value} {zi : IV} (hT : P.underlying T = some (.map kt vt)) (hl : leavesOf P 60 kt = some ls) (hm : rd tm m' = .s (.ref c))
    (hkey : rd tm key = x) (sx : shapeB P kt x = true) (hlen : x.cells.length = ls.length) (hc : H[c]? = some (.map clock es)) (hsh : shaped P kt es) (h0 : noKey ls x es) (hz : ∀ w, (zeroValue vt).run P w = .ok z w) (hzi : ∀ ρ, relC ρ zi z)
    : GRun P X ⟨d, .lookup T m' key ok, t, p, af, g⟩ tm H (if ok then .t [zi, .s (.raw (.bool false))] else zi) [] := by
  intro n ρ a w ha hi
  obtain ⟨b, ents, q, hv, hl2, hb, hperm, hq, hlt, hnd⟩ := map_at ha hi hm hc
  have hrk := rel_key ha hkey sx
  have hno : noKey ls x q := fun y hy => h0 y (hperm.mem_iff.1 hy)
  have hfk := findKey_run (w := w) hl hrk sx hq fun y hy => ⟨hsh y (hperm.mem_iff.1 hy), false, hno y hy⟩
  rw [findI_none hno] at hfk
  have hck := check_run (w := w) ents.isEmpty hl hrk sx hlen
  have hrun : (Instr.lookup T (a.eval m') (a.eval key) ok).run P w = .ok (if ok then .tuple #[z, .bool false] else z) w := by
    simp only [Instr.lookup, hv, Sem.run_bind, run_underlying' P w hT, Result.andThen_ok, get_run hb, hck, hfk, hz, Sem.run_pure]
  refine ⟨if ok then .tuple #[z, .bool false] else z, w, .inl ?_, ?_, hi⟩
  · have hex : execOp a.eval ⟨d, .lookup T m' key ok, t, p, af, g⟩ = (do pure (.value (← Instr.lookup T (a.eval m') (a.eval key) ok))) := rfl
    rw [hex, Sem.run_bind, hrun]; rfl
  · cases ok with
    | true => exact ⟨[z, .bool false], rfl, hzi ρ, ⟨rfl, rfl⟩, trivial⟩
    | false =>
      show relI ρ zi z
      exact (relA_of_relT (l := [zi]) (vs := [z]) ⟨hzi ρ, trivial⟩).1

/-- The map's block, laid anew. -/
theorem inv_map (hi : Inv X ρ H w) {c b clock clock' : Nat} {es es' q' : List (IV × IV × Nat)} {ents' : Array MapEntry} (hc : H[c]? = some (.map clock es)) (hl : ρ[c]? = some (.obj b (.map (some b)))) (hblt : b < w.heap.size)
    (hq : q'.Perm es') (hr : relM ρ q' ents'.toList) (hlt : ∀ e ∈ es', e.2.2 < clock') (hnd : (es'.map (·.2.2)).Nodup) :
    Inv X ρ (H.set c (.map clock' es')) (ChangeMaps.setBlock w b (.map ents' clock')) := by
  refine hi.upd hc hl rfl rfl rfl rfl (by simp [ChangeMaps.setBlock]) (fun b' hb' => ?_) ⟨b, ents', rfl, ?_, ⟨q', hq, hr⟩, hlt, hnd⟩ rfl
  · have : b ≠ b' := fun e => hb' (by rw [e]; rfl)
    simp [ChangeMaps.setBlock, this]
  · simp [ChangeMaps.setBlock, hblt]
theorem set_run {b clock : Nat} {ents : Array MapEntry} (hb : w.heap[b]? = some (.map ents clock)) (o' : Obj) : (setObj b o').run P w = .ok () (ChangeMaps.setBlock w b o') := by simp [setObj, Sem.run, hb, ChangeMaps.setBlock]

theorem modify_at {α : Type} (f : α → α) : ∀ (l1 : List α) (x : α) (l2 : List α), (l1 ++ x :: l2).modify l1.length f = l1 ++ f x :: l2
  | [], x, l2 => by simp
  | y :: l1, x, l2 => by simp [modify_at f l1 x l2]
/-- A value is laid at a key: what the map then holds. -/
def Laid (P : Program) (X : Ctx) (tm : TM) (H : Heap) (T : TypeId) (m' key val : Operand) (c : Nat) (ch : Chunk) : Prop :=
  ∀ (n : Nat) (ρ : Ren) (a : Act) (w : World), RelA n ρ tm a → Inv X ρ H w → ∃ w', (Instr.mapUpdate T (a.eval m') (a.eval key) (a.eval val)).run P w = .ok () w' ∧ Inv X ρ (H.set c ch) w'
theorem laid_upd {T : TypeId} {m' key val : Operand} {c : Nat} {ch ch' : Chunk} (hc : H[c]? = some ch') (h : Laid P X tm H T m' key val c ch) : GRun P X ⟨d, .mapUpdate T m' key val, t, p, af, g⟩ tm H .j [(c, ch)] := by
  intro n ρ a w ha hi
  obtain ⟨w', hrun, hi'⟩ := h n ρ a w ha hi
  rw [upd_one hc]
  refine ⟨undef, w', .inr ⟨?_, rfl⟩, trivial, hi'⟩
  have hex : execOp a.eval ⟨d, .mapUpdate T m' key val, t, p, af, g⟩ = (do Instr.mapUpdate T (a.eval m') (a.eval key) (a.eval val); pure .skip) := rfl
  rw [hex, Sem.run_bind, hrun]; rfl
theorem laid_ins {T : TypeId} {m' key val : Operand} {c : Nat} {ch ch' : Chunk} (hc : H[c]? = some ch') (h : Laid P X tm H T m' key val c ch) : GRun P X ⟨d, .insert T m' key val, t, p, af, g⟩ tm H .j [(c, ch)] := by
  intro n ρ a w ha hi
  obtain ⟨w', hrun, hi'⟩ := h n ρ a w ha hi
  rw [upd_one hc]
  refine ⟨undef, w', .inr ⟨?_, rfl⟩, trivial, hi'⟩
  have hex : execOp a.eval ⟨d, .insert T m' key val, t, p, af, g⟩ = (do Instr.mapUpdate T (a.eval m') (a.eval key) (a.eval val); pure .skip) := rfl
  rw [hex, Sem.run_bind, hrun]; rfl
theorem rel_val {n : Nat} {a : Act} {val : Operand} {x : IV} (ha : RelA n ρ tm a) (hval : rd tm val = x) (hxt : ∀ l, x ≠ .t l) : relC ρ x (a.eval val) := by
  have hrv := rd_rel ha val
  rw [hval] at hrv
  cases x with
  | t l => exact absurd rfl (hxt l)
  | s _ => exact hrv
  | a _ => exact hrv
  | j => trivial
theorem laid_new {T kt vt : TypeId} {m' key val : Operand} {ls : List Leaf} {x v : IV} {c clock : Nat} {es : List (IV × IV × Nat)} (hT : P.underlying T = some (.map kt vt)) (hl : leavesOf P 60 kt = some ls) (hm : rd tm m' = .s (.ref c))
    (hkey : rd tm key = x) (sx : shapeB P kt x = true) (hlen : x.cells.length = ls.length) (hval : rd tm val = v) (hvt : ∀ l, v ≠ .t l) (hc : H[c]? = some (.map clock es)) (hsh : shaped P kt es) (h0 : noKey ls x es)
    : Laid P X tm H T m' key val c (.map (clock + 1) (es ++ [(x, v, clock)])) := by
  intro n ρ a w ha hi
  obtain ⟨b, ents, q, hv, hl2, hb, hperm, hq, hlt, hnd⟩ := map_at ha hi hm hc
  have hrk := rel_key ha hkey sx
  have hrv := rel_val ha hval hvt
  have hno : noKey ls x q := fun y hy => h0 y (hperm.mem_iff.1 hy)
  have hfk := findKey_run (w := w) hl hrk sx hq fun y hy => ⟨hsh y (hperm.mem_iff.1 hy), false, hno y hy⟩
  rw [findI_none hno] at hfk
  have hck := check_run (w := w) false hl hrk sx hlen
  refine ⟨ChangeMaps.setBlock w b (.map (ents.push { key := a.eval key, val := a.eval val, born := clock }) (clock + 1)), ?_, ?_⟩
  · simp only [Instr.mapUpdate, hv, Sem.run_bind, run_underlying' P w hT, Result.andThen_ok, get_run hb, hck, hfk, set_run hb]
  · refine inv_map hi hc hl2 (Array.getElem?_eq_some_iff.1 hb).1 (hperm.append_right [(x, v, clock)]) ?_ (fun e he => ?_) ?_
    · have := relM_join (ρ := ρ) hq (q2 := [(x, v, clock)]) (es2 := [{ key := a.eval key, val := a.eval val, born := clock }]) ⟨hrk, hrv, rfl, trivial⟩
      simpa using this
    · rcases List.mem_append.1 he with h | h
      · have := hlt e h; omega
      · simp at h; subst h; simp
    · rw [List.map_append, List.nodup_append]
      refine ⟨hnd, by simp, fun s hs1 s2 hs2 e => ?_⟩
      obtain ⟨y, hy, rfl⟩ := List.mem_map.1 hs1
      simp at hs2
      have := hlt y hy
      omega
theorem laid_old {T kt vt : TypeId} {m' key val : Operand} {ls : List Leaf} {x v : IV} {c clock : Nat} {l1 l2 : List (IV × IV × Nat)} {e : IV × IV × Nat} (hT : P.underlying T = some (.map kt vt)) (hl : leavesOf P 60 kt = some ls) (hm : rd tm m' = .s (.ref c))
    (hkey : rd tm key = x) (sx : shapeB P kt x = true) (hval : rd tm val = v) (hvt : ∀ l, v ≠ .t l) (hc : H[c]? = some (.map clock (l1 ++ e :: l2))) (hsh : shaped P kt (l1 ++ e :: l2)) (h1 : cellsEq ls x.cells e.1.cells = some true) (h0 : noKey ls x (l1 ++ l2))
    : Laid P X tm H T m' key val c (.map clock (l1 ++ (e.1, v, e.2.2) :: l2)) := by
  intro n ρ a w ha hi
  obtain ⟨b, ents, q, hv, hl2, hb, hperm, hq, hlt, hnd⟩ := map_at ha hi hm hc
  have hrk := rel_key ha hkey sx
  have hrv := rel_val ha hval hvt
  obtain ⟨q1, q2, rfl, hp2, hno⟩ := perm_one hperm h0
  obtain ⟨es1, me, es2, hes, r1, ⟨rk, rv, rb⟩, r2⟩ := relM_split hq
  have se := hsh e (by simp)
  have hbs : ∀ y ∈ q1 ++ e :: q2, shapeB P kt y.1 = true ∧ ∃ b, cellsEq ls x.cells y.1.cells = some b := fun y hy => by
    refine ⟨hsh y (hperm.mem_iff.1 hy), ?_⟩
    rcases List.mem_append.1 hy with h | h
    · exact ⟨false, hno y (by simp [h])⟩
    · rcases List.mem_cons.1 h with rfl | h
      · exact ⟨true, h1⟩
      · exact ⟨false, hno y (by simp [h])⟩
  have hfk := findKey_run (w := w) hl hrk sx hq hbs
  have hl1 := relM_len r1
  rw [hes, findI_some h1 hl1 (fun y hy => hno y (by simp [hy])), Nat.zero_add] at hfk
  have hck := check_run (w := w) false hl hrk sx (cellsEq_len h1).1
  -- the keys are the same
  obtain ⟨vs, hvs, ekv⟩ := shape_pack sx hrk
  obtain ⟨us, hus, eme⟩ := shape_pack se rk
  obtain ⟨rfl, hsb⟩ := cells_same h1 hvs hus
  have hag0 : aggT P kt ≠ none := fun e => by unfold shapeB at sx; rw [e] at sx; simp at sx
  have hag1 : aggT P kt = some false → vs.length = 1 := fun e => by
    obtain ⟨s, rfl⟩ := shape_one e sx
    rw [hvs.len]; rfl
  have hsame := pack_same (P := P) hsb hag1 hag0
  have hget : ents[q1.length]? = some me := by rw [← Array.getElem?_toList, hes, ← hl1]; simp
  have hstay : (Instr.keyThatStays (((ents[q1.length]?).map (·.key)).getD (a.eval key)) (a.eval key)).run P w = .ok (a.eval key) w := by
    rw [hget]
    simp only [Option.map_some, Option.getD_some, Instr.keyThatStays, eme, ekv, hsame, if_true, Sem.run_pure]
  refine ⟨ChangeMaps.setBlock w b (.map (ents.modify q1.length fun e => { e with key := a.eval key, val := a.eval val }) clock), ?_, ?_⟩
  · simp only [Instr.mapUpdate, hv, Sem.run_bind, run_underlying' P w hT, Result.andThen_ok, get_run hb, hck, hes, hfk, hstay, set_run hb]
  · refine inv_map (q' := q1 ++ (e.1, v, e.2.2) :: q2) hi hc hl2 (Array.getElem?_eq_some_iff.1 hb).1 ?_ ?_ (fun y hy => ?_) ?_
    · exact (List.perm_middle.trans (hp2.cons _)).trans List.perm_middle.symm
    · have hm2 : (ents.modify q1.length fun e => { e with key := a.eval key, val := a.eval val }).toList = es1 ++ { me with key := a.eval key, val := a.eval val } :: es2 := by
        rw [Array.toList_modify, hes, ← hl1]
        exact modify_at _ es1 me es2
      rw [hm2]
      refine relM_join r1 ⟨?_, hrv, rb, r2⟩
      show relC ρ e.1 (a.eval key)
      rw [ekv, ← eme]; exact rk
    · rcases List.mem_append.1 hy with h | h
      · exact hlt y (by simp [h])
      · rcases List.mem_cons.1 h with rfl | h
        · exact hlt e (by simp)
        · exact hlt y (by simp [h])
    · simpa using hnd

/-- A key is taken out. -/
theorem delete_hit_run {T kt vt Tk : TypeId} {m' key : Operand} {ls : List Leaf} {x : IV} {c clock : Nat} {l1 l2 : List (IV × IV × Nat)} {e : IV × IV × Nat} (hT : P.underlying T = some (.map kt vt)) (hl : leavesOf P 60 kt = some ls) (hm : rd tm m' = .s (.ref c))
    (hkey : rd tm key = x) (sx : shapeB P kt x = true) (hc : H[c]? = some (.map clock (l1 ++ e :: l2))) (hsh : shaped P kt (l1 ++ e :: l2)) (h1 : cellsEq ls x.cells e.1.cells = some true) (h0 : noKey ls x (l1 ++ l2))
    : GRun P X ⟨d, .call ⟨.builtin .delete, #[m', key], #[T, Tk]⟩, t, p, af, g⟩ tm H (.t []) [(c, .map clock (l1 ++ l2))] := by
  intro n ρ a w ha hi
  obtain ⟨b, ents, q, hv, hl2, hb, hperm, hq, hlt, hnd⟩ := map_at ha hi hm hc
  have hrk := rel_key ha hkey sx
  obtain ⟨q1, q2, rfl, hp2, hno⟩ := perm_one hperm h0
  obtain ⟨es1, me, es2, hes, r1, ⟨rk, rv, rb⟩, r2⟩ := relM_split hq
  have hbs : ∀ y ∈ q1 ++ e :: q2, shapeB P kt y.1 = true ∧ ∃ b, cellsEq ls x.cells y.1.cells = some b := fun y hy => by
    refine ⟨hsh y (hperm.mem_iff.1 hy), ?_⟩
    rcases List.mem_append.1 hy with h | h
    · exact ⟨false, hno y (by simp [h])⟩
    · rcases List.mem_cons.1 h with rfl | h
      · exact ⟨true, h1⟩
      · exact ⟨false, hno y (by simp [h])⟩
  have hfk := findKey_run (w := w) hl hrk sx hq hbs
  have hl1 := relM_len r1
  rw [hes, findI_some h1 hl1 (fun y hy => hno y (by simp [hy])), Nat.zero_add] at hfk
  have hck := check_run (w := w) ents.isEmpty hl hrk sx (cellsEq_len h1).1
  rw [upd_one hc]
  refine ⟨.tuple #[], ChangeMaps.setBlock w b (.map (ents.eraseIdxIfInBounds q1.length) clock), .inl ?_, ⟨[], rfl, trivial⟩, ?_⟩
  · have hrun : (Builtin.delete_ #[T, Tk] t #[a.eval m', a.eval key]).run P w = .ok (.tuple #[]) (ChangeMaps.setBlock w b (.map (ents.eraseIdxIfInBounds q1.length) clock)) := by
      simp only [Builtin.delete_, List.getElem?_toArray, List.getElem?_cons_zero, List.getElem?_cons_succ, hv, Sem.run_bind, run_underlying' P w hT, Result.andThen_ok, get_run hb, hck, hes, hfk, set_run hb, Sem.run_pure]
    simp [execOp, resolve, invoke, builtin, hrun]
  · refine inv_map hi hc hl2 (Array.getElem?_eq_some_iff.1 hb).1 hp2 ?_ (fun y hy => hlt y ?_) ?_
    · have hm2 : (ents.eraseIdxIfInBounds q1.length).toList = es1 ++ es2 := by
        have hlt2 : q1.length < ents.size := by rw [← Array.length_toList, hes]; simp; omega
        rw [Array.eraseIdxIfInBounds, dif_pos hlt2, Array.toList_eraseIdx, hes, ← hl1]
        simp [List.eraseIdx_append_of_length_le]
      rw [hm2]
      exact relM_join r1 r2
    · rcases List.mem_append.1 hy with h | h <;> simp [h]
    · rw [List.map_append, List.map_cons] at hnd
      rw [List.map_append]
      exact (List.perm_middle.nodup_iff.1 hnd).of_cons

/-- How many entries a map has. -/
theorem len_run {T kt vt : TypeId} {m' : Operand} {c clock : Nat} {es : List (IV × IV × Nat)} (hT : P.underlying T = some (.map kt vt)) (hm : rd tm m' = .s (.ref c)) (hc : H[c]? = some (.map clock es))
    : GRun P X ⟨d, .call ⟨.builtin .len, #[m'], #[T]⟩, t, p, af, g⟩ tm H (.s (.raw (.int .i64 (es.length : Int)))) [] := by
  intro n ρ a w ha hi
  obtain ⟨b, ents, q, hv, hl2, hb, hperm, hq, hlt, hnd⟩ := map_at ha hi hm hc
  have hsz : ents.size = es.length := by rw [← Array.length_toList, relM_len hq, hperm.length_eq]
  refine ⟨.int .i64 (es.length : Int), w, .inl ?_, ⟨rfl, rfl⟩, hi⟩
  have hrun : (Builtin.len_ #[T] t #[a.eval m']).run P w = .ok (.int .i64 (es.length : Int)) w := by
    simp only [Builtin.len_, List.getElem?_toArray, List.getElem?_cons_zero, hv, Sem.run_bind, run_underlying' P w hT, Result.andThen_ok, get_run hb, Sem.run_pure, hsz, goInt]
  simp [execOp, resolve, invoke, builtin, hrun]

/-- A function value. -/
theorem makeFunc_gen {fn : Fn} {first cap : Array Operand} (h1 : flat (first.toList.map (rd tm)) = true) (h2 : flat (cap.toList.map (rd tm)) = true)
    (hk : k (put tm d (.s (.ref H.length))) (H ++ [.clo fn (first.toList.map (rd tm)) (cap.toList.map (rd tm))])) : genK P X ⟨d, .makeFunc fn first cap, t, p, af, g⟩ k tm H := by
  intro n ρ a w ha hi
  have r1 := relT_of_relA h1 (relA_list ha first.toList)
  have r2 := relT_of_relA h2 (relA_list ha cap.toList)
  have e1 : (first.toList.map a.eval).toArray = first.map a.eval := by apply Array.ext'; simp only [Array.toList_map]
  have e2 : (cap.toList.map a.eval).toArray = cap.map a.eval := by apply Array.ext'; simp only [Array.toList_map]
  have hlen := hi.len
  refine ⟨.func fn (first.map a.eval) (cap.map a.eval), w, .s (.ref H.length), H ++ [.clo fn (first.toList.map (rd tm)) (cap.toList.map (rd tm))], ρ ++ [.val (.func fn (first.map a.eval) (cap.map a.eval))], .inl ?_, ?_, Le.app _ _, ?_, hk⟩
  · have hex : execOp a.eval ⟨d, .makeFunc fn first cap, t, p, af, g⟩ = (do pure (.value (← Instr.makeFunc fn (first.map a.eval) (cap.map a.eval)))) := rfl
    rw [hex]
    simp [Instr.makeFunc]
  · exact .inr ⟨by rw [← hlen]; simp, rfl⟩
  · refine hi.push _ _ rfl rfl rfl (Nat.le_refl _) (fun b hb => rfl) (fun b u h => by cases h) ?_ (fun h => by cases h) (fun _ _ h => by cases h)
    exact ⟨_, _, by rw [e1, e2], r1.pre (Le.app _ _), r2.pre (Le.app _ _)⟩

/-! ### the rules -/
section rules
variable {T kt vt Tk : TypeId} {m' key val : Operand} {ok : Bool} {ls : List Leaf} {x v : IV} {c clock : Nat} {es l1 l2 : List (IV × IV × Nat)} {e : IV × IV × Nat} {kd : List Nat → IV → List (Nat × Chunk) → Prop}
theorem lookup_hit (hT : P.underlying T = some (.map kt vt)) (hl : leavesOf P 60 kt = some ls) (hm : rd tm m' = .s (.ref c))
    (hkey : rd tm key = x) (sx : shapeB P kt x = true) (hc : H[c]? = some (.map clock (l1 ++ e :: l2))) (hsh : shaped P kt (l1 ++ e :: l2)) (h1 : cellsEq ls x.cells e.1.cells = some true) (h0 : noKey ls x (l1 ++ l2))
    (hk : k (put tm d (if ok then .t [e.2.1, .s (.raw (.bool true))] else e.2.1)) H) : genK P X ⟨d, .lookup T m' key ok, t, p, af, g⟩ k tm H :=
  gen_of (lookup_hit_run hT hl hm hkey sx hc hsh h1 h0) hk
theorem lookupD_hit (hT : P.underlying T = some (.map kt vt)) (hl : leavesOf P 60 kt = some ls) (hm : rd tm m' = .s (.ref c))
    (hkey : rd tm key = x) (sx : shapeB P kt x = true) (hc : H[c]? = some (.map clock (l1 ++ e :: l2))) (hsh : shaped P kt (l1 ++ e :: l2)) (h1 : cellsEq ls x.cells e.1.cells = some true) (h0 : noKey ls x (l1 ++ l2))
    (hk : kd [c] (if ok then .t [e.2.1, .s (.raw (.bool true))] else e.2.1) []) : genD P X ⟨d, .lookup T m' key ok, t, p, af, g⟩ tm H kd :=
  genD_of [c] (fun _ h => by cases h) (fun tm' H' _ hr hs => lookup_hit_run hT hl ((hr m' (by simp [Op.operands])).trans hm) ((hr key (by simp [Op.operands])).trans hkey) sx ((hs c (by simp)).trans hc) hsh h1 h0) hk
theorem lookup_miss {z : Value} {zi : IV} (hT : P.underlying T = some (.map kt vt)) (hl : leavesOf P 60 kt = some ls) (hm : rd tm m' = .s (.ref c))
    (hkey : rd tm key = x) (sx : shapeB P kt x = true) (hlen : x.cells.length = ls.length) (hc : H[c]? = some (.map clock es)) (hsh : shaped P kt es) (h0 : noKey ls x es) (hz : ∀ w, (zeroValue vt).run P w = .ok z w) (hzi : ∀ ρ, relC ρ zi z)
    (hk : k (put tm d (if ok then .t [zi, .s (.raw (.bool false))] else zi)) H) : genK P X ⟨d, .lookup T m' key ok, t, p, af, g⟩ k tm H :=
  gen_of (lookup_miss_run hT hl hm hkey sx hlen hc hsh h0 hz hzi) hk
theorem lookupD_miss {z : Value} {zi : IV} (hT : P.underlying T = some (.map kt vt)) (hl : leavesOf P 60 kt = some ls) (hm : rd tm m' = .s (.ref c))
    (hkey : rd tm key = x) (sx : shapeB P kt x = true) (hlen : x.cells.length = ls.length) (hc : H[c]? = some (.map clock es)) (hsh : shaped P kt es) (h0 : noKey ls x es) (hz : ∀ w, (zeroValue vt).run P w = .ok z w) (hzi : ∀ ρ, relC ρ zi z)
    (hk : kd [c] (if ok then .t [zi, .s (.raw (.bool false))] else zi) []) : genD P X ⟨d, .lookup T m' key ok, t, p, af, g⟩ tm H kd :=
  genD_of [c] (fun _ h => by cases h) (fun tm' H' _ hr hs => lookup_miss_run hT hl ((hr m' (by simp [Op.operands])).trans hm) ((hr key (by simp [Op.operands])).trans hkey) sx hlen ((hs c (by simp)).trans hc) hsh h0 hz hzi) hk
theorem upd_new (hT : P.underlying T = some (.map kt vt)) (hl : leavesOf P 60 kt = some ls) (hm : rd tm m' = .s (.ref c))
    (hkey : rd tm key = x) (sx : shapeB P kt x = true) (hlen : x.cells.length = ls.length) (hval : rd tm val = v) (hvt : ∀ l, v ≠ .t l) (hc : H[c]? = some (.map clock es)) (hsh : shaped P kt es) (h0 : noKey ls x es)
    (hk : k (put tm d .j) (H.set c (.map (clock + 1) (es ++ [(x, v, clock)])))) : genK P X ⟨d, .mapUpdate T m' key val, t, p, af, g⟩ k tm H :=
  gen_of (laid_upd hc (laid_new hT hl hm hkey sx hlen hval hvt hc hsh h0)) (by rw [upd_one hc]; exact hk)
theorem updD_new (hT : P.underlying T = some (.map kt vt)) (hl : leavesOf P 60 kt = some ls) (hm : rd tm m' = .s (.ref c))
    (hkey : rd tm key = x) (sx : shapeB P kt x = true) (hlen : x.cells.length = ls.length) (hval : rd tm val = v) (hvt : ∀ l, v ≠ .t l) (hc : H[c]? = some (.map clock es)) (hsh : shaped P kt es) (h0 : noKey ls x es)
    (hk : kd [c] .j [(c, .map (clock + 1) (es ++ [(x, v, clock)]))]) : genD P X ⟨d, .mapUpdate T m' key val, t, p, af, g⟩ tm H kd :=
  genD_of [c] (fun k h => by simp at h; subst h; exact ⟨by simp, _, hc, by simp⟩) (fun tm' H' _ hr hs => laid_upd ((hs c (by simp)).trans hc) (laid_new hT hl ((hr m' (by simp [Op.operands])).trans hm) ((hr key (by simp [Op.operands])).trans hkey) sx hlen ((hr val (by simp [Op.operands])).trans hval) hvt ((hs c (by simp)).trans hc) hsh h0)) hk
theorem upd_old (hT : P.underlying T = some (.map kt vt)) (hl : leavesOf P 60 kt = some ls) (hm : rd tm m' = .s (.ref c))
    (hkey : rd tm key = x) (sx : shapeB P kt x = true) (hval : rd tm val = v) (hvt : ∀ l, v ≠ .t l) (hc : H[c]? = some (.map clock (l1 ++ e :: l2))) (hsh : shaped P kt (l1 ++ e :: l2)) (h1 : cellsEq ls x.cells e.1.cells = some true) (h0 : noKey ls x (l1 ++ l2))
    (hk : k (put tm d .j) (H.set c (.map clock (l1 ++ (e.1, v, e.2.2) :: l2)))) : genK P X ⟨d, .mapUpdate T m' key val, t, p, af, g⟩ k tm H :=
  gen_of (laid_upd hc (laid_old hT hl hm hkey sx hval hvt hc hsh h1 h0)) (by rw [upd_one hc]; exact hk)
theorem updD_old (hT : P.underlying T = some (.map kt vt)) (hl : leavesOf P 60 kt = some ls) (hm : rd tm m' = .s (.ref c))
    (hkey : rd tm key = x) (sx : shapeB P kt x = true) (hval : rd tm val = v) (hvt : ∀ l, v ≠ .t l) (hc : H[c]? = some (.map clock (l1 ++ e :: l2))) (hsh : shaped P kt (l1 ++ e :: l2)) (h1 : cellsEq ls x.cells e.1.cells = some true) (h0 : noKey ls x (l1 ++ l2))
    (hk : kd [c] .j [(c, .map clock (l1 ++ (e.1, v, e.2.2) :: l2))]) : genD P X ⟨d, .mapUpdate T m' key val, t, p, af, g⟩ tm H kd :=
  genD_of [c] (fun k h => by simp at h; subst h; exact ⟨by simp, _, hc, by simp⟩) (fun tm' H' _ hr hs => laid_upd ((hs c (by simp)).trans hc) (laid_old hT hl ((hr m' (by simp [Op.operands])).trans hm) ((hr key (by simp [Op.operands])).trans hkey) sx ((hr val (by simp [Op.operands])).trans hval) hvt ((hs c (by simp)).trans hc) hsh h1 h0)) hk
theorem delete_hit (hT : P.underlying T = some (.map kt vt)) (hl : leavesOf P 60 kt = some ls) (hm : rd tm m' = .s (.ref c))
    (hkey : rd tm key = x) (sx : shapeB P kt x = true) (hc : H[c]? = some (.map clock (l1 ++ e :: l2))) (hsh : shaped P kt (l1 ++ e :: l2)) (h1 : cellsEq ls x.cells e.1.cells = some true) (h0 : noKey ls x (l1 ++ l2))
    (hk : k (put tm d (.t [])) (H.set c (.map clock (l1 ++ l2)))) : genK P X ⟨d, .call ⟨.builtin .delete, #[m', key], #[T, Tk]⟩, t, p, af, g⟩ k tm H :=
  gen_of (delete_hit_run hT hl hm hkey sx hc hsh h1 h0) (by rw [upd_one hc]; exact hk)
theorem deleteD_hit (hT : P.underlying T = some (.map kt vt)) (hl : leavesOf P 60 kt = some ls) (hm : rd tm m' = .s (.ref c))
    (hkey : rd tm key = x) (sx : shapeB P kt x = true) (hc : H[c]? = some (.map clock (l1 ++ e :: l2))) (hsh : shaped P kt (l1 ++ e :: l2)) (h1 : cellsEq ls x.cells e.1.cells = some true) (h0 : noKey ls x (l1 ++ l2))
    (hk : kd [c] (.t []) [(c, .map clock (l1 ++ l2))]) : genD P X ⟨d, .call ⟨.builtin .delete, #[m', key], #[T, Tk]⟩, t, p, af, g⟩ tm H kd :=
  genD_of [c] (fun k h => by simp at h; subst h; exact ⟨by simp, _, hc, by simp⟩) (fun tm' H' _ hr hs => delete_hit_run hT hl ((hr m' (by simp [Op.operands, Call.operands])).trans hm) ((hr key (by simp [Op.operands, Call.operands])).trans hkey) sx ((hs c (by simp)).trans hc) hsh h1 h0) hk
theorem len_map (hT : P.underlying T = some (.map kt vt)) (hm : rd tm m' = .s (.ref c)) (hc : H[c]? = some (.map clock es))
    (hk : k (put tm d (.s (.raw (.int .i64 (es.length : Int))))) H) : genK P X ⟨d, .call ⟨.builtin .len, #[m'], #[T]⟩, t, p, af, g⟩ k tm H := gen_of (len_run hT hm hc) hk
theorem lenD_map (hT : P.underlying T = some (.map kt vt)) (hm : rd tm m' = .s (.ref c)) (hc : H[c]? = some (.map clock es))
    (hk : kd [c] (.s (.raw (.int .i64 (es.length : Int)))) []) : genD P X ⟨d, .call ⟨.builtin .len, #[m'], #[T]⟩, t, p, af, g⟩ tm H kd :=
  genD_of [c] (fun _ h => by cases h) (fun tm' H' _ hr hs => len_run hT ((hr m' (by simp [Op.operands, Call.operands])).trans hm) ((hs c (by simp)).trans hc)) hk
end rules
end
end Go.Ev
