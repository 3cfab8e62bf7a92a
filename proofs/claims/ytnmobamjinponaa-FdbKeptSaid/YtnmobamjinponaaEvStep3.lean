/- Fields, indexes, lengths, literals, ideally. -/
import Derived.Test.YtnmobamjinponaaEvStep2
namespace Go.Ev
open Go.RowKit

/-- A part of an aggregate: where it lies, how many cells it has, whether it is an aggregate itself. -/
def partT (P : Program) (T : TypeId) : Option (Nat × Bool) :=
  match szT P T, aggT P T with
  | some n, some ag => if ag = false ∧ n ≠ 1 then none else some (n, ag)
  | _, _ => none
def fldT (P : Program) (T : TypeId) (f : Nat) : Option (Nat × Nat × Bool) :=
  match P.underlying T with
  | some (.struct fs) => match fs[f]? with
    | some f => match partT P f.type with
      | some (n, ag) => some (f.offset, n, ag)
      | none => none
    | none => none
  | _ => none
/-- An array's length, its elements' size and whether these are aggregates. -/
def arrT (P : Program) (T : TypeId) : Option (Nat × Nat × Bool) :=
  match P.underlying T with
  | some (.array n e) => match partT P e with
    | some (k, ag) => some (n, k, ag)
    | none => none
  | _ => none
/-- A slice's element size. -/
def slT (P : Program) (T : TypeId) : Option Nat :=
  match P.underlying T with
  | some (.slice e) => szT P e
  | _ => none
def strT (P : Program) (T : TypeId) : Bool :=
  match P.underlying T with
  | some .string => true
  | _ => false

def byteAt (s : ByteArray) (i : Nat) : Int := ((s.data[i]?).getD 0).toNat

def stFieldV (P : Program) (T : TypeId) (x : IV) (f : Nat) : Res :=
  match x, fldT P T f with
  | .a l, some (off, n, ag) => match seg l off n with
    | some r => some (True, ldIV ag r, [])
    | none => none
  | _, _ => none

def stIndex (P : Program) (T : TypeId) (x ix : IV) : Res :=
  match x, ix with
  | .a l, .s (.raw (.int _ i)) => match arrT P T with
    | some (n, k, ag) => match seg l (i.toNat * k) k with
      | some r => some (0 ≤ i ∧ i < n, ldIV ag r, [])
      | none => none
    | none => none
  | .s (.raw (.string s)), .s (.raw (.int _ i)) => if strT P T then some (0 ≤ i ∧ i < s.size, .s (.raw (.int .u8 (byteAt s i.toNat))), []) else none
  | _, _ => none

def stIndexAddr (P : Program) (T : TypeId) (x ix : IV) (H : Heap) : Res :=
  match x, ix with
  | .s (.ptr c i o), .s (.raw (.int _ j)) => match arrT P T with
    | some (n, k, _) => some (0 ≤ j ∧ j < n, .s (.ptr c i (o + j.toNat * k)), [])
    | none => none
  | .s (.slice c s n), .s (.raw (.int _ j)) => match H[c]?, slT P T with
    | some (.rows _ sz _), some k => if sz = k then some (0 ≤ j ∧ j < n, .s (.ptr c (s + j.toNat) 0), []) else none
    | _, _ => none
  | .s (.sub c i o k n), .s (.raw (.int _ j)) => if slT P T = some k then some (0 ≤ j ∧ j < n, .s (.ptr c i (o + j.toNat * k)), []) else none
  | _, _ => none

def stLen (P : Program) (t : TypeId) (x : IV) : Res :=
  match x with
  | .s (.slice _ _ n) => match slT P t with
    | some _ => some (True, .s (.raw (.int .i64 n)), [])
    | none => none
  | .s (.raw (.slice none 0 0)) => match slT P t with
    | some _ => some (True, .s (.raw (.int .i64 0)), [])
    | none => none
  | .s (.sub _ _ _ _ n) => match slT P t with
    | some _ => some (True, .s (.raw (.int .i64 n)), [])
    | none => none
  | .s (.raw (.string s)) => if strT P t then some (True, .s (.raw (.int .i64 s.size)), []) else none
  | _ => match P.underlying t with
    | some (.array n _) => some (True, .s (.raw (.int .i64 n)), [])
    | _ => none

def stMin : List IV → Res
  | [.s (.raw (.int k a)), .s (.raw (.int _ b))] => some (True, .s (.raw (.int k (if b < a then b else a))), [])
  | _ => none
def stMax : List IV → Res
  | [.s (.raw (.int k a)), .s (.raw (.int _ b))] => some (True, .s (.raw (.int k (if a < b then b else a))), [])
  | _ => none

/-- Where the i-th part of an aggregate stands. -/
def plT (P : Program) (T : TypeId) (i : Nat) : Option (Nat × Nat) :=
  match P.underlying T with
  | some (.struct fs) => match fs[i]? with
    | some f => match szT P f.type with
      | some n => some (f.offset, n)
      | none => none
    | none => none
  | some (.array _ e) => match szT P e with
    | some n => some (i * n, n)
    | none => none
  | _ => none

/-- All parts of an aggregate have their places (a struct's fields have sizes). -/
def plOk (P : Program) (T : TypeId) : Bool :=
  match P.underlying T with
  | some (.struct fs) => fs.toList.all fun f => (szT P f.type).isSome
  | some (.array _ e) => (szT P e).isSome
  | _ => false

def fillI (P : Program) (T : TypeId) : List (Nat × IV) → List SV → Option (List SV)
  | [], z => some z
  | (i, v) :: ps, z => match plT P T i with
    | some (off, n) => if v.cells.length = n ∧ n ≠ 0 then match spl z off v.cells with
      | some z' => fillI P T ps z'
      | none => none
      else none
    | none => none

def stBuild (P : Program) (T : TypeId) (ps : List (Nat × IV)) : Res :=
  if plOk P T then match zeroT P T with
    | some z => match fillI P T ps z with
      | some l => some (True, .a l, [])
      | none => none
    | none => none
  else none

def relA (ρ : Ren) : List IV → List Value → Prop
  | [], [] => True
  | x :: xs, v :: vs => relI ρ x v ∧ relA ρ xs vs
  | _, _ => False

section
variable {P : Program} {X : Ctx} {ρ : Ren} {H : Heap} {W : List (Nat × Chunk)} {w : World} {n : Nat} {tm : TM} {a : Act} {c : Prop} {v : IV}

theorem partT_spec {T : TypeId} {n : Nat} {ag : Bool} (h : partT P T = some (n, ag)) : szT P T = some n ∧ aggT P T = some ag ∧ (ag = false → n = 1) := by
  unfold partT at h
  split at h
  · rename_i m b h1 h2
    split at h
    · cases h
    · rename_i hne
      cases h
      exact ⟨h1, h2, fun e => Decidable.byContradiction fun e2 => hne ⟨e, e2⟩⟩
  · cases h

theorem part_seg {T : TypeId} {n off : Nat} {ag : Bool} {l r : List SV} {cs : List Value} (hp : partT P T = some (n, ag)) (hr : relL ρ l cs) (hs : seg l off n = some r) :
    ∃ x, (part T cs.toArray off).run P w = .ok x w ∧ relI ρ (ldIV ag r) x := by
  obtain ⟨h1, h2, h3⟩ := partT_spec hp
  obtain ⟨hl, hle, hget⟩ := seg_spec hs
  have hlen := hr.len
  have e : cs = cs.take off ++ (cs.drop off).take n ++ cs.drop (off + n) := by
    rw [List.append_assoc, ← List.drop_drop, List.take_append_drop, List.take_append_drop]
  have hmid : ((cs.drop off).take n).length = n := by simp; omega
  have hpre : (cs.take off).length = off := by simp; omega
  have hrel : relL ρ r ((cs.drop off).take n) := by
    refine relL_of_get (by rw [hmid, hl]) fun i x hx => ?_
    obtain ⟨v, hv, hrv⟩ := hr.get (hget i x hx)
    have hi : i < n := by have := (List.getElem?_eq_some_iff.1 hx).1; omega
    exact ⟨v, by rw [List.getElem?_take_of_lt hi, List.getElem?_drop]; exact hv, hrv⟩
  have hrun := part_run (P := P) (w := w) (t := T) (pre := cs.take off) (mid := (cs.drop off).take n) (post := cs.drop (off + n)) h2 (by rw [hmid]; exact h1) (fun e => by rw [hmid]; exact h3 e)
  rw [hpre, ← e] at hrun
  refine ⟨_, hrun, ?_⟩
  cases ag with
  | true => simp only [pack, h2, if_true, ldIV]; exact ⟨_, rfl, hrel⟩
  | false =>
    have hn := h3 rfl
    subst hn
    obtain ⟨x0, rfl⟩ := List.length_eq_one_iff.1 hl
    obtain ⟨v0, hv0⟩ := List.length_eq_one_iff.1 hmid
    rw [hv0] at hrel ⊢
    simp only [pack, h2, ldIV]
    exact hrel.1

theorem stFieldV_sound {T : TypeId} {x : IV} {xv : Value} {f : Nat} (hi : Inv X ρ H w) (hx : relI ρ x xv) (h : stFieldV P T x f = some (c, v, W)) :
    StepOK P X ρ (do pure (.value (← Instr.field T xv f))) w v H W := by
  unfold stFieldV at h
  split at h
  · rename_i l off n ag hf
    split at h
    · rename_i r hs
      cases h
      obtain ⟨cs, rfl, hr⟩ := hx
      unfold fldT at hf
      split at hf
      · rename_i fs hu
        split at hf
        · rename_i fl hfl
          split at hf
          · rename_i n' ag' hp
            cases hf
            obtain ⟨y, hrun, hy⟩ := part_seg (P := P) (w := w) hp hr hs
            refine StepOK.pure hi hy ?_
            simp [Instr.field, run_underlying' P w hu, hfl, asAgg, hrun]
          · cases hf
        · cases hf
      · cases hf
    · cases h
  · cases h

theorem stIndex_sound {T : TypeId} {x ix : IV} {xv iv : Value} (hi : Inv X ρ H w) (hx : relI ρ x xv) (hix : relI ρ ix iv) (h : stIndex P T x ix = some (c, v, W)) (hc : c) :
    StepOK P X ρ (do pure (.value (← Instr.index T xv iv))) w v H W := by
  unfold stIndex at h
  split at h
  · rename_i l k i
    obtain ⟨rfl, _⟩ := hix
    obtain ⟨cs, rfl, hr⟩ := hx
    split at h
    · rename_i n e ag ha
      split at h
      · rename_i r hs
        cases h
        unfold arrT at ha
        split at ha
        · rename_i n' el hu
          split at ha
          · rename_i n2 ag2 hp
            cases ha
            obtain ⟨y, hrun, hy⟩ := part_seg (P := P) (w := w) hp hr hs
            refine StepOK.pure hi hy ?_
            have hsz := run_sizeOf' P w (partT_spec hp).1
            simp [Instr.index, run_underlying' P w hu, asIntOf, hc, hsz, hrun]
          · cases ha
        · cases ha
      · cases h
    · cases h
  · rename_i s k i
    obtain ⟨rfl, _⟩ := hix
    obtain ⟨rfl, _⟩ := hx
    split at h
    · rename_i hs
      cases h
      have hu : P.underlying T = some .string := by
        unfold strT at hs
        split at hs
        · assumption
        · cases hs
      have hlt : i.toNat < s.size := by omega
      refine StepOK.pure hi (x := .int .u8 (byteAt s i.toNat)) ⟨rfl, rfl⟩ ?_
      have e : s[i.toNat]? = some (s[i.toNat]) := by
        exact getElem?_pos s i.toNat hlt
      have e2 : byteAt s i.toNat = (s[i.toNat]).toNat := by
        have hd : i.toNat < s.data.size := hlt
        simp only [byteAt, Array.getElem?_eq_getElem hd, Option.getD_some]; rfl
      simp [Instr.index, run_underlying' P w hu, asIntOf, hc.1, e, e2]
    · cases h
  · cases h

theorem stIndexAddr_sound {T : TypeId} {x ix : IV} {xv iv : Value} (hi : Inv X ρ H w) (hx : relI ρ x xv) (hix : relI ρ ix iv) (h : stIndexAddr P T x ix H = some (c, v, W)) (hc : c) :
    StepOK P X ρ (do pure (.value (← Instr.indexAt T xv iv))) w v H W := by
  unfold stIndexAddr at h
  split at h
  · rename_i ci i o k j
    obtain ⟨rfl, _⟩ := hix
    obtain ⟨b, base, sz, lim, hρ, rfl⟩ := hx
    split at h
    · rename_i n e ag ha
      cases h
      unfold arrT at ha
      split at ha
      · rename_i n' el hu
        split at ha
        · rename_i n2 ag2 hp
          cases ha
          refine StepOK.pure hi (x := .pointer (some ⟨b, base + i * sz + (o + j.toNat * e), none⟩)) ⟨b, base, sz, lim, hρ, rfl⟩ ?_
          have hsz := run_sizeOf' P w (partT_spec hp).1
          simp [Instr.indexAt, run_underlying' P w hu, asIntOf, Instr.sureAddr, hc, hsz, addr_add, Nat.add_assoc]
        · cases ha
      · cases ha
    · cases h
  · rename_i ci s n k j
    obtain ⟨rfl, _⟩ := hix
    split at h
    · rename_i own sz els e hH hsl
      split at h
      · rename_i hek
        cases h
        obtain ⟨l, hl, hsat⟩ := hi.sat ci _ hH
        unfold slT at hsl
        split at hsl
        · rename_i el hu
          have hsz := run_sizeOf' P w hsl
          rcases hx with ⟨hρ, rfl, rfl, rfl⟩ | ⟨b, base, sz', lim, cap, hρ, rfl, hle, hcap⟩ | ⟨b, base, sz', lim, off, hρ, rfl, rfl⟩
          · omega
          · rw [hρ] at hl; cases hl
            rcases hsat with ⟨h, _⟩ | ⟨b', base', lim', cells, T', lo, hi', he, _⟩
            · cases h
            · cases he
              refine StepOK.pure hi (x := .pointer (some ⟨b, base + (s + j.toNat) * sz + 0, none⟩)) ⟨b, base, sz, lim, hρ, rfl⟩ ?_
              subst hek
              simp [Instr.indexAt, run_underlying' P w hu, asIntOf, hc, hsz, addr_add, Nat.add_mul, Nat.add_assoc]
          · omega
        · cases hsl
      · cases h
    · cases h
  · rename_i ci i o k n k' j
    obtain ⟨rfl, _⟩ := hix
    split at h
    · rename_i hsl
      cases h
      unfold slT at hsl
      split at hsl
      · rename_i el hu
        have hsz := run_sizeOf' P w hsl
        rcases hx with ⟨b, base, sz', lim, cap, hρ, rfl, hle⟩ | ⟨b, base, sz', lim, off, hρ, rfl, rfl⟩
        · refine StepOK.pure hi (x := .pointer (some ⟨b, base + i * sz' + (o + j.toNat * k), none⟩)) ⟨b, base, sz', lim, hρ, rfl⟩ ?_
          simp [Instr.indexAt, run_underlying' P w hu, asIntOf, hc, hsz, addr_add, Nat.add_assoc]
        · omega
      · cases hsl
    · cases h
  · cases h

theorem stLen_sound {t T : TypeId} {x : IV} {xv : Value} (hi : Inv X ρ H w) (hx : relI ρ x xv) (h : stLen P t x = some (c, v, W)) :
    StepOK P X ρ (do pure (.value (← Builtin.len_ #[t] T #[xv]))) w v H W := by
  have sl : ∀ {k}, slT P t = some k → ∃ e, P.underlying t = some (.slice e) := fun h => by
    unfold slT at h
    split at h
    · exact ⟨_, by assumption⟩
    · cases h
  unfold stLen at h
  split at h
  · rename_i ci s n
    split at h
    · rename_i k hk
      cases h
      obtain ⟨e, hu⟩ := sl hk
      refine StepOK.pure hi (x := .int .i64 n) ⟨rfl, rfl⟩ ?_
      rcases hx with ⟨_, _, rfl, rfl⟩ | ⟨_, _, _, _, _, _, rfl, _⟩ | ⟨_, _, _, _, _, _, rfl, rfl⟩ <;> simp [Builtin.len_, run_underlying' P w hu, goInt]
    · cases h
  · split at h
    · rename_i k hk
      cases h
      obtain ⟨e, hu⟩ := sl hk
      obtain ⟨rfl, _⟩ := hx
      exact StepOK.pure hi ⟨rfl, rfl⟩ (by simp [Builtin.len_, run_underlying' P w hu, goInt])
    · cases h
  · rename_i ci i o k' n
    split at h
    · rename_i k hk
      cases h
      obtain ⟨e, hu⟩ := sl hk
      refine StepOK.pure hi (x := .int .i64 n) ⟨rfl, rfl⟩ ?_
      rcases hx with ⟨_, _, _, _, _, _, rfl, _⟩ | ⟨_, _, _, _, _, _, rfl, rfl⟩ <;> simp [Builtin.len_, run_underlying' P w hu, goInt]
    · cases h
  · rename_i s
    split at h
    · rename_i hs
      cases h
      obtain ⟨rfl, _⟩ := hx
      have hu : P.underlying t = some .string := by
        unfold strT at hs
        split at hs
        · assumption
        · cases hs
      exact StepOK.pure hi ⟨rfl, rfl⟩ (by simp [Builtin.len_, run_underlying' P w hu, goInt])
    · cases h
  · split at h
    · rename_i n e hu
      cases h
      exact StepOK.pure hi ⟨rfl, rfl⟩ (by simp [Builtin.len_, run_underlying' P w hu, goInt])
    · cases h

theorem stMin_sound {xs : List IV} {vs : List Value} {ts : Array TypeId} {T : TypeId} (hi : Inv X ρ H w) (hx : relA ρ xs vs) (h : stMin xs = some (c, v, W)) :
    StepOK P X ρ (do pure (.value (← Builtin.min_ ts T vs.toArray))) w v H W := by
  unfold stMin at h
  split at h
  · cases h
    match vs, hx with
    | [v1, v2], ⟨⟨h1, _⟩, ⟨h2, _⟩, _⟩ =>
      subst h1; subst h2
      exact StepOK.pure hi ⟨rfl, rfl⟩ (by simp [Builtin.min_, Builtin.min2])
  · cases h
theorem stMax_sound {xs : List IV} {vs : List Value} {ts : Array TypeId} {T : TypeId} (hi : Inv X ρ H w) (hx : relA ρ xs vs) (h : stMax xs = some (c, v, W)) :
    StepOK P X ρ (do pure (.value (← Builtin.max_ ts T vs.toArray))) w v H W := by
  unfold stMax at h
  split at h
  · cases h
    match vs, hx with
    | [v1, v2], ⟨⟨h1, _⟩, ⟨h2, _⟩, _⟩ =>
      subst h1; subst h2
      exact StepOK.pure hi ⟨rfl, rfl⟩ (by simp [Builtin.max_, Builtin.max2])
  · cases h
end
end Go.Ev
