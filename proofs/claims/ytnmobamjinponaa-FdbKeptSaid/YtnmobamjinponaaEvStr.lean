/- Slice expressions, copy, conversions of strings and bytes, ideally. -/
import Derived.Test.YtnmobamjinponaaEvApp2
import Derived.Laws.IdiomStrings
import Derived.Laws.BytesArg
import Derived.Laws.Slices
set_option linter.unusedSimpArgs false
namespace Go.Ev
open Go.RowKit

def bnd (d : Nat) : Option IV → Option Int
  | none => some d
  | some (.s (.raw (.int _ i))) => some i
  | _ => none

def stSlice (P : Program) (T : TypeId) (x : IV) (lo hi : Option IV) (H : Heap) : Res :=
  match x with
  | .s (.raw (.string s)) => if strT P T then match bnd 0 lo, bnd s.size hi with
    | some l, some h => some (0 ≤ l ∧ l ≤ h ∧ h ≤ s.size, .s (.raw (.string (s.extract l.toNat h.toNat))), [])
    | _, _ => none
    else none
  | .s (.raw (.slice none 0 0)) => match slT P T, bnd 0 lo, bnd 0 hi with
    | some _, some l, some h => some (l = 0 ∧ h = 0, .s (.raw (.slice none 0 0)), [])
    | _, _, _ => none
  | .s (.slice c s n) => match H[c]?, slT P T, bnd 0 lo, bnd n hi with
    | some (.rows _ sz _), some k, some l, some h => if sz = k then some (0 ≤ l ∧ l ≤ h ∧ h ≤ n, .s (.slice c (s + l.toNat) (h.toNat - l.toNat)), []) else none
    | _, _, _, _ => none
  | .s (.sub c i o k n) => match slT P T, bnd 0 lo, bnd n hi with
    | some k', some l, some h => if k' = k then some (0 ≤ l ∧ l ≤ h ∧ h ≤ n, .s (.sub c i (o + l.toNat * k) k (h.toNat - l.toNat)), []) else none
    | _, _, _ => none
  | .s (.ptr c i o) => match arrT P T with
    | some (n, k, _) => match bnd 0 lo, bnd n hi with
      | some l, some h => some (0 ≤ l ∧ l ≤ h ∧ h ≤ n, .s (.sub c i (o + l.toNat * k) k (h.toNat - l.toNat)), [])
      | _, _ => none
    | none => none
  | .s (.raw (.pointer (some q))) => match arrT P T, lo, hi with
    | some (n, _, _), none, none => if n = 0 then none else some (True, .s (.raw (.slice (some q) n n)), [])
    | _, _, _ => none
  | _ => none

def stArr (P : Program) (A : TypeId) (x : IV) : Res :=
  match arrT P A with
  | some (N, _, _) => if N = 0 then none else match x with
    | .s (.slice c s n) => some (N ≤ n, .s (.ptr c s 0), [])
    | .s (.sub c i o _ n) => some (N ≤ n, .s (.ptr c i o), [])
    | _ => none
  | none => none

def stCopy (P : Program) (T : TypeId) (x y : IV) (H : Heap) : Res :=
  match slT P T with
  | some sz => if sz = 0 then none else match srcR sz y H with
    | some news => match x with
      | .s (.raw (.slice none 0 0)) => some (True, .s (.raw (.int .i64 0)), [])
      | .s (.slice c s n) => match H[c]? with
        | some (.rows true sz' els) => if sz' = sz then match segR els s n with
          | some _ => some (True, .s (.raw (.int .i64 (min news.length n : Nat))), [(c, .rows true sz (els.take s ++ (news.take n ++ els.drop (s + min news.length n))))])
          | none => none
          else none
        | _ => none
      | .s (.sub c i o k n) => match H[c]? with
        | some (.rows true sz' els) => match els[i]? with
          | some row => if k = sz then match spl row o (news.take n).flatten with
            | some l => some (True, .s (.raw (.int .i64 (min news.length n : Nat))), [(c, .rows true sz' (els.set i l))])
            | none => none
            else none
          | none => none
        | _ => none
      | _ => none
    | none => none
  | none => none

def rowByte : List SV → Option UInt8
  | [.raw (.int .u8 n)] => some (UInt8.ofNat n.toNat)
  | _ => none
def byteRows : List (List SV) → Option (List UInt8)
  | [] => some []
  | r :: rs => match rowByte r, byteRows rs with
    | some b, some l => some (b :: l)
    | _, _ => none

/-- Is a type that of byte slices? -/
def isBytesT (P : Program) (T : TypeId) : Bool :=
  match P.underlying T with
  | some (.slice e) => (match P.underlying e with | some (.int .u8) => true | _ => false) && decide (szT P e = some 1)
  | _ => false

def isIntV : IV → Bool
  | .s (.raw (.int _ _)) => true
  | _ => false

def stConv2 (P : Program) (m : Nat) (src dst : TypeId) (x : IV) (H : Heap) : Res :=
  if isIntV x = true then stConv P src dst x else match x with
  | .s (.raw (.string s)) => if strT P src then (if strT P dst then some (True, .s (.raw (.string s)), []) else if isBytesT P dst then some (True, .s (.slice m 0 s.size), [(m, .rows true 1 (bytesR s))]) else none) else none
  | x => if strT P dst && isBytesT P src then match srcR 1 x H with
    | some rows => match byteRows rows with
      | some l => some (True, .s (.raw (.string ⟨l.toArray⟩)), [])
      | none => none
    | none => none
    else none

section
variable {P : Program} {X : Ctx} {ρ : Ren} {H : Heap} {W : List (Nat × Chunk)} {m : Nat} {w : World} {c : Prop} {v : IV}

def relO (ρ : Ren) : Option IV → Option Value → Prop
  | none, none => True
  | some x, some v => relI ρ x v
  | _, _ => False

theorem bnd_spec {d : Nat} {x : Option IV} {xv : Option Value} {i : Int} (hr : relO ρ x xv) (h : bnd d x = some i) : (xv = none ∧ i = d) ∨ ∃ k, xv = some (.int k i) := by
  unfold bnd at h
  split at h
  · cases xv with
    | none => cases h; exact .inl ⟨rfl, rfl⟩
    | some v => exact hr.elim
  · cases xv with
    | none => exact hr.elim
    | some v => cases h; obtain ⟨rfl, _⟩ := hr; exact .inr ⟨_, rfl⟩
  · cases h

theorem run_bounds (P : Program) (w : World) {isSl : Bool} {len cap : Nat} {lo hi : Option Value} {l h : Int} (h1 : lo = none ∧ l = (0 : Nat) ∨ ∃ k, lo = some (.int k l)) (h2 : hi = none ∧ h = (len : Nat) ∨ ∃ k, hi = some (.int k h)) (h0 : 0 ≤ l) (hlh : l ≤ h) (hc : h ≤ cap) :
    (Instr.sliceBounds isSl len cap lo hi none).run P w = .ok (l.toNat, h.toNat, cap) w := by
  have eh : (h.toNat : Int) = h := Int.toNat_of_nonneg (by omega)
  rcases h1 with ⟨rfl, rfl⟩ | ⟨k, rfl⟩ <;> rcases h2 with ⟨rfl, rfl⟩ | ⟨k2, rfl⟩
  · simp [Instr.sliceBounds]
  · have := run_sliceBound (P := P) w k2 h cap (if isSl = true then BoundsCode.sliceAcap else BoundsCode.sliceAlen) (by omega) hc
    simp [Instr.sliceBounds, this]
  · have := run_sliceBound (P := P) w k l len (if (none : Option Value).isSome then .slice3C else .sliceB) h0 hlh
    simp at this
    simp [Instr.sliceBounds, this]
  · have := run_sliceBound (P := P) w k l h.toNat (if (none : Option Value).isSome then .slice3C else .sliceB) h0 (by omega)
    simp at this
    simp [Instr.sliceBounds, run_sliceBound, *, (by omega : 0 ≤ h)]

theorem strT_spec {T : TypeId} (h : strT P T = true) : P.underlying T = some .string := by
  unfold strT at h
  split at h
  · assumption
  · cases h
theorem slT_spec {T : TypeId} {k : Nat} (h : slT P T = some k) : ∃ e, P.underlying T = some (.slice e) ∧ szT P e = some k := by
  unfold slT at h
  split at h
  · exact ⟨_, by assumption, h⟩
  · cases h
theorem arrT_spec {T : TypeId} {n k : Nat} {ag : Bool} (h : arrT P T = some (n, k, ag)) : ∃ e, P.underlying T = some (.array n e) ∧ szT P e = some k := by
  unfold arrT at h
  split at h
  · rename_i n' e hu
    split at h
    · rename_i k' ag' hp
      cases h
      unfold partT at hp
      split at hp
      · rename_i hz _
        split at hp
        · cases hp
        · cases hp; exact ⟨e, hu, hz⟩
      · cases hp
    · cases h
  · cases h

theorem stSlice_sound {T : TypeId} {x : IV} {xv : Value} {lo hi : Option IV} {lv hv : Option Value} (hinv : Inv X ρ H w) (hx : relI ρ x xv) (hl : relO ρ lo lv) (hh : relO ρ hi hv) (h : stSlice P T x lo hi H = some (c, v, W)) (hc : c) :
    StepOK P X ρ (do pure (.value (← Instr.sliceAt T xv lv hv none))) w v H W := by
  unfold stSlice at h
  split at h
  · rename_i s
    split at h
    · rename_i hs
      split at h
      · rename_i l h' hbl hbh
        cases h
        obtain ⟨rfl, _⟩ := hx
        have hb := run_bounds P w (isSl := false) (bnd_spec hl hbl) (bnd_spec hh hbh) hc.1 hc.2.1 hc.2.2
        have hu := strT_spec hs
        refine StepOK.pure hinv ⟨rfl, rfl⟩ ?_
        simp [Instr.sliceAt, Instr.slice, run_underlying' P w hu, hb]
      · cases h
    · cases h
  · split at h
    · rename_i k l h' hk hbl hbh
      cases h
      obtain ⟨rfl, rfl⟩ := hc
      obtain ⟨rfl, _⟩ := hx
      obtain ⟨e, hu, hz⟩ := slT_spec hk
      have hb := run_bounds P w (isSl := true) (len := 0) (cap := 0) (bnd_spec hl hbl) (bnd_spec hh hbh) (by simp) (by simp) (by simp)
      refine StepOK.pure hinv ⟨rfl, rfl⟩ ?_
      simp [Instr.sliceAt, Instr.slice, run_underlying' P w hu, hb, run_sizeOf' P w hz]
    · cases h
  · rename_i ci s n
    split at h
    · rename_i own sz els k l h' hch hk hbl hbh
      split at h
      · rename_i hsz; subst hsz
        cases h
        obtain ⟨e, hu, hz⟩ := slT_spec hk
        obtain ⟨l', hl', hsat⟩ := hinv.sat ci _ hch
        rcases hx with ⟨hρ, rfl, rfl, rfl⟩ | ⟨b, base, sz1, lim, cap, hρ, rfl, hcap, hlim⟩ | ⟨b, base, sz1, lim, off, hρ, rfl, rfl⟩
        · have hb := run_bounds P w (isSl := true) (len := 0) (cap := 0) (bnd_spec hl hbl) (bnd_spec hh hbh) hc.1 hc.2.1 hc.2.2
          have e1 : l.toNat = 0 := by omega
          have e2 : h'.toNat = 0 := by omega
          refine StepOK.pure hinv (x := .slice none 0 0) (.inl ⟨hρ, by omega, by omega, rfl⟩) ?_
          simp [Instr.sliceAt, Instr.slice, run_underlying' P w hu, hb, run_sizeOf' P w hz, e1, e2]
        · have hsz : sz1 = sz := by
            rw [hρ] at hl'; cases hl'
            rcases hsat with ⟨h, _⟩ | ⟨_, _, _, _, _, _, _, h, _⟩
            · cases h
            · cases h; rfl
          subst hsz
          have hb := run_bounds P w (isSl := true) (len := n) (cap := cap) (bnd_spec hl hbl) (bnd_spec hh hbh) hc.1 hc.2.1 (by omega)
          by_cases e0 : cap = l.toNat
          · refine StepOK.pure hinv (x := .slice (some ⟨b, base + s * sz1, none⟩) 0 0) (.inr (.inr ⟨b, base, sz1, lim, _, hρ, by omega, rfl⟩)) ?_
            have e1 : h'.toNat - l.toNat = 0 := by omega
            simp [Instr.sliceAt, Instr.slice, run_underlying' P w hu, hb, run_sizeOf' P w hz, ← e0, e1]
            omega
          · refine StepOK.pure hinv (x := .slice (some ⟨b, base + (s + l.toNat) * sz1, none⟩) (h'.toNat - l.toNat) (cap - l.toNat)) (.inr (.inl ⟨b, base, sz1, lim, _, hρ, rfl, by omega, by omega⟩)) ?_
            simp [Instr.sliceAt, Instr.slice, run_underlying' P w hu, hb, run_sizeOf' P w hz, e0, addr_add, Nat.add_mul, Nat.add_assoc]
        · have hb := run_bounds P w (isSl := true) (len := 0) (cap := 0) (bnd_spec hl hbl) (bnd_spec hh hbh) hc.1 hc.2.1 hc.2.2
          have e1 : l.toNat = 0 := by omega
          have e2 : h'.toNat = 0 := by omega
          refine StepOK.pure hinv (x := .slice (some ⟨b, off, none⟩) 0 0) (.inr (.inr ⟨b, base, sz1, lim, off, hρ, by omega, rfl⟩)) ?_
          simp [Instr.sliceAt, Instr.slice, run_underlying' P w hu, hb, run_sizeOf' P w hz, e1, e2]
      · cases h
    · cases h
  · rename_i ci i o k n
    split at h
    · rename_i k' l h' hk hbl hbh
      split at h
      · rename_i hkk; subst hkk
        cases h
        obtain ⟨e, hu, hz⟩ := slT_spec hk
        rcases hx with ⟨b, base, sz1, lim, cap, hρ, rfl, hcap⟩ | ⟨b, base, sz1, lim, off, hρ, rfl, rfl⟩
        · have hb := run_bounds P w (isSl := true) (len := n) (cap := cap) (bnd_spec hl hbl) (bnd_spec hh hbh) hc.1 hc.2.1 (by omega)
          by_cases e0 : cap = l.toNat
          · refine StepOK.pure hinv (x := .slice (some ⟨b, base + i * sz1 + o, none⟩) 0 0) (.inr ⟨b, base, sz1, lim, _, hρ, by omega, rfl⟩) ?_
            have e1 : h'.toNat - l.toNat = 0 := by omega
            simp [Instr.sliceAt, Instr.slice, run_underlying' P w hu, hb, run_sizeOf' P w hz, ← e0, e1]
            omega
          · refine StepOK.pure hinv (x := .slice (some ⟨b, base + i * sz1 + (o + l.toNat * k'), none⟩) (h'.toNat - l.toNat) (cap - l.toNat)) (.inl ⟨b, base, sz1, lim, _, hρ, rfl, by omega⟩) ?_
            simp [Instr.sliceAt, Instr.slice, run_underlying' P w hu, hb, run_sizeOf' P w hz, e0, addr_add, Nat.add_assoc]
        · have hb := run_bounds P w (isSl := true) (len := 0) (cap := 0) (bnd_spec hl hbl) (bnd_spec hh hbh) hc.1 hc.2.1 hc.2.2
          have e1 : l.toNat = 0 := by omega
          have e2 : h'.toNat = 0 := by omega
          refine StepOK.pure hinv (x := .slice (some ⟨b, off, none⟩) 0 0) (.inr ⟨b, base, sz1, lim, off, hρ, by omega, rfl⟩) ?_
          simp [Instr.sliceAt, Instr.slice, run_underlying' P w hu, hb, run_sizeOf' P w hz, e1, e2]
      · cases h
    · cases h
  · rename_i ci i o
    split at h
    · rename_i n k ag hk
      split at h
      · rename_i l h' hbl hbh
        cases h
        obtain ⟨e, hu, hz⟩ := arrT_spec hk
        obtain ⟨b, base, sz1, lim, hρ, rfl⟩ := hx
        have hb := run_bounds P w (isSl := false) (len := n) (cap := n) (bnd_spec hl hbl) (bnd_spec hh hbh) hc.1 hc.2.1 hc.2.2
        by_cases e0 : n = l.toNat
        · refine StepOK.pure hinv (x := .slice (some ⟨b, base + i * sz1 + o, none⟩) 0 0) (.inr ⟨b, base, sz1, lim, _, hρ, by omega, rfl⟩) ?_
          have e1 : h'.toNat - l.toNat = 0 := by omega
          simp [Instr.sliceAt, asAddr, Instr.sureAddr, run_underlying' P w hu, hb, run_sizeOf' P w hz, ← e0, e1]
          omega
        · refine StepOK.pure hinv (x := .slice (some ⟨b, base + i * sz1 + (o + l.toNat * k), none⟩) (h'.toNat - l.toNat) (n - l.toNat)) (.inl ⟨b, base, sz1, lim, _, hρ, rfl, by omega⟩) ?_
          simp [Instr.sliceAt, asAddr, Instr.sureAddr, run_underlying' P w hu, hb, run_sizeOf' P w hz, e0, addr_add, Nat.add_assoc]
      · cases h
    · cases h
  · rename_i q
    split at h
    · rename_i n k ag hk
      split at h
      · cases h
      · rename_i hn
        cases h
        obtain ⟨e, hu, hz⟩ := arrT_spec hk
        obtain ⟨rfl, _⟩ := hx
        have e1 : lv = none := by
          cases lv with
          | none => rfl
          | some _ => exact hl.elim
        have e2 : hv = none := by
          cases hv with
          | none => rfl
          | some _ => exact hh.elim
        subst e1; subst e2
        have hb := run_bounds P w (isSl := false) (len := n) (cap := n) (lo := none) (hi := none) (l := 0) (h := n) (.inl ⟨rfl, rfl⟩) (.inl ⟨rfl, rfl⟩) (by omega) (by omega) (by omega)
        refine StepOK.pure hinv (x := .slice (some q) n n) ⟨rfl, rfl⟩ ?_
        simp [Instr.sliceAt, asAddr, Instr.sureAddr, run_underlying' P w hu, hb, run_sizeOf' P w hz, hn, addr_add]
        cases q
        rfl
    · cases h
  · cases h

theorem stArr_sound {A : TypeId} {x : IV} {xv : Value} (hinv : Inv X ρ H w) (hx : relI ρ x xv) (h : stArr P A x = some (c, v, W)) (hc : c) :
    StepOK P X ρ (do pure (.value (← Instr.arrayAt A xv))) w v H W := by
  unfold stArr at h
  split at h
  · rename_i N k ag hk
    obtain ⟨e, hu, hz⟩ := arrT_spec hk
    split at h
    · cases h
    · rename_i hN
      split at h
      · rename_i ci s n
        cases h
        rcases hx with ⟨hρ, rfl, rfl, rfl⟩ | ⟨b, base, sz1, lim, cap, hρ, rfl, hcap, hlim⟩ | ⟨b, base, sz1, lim, off, hρ, rfl, rfl⟩
        · omega
        · refine StepOK.pure hinv (x := .pointer (some ⟨b, base + s * sz1 + 0, none⟩)) ⟨b, base, sz1, lim, hρ, rfl⟩ ?_
          have : ¬ n < N := by omega
          simp [Instr.arrayAt, run_underlying' P w hu, this]
        · omega
      · rename_i ci i o k' n
        cases h
        rcases hx with ⟨b, base, sz1, lim, cap, hρ, rfl, hcap⟩ | ⟨b, base, sz1, lim, off, hρ, rfl, rfl⟩
        · refine StepOK.pure hinv (x := .pointer (some ⟨b, base + i * sz1 + o, none⟩)) ⟨b, base, sz1, lim, hρ, rfl⟩ ?_
          have : ¬ n < N := by omega
          simp [Instr.arrayAt, run_underlying' P w hu, this]
        · omega
      · cases h
  · cases h

/-- Cells of a row, written. -/
theorem write_cells {ci i o sz : Nat} {els : List (List SV)} {row l xs : List SV} {vs : List Value} {b base sz1 lim : Nat} (hi : Inv X ρ H w) (hc : H[ci]? = some (.rows true sz els)) (hρ : ρ[ci]? = some (.mem b base sz1 lim))
    (hrow : els[i]? = some row) (hspl : spl row o xs = some l) (hcells : relL ρ xs vs) :
    ∃ w', (storeCells ⟨b, base + i * sz1 + o, none⟩ vs).run P w = .ok () w' ∧ Inv X ρ (H.set ci (.rows true sz (els.set i l))) w' := by
  obtain ⟨l', hl', hsat⟩ := hi.sat ci _ hc
  rw [hρ] at hl'; cases hl'
  rcases hsat with ⟨h, _⟩ | ⟨b', base', lim', cells, T', lo, hi', he, hw, hsz0, hlim, hfit, hfz, hone, hrows⟩
  · cases h
  · cases he
    have hvl := hcells.len
    obtain ⟨hll, hle, hget⟩ := spl_spec hspl
    obtain ⟨hrl, hr⟩ := hrows i row hrow
    have hi_lt : i < els.length := (List.getElem?_eq_some_iff.1 hrow).1
    have hmul : (i + 1) * sz ≤ lim * sz := Nat.mul_le_mul_right _ (by omega)
    have hmul2 : (i + 1) * sz = i * sz + sz := by rw [Nat.add_mul, Nat.one_mul]
    have honeN := relL_one hi.obj1 hcells
    obtain ⟨cs', hrun, hcsz, hin, hout⟩ := run_storeList P (T := T') vs 0 (base + i * sz + o) w cells hw (by omega) (hfz rfl) honeN
    refine ⟨_, hrun, hi.upd hc hρ rfl rfl rfl rfl (by simp [setBlk]) (fun b' hb' => ?_) (.inr ⟨b, base, lim, cs', T', lo, hi', rfl, ?_, hsz0, by simpa using hlim, by omega, fun _ => by rw [hcsz]; exact hfz rfl, fun _ u hu => ?_, ?_⟩) rfl⟩
    · have : b ≠ b' := fun e => hb' (by rw [e]; rfl)
      simp [setBlk, this]
    · simp [setBlk, (Array.getElem?_eq_some_iff.1 hw).1]
    · obtain ⟨j, hj⟩ := Array.mem_iff_getElem?.1 hu
      by_cases h1 : base + i * sz + o + 0 ≤ j ∧ j < base + i * sz + o + 0 + vs.length
      · rw [hin j h1.1 h1.2] at hj
        exact honeN u (List.mem_of_getElem? hj)
      · rw [hout j (by omega)] at hj
        exact hone rfl u (Array.mem_of_getElem? hj)
    · intro i' row' hr'
      by_cases e : i' = i
      · subst e
        rw [List.getElem?_set_self hi_lt] at hr'; cases hr'
        refine ⟨by omega, fun o' y hy => ?_⟩
        rcases hget o' y hy with ⟨h1, h2, h3⟩ | ⟨h1, h2⟩
        · obtain ⟨u, hu, hrel⟩ := hcells.get h3
          refine ⟨u, ?_, hrel⟩
          rw [hin _ (by omega) (by omega), ← hu]; congr 1; omega
        · obtain ⟨u, hu, hrel⟩ := hr o' y h2
          refine ⟨u, ?_, hrel⟩
          rw [hout _ (by omega)]; exact hu
      · rw [List.getElem?_set_ne (Ne.symm e)] at hr'
        obtain ⟨h1, h2⟩ := hrows i' row' hr'
        refine ⟨h1, fun o' y hy => ?_⟩
        obtain ⟨u, hu, hrel⟩ := h2 o' y hy
        refine ⟨u, ?_, hrel⟩
        have ho' := (List.getElem?_eq_some_iff.1 hy).1
        rw [hout _ ?_]
        · exact hu
        · rcases Nat.lt_or_gt_of_ne e with hlt | hgt
          · left
            have : (i' + 1) * sz ≤ i * sz := Nat.mul_le_mul_right _ (by omega)
            have : (i' + 1) * sz = i' * sz + sz := by rw [Nat.add_mul, Nat.one_mul]
            omega
          · right
            have : (i + 1) * sz ≤ i' * sz := Nat.mul_le_mul_right _ (by omega)
            omega

/-- Whole rows, written. -/
theorem write_rows {ci s sz : Nat} {els news : List (List SV)} {vs : List Value} {b base sz1 lim : Nat} (hi : Inv X ρ H w) (hc : H[ci]? = some (.rows true sz els)) (hρ : ρ[ci]? = some (.mem b base sz1 lim))
    (hs : s + news.length ≤ els.length) (hv : rowsV ρ sz news vs) :
    ∃ w', (storeCells ⟨b, base + s * sz1, none⟩ vs).run P w = .ok () w' ∧ Inv X ρ (H.set ci (.rows true sz (els.take s ++ (news ++ els.drop (s + news.length))))) w' := by
  obtain ⟨l', hl', hsat⟩ := hi.sat ci _ hc
  rw [hρ] at hl'; cases hl'
  rcases hsat with ⟨h, _⟩ | ⟨b', base', lim', cells, T', lo, hi', he, hw, hsz0, hlim, hfit, hfz, hone, hrows⟩
  · cases h
  · cases he
    have hvl := hv.1
    have hmul : (s + news.length) * sz ≤ lim * sz := Nat.mul_le_mul_right _ (by omega)
    have hmul2 : (s + news.length) * sz = s * sz + news.length * sz := Nat.add_mul _ _ _
    have honeN := hv.one hi.obj1 hsz0
    have hlen : (els.take s ++ (news ++ els.drop (s + news.length))).length = els.length := by simp; omega
    obtain ⟨cs', hrun, hcsz, hin, hout⟩ := run_storeList P (T := T') vs 0 (base + s * sz) w cells hw (by omega) (hfz rfl) honeN
    refine ⟨_, hrun, hi.upd hc hρ rfl rfl rfl rfl (by simp [setBlk]) (fun b' hb' => ?_) (.inr ⟨b, base, lim, cs', T', lo, hi', rfl, ?_, hsz0, by rw [hlen]; exact hlim, by omega, fun _ => by rw [hcsz]; exact hfz rfl, fun _ u hu => ?_, ?_⟩) rfl⟩
    · have : b ≠ b' := fun e => hb' (by rw [e]; rfl)
      simp [setBlk, this]
    · simp [setBlk, (Array.getElem?_eq_some_iff.1 hw).1]
    · obtain ⟨j, hj⟩ := Array.mem_iff_getElem?.1 hu
      by_cases h1 : base + s * sz + 0 ≤ j ∧ j < base + s * sz + 0 + vs.length
      · rw [hin j h1.1 h1.2] at hj
        exact honeN u (List.mem_of_getElem? hj)
      · rw [hout j (by omega)] at hj
        exact hone rfl u (Array.mem_of_getElem? hj)
    · intro i' row' hr'
      have old : (i' < s ∨ s + news.length ≤ i') → els[i']? = some row' → row'.length = sz ∧ ∀ (o : Nat) (x : SV), row'[o]? = some x → ∃ v, cs'[base + i' * sz + o]? = some v ∧ relS ρ x v := by
        intro hout' hr'
        obtain ⟨h1, h2⟩ := hrows i' row' hr'
        refine ⟨h1, fun o' y hy => ?_⟩
        obtain ⟨u, hu, hrel⟩ := h2 o' y hy
        refine ⟨u, ?_, hrel⟩
        have ho' := (List.getElem?_eq_some_iff.1 hy).1
        rw [hout _ ?_]
        · exact hu
        · rcases hout' with hlt | hgt
          · left
            have : (i' + 1) * sz ≤ s * sz := Nat.mul_le_mul_right _ (by omega)
            have : (i' + 1) * sz = i' * sz + sz := by rw [Nat.add_mul, Nat.one_mul]
            omega
          · right
            have : (s + news.length) * sz ≤ i' * sz := Nat.mul_le_mul_right _ (by omega)
            omega
      have ht : (els.take s).length = s := by simp; omega
      by_cases h1 : i' < s
      · rw [List.getElem?_append_left (by omega), List.getElem?_take_of_lt h1] at hr'
        exact old (.inl h1) hr'
      · rw [List.getElem?_append_right (by omega), ht] at hr'
        by_cases h2 : i' - s < news.length
        · rw [List.getElem?_append_left h2] at hr'
          obtain ⟨h3, h4⟩ := hv.2 _ _ hr'
          refine ⟨h3, fun o' y hy => ?_⟩
          obtain ⟨u, hu, hrel⟩ := h4 o' y hy
          have ho' := (List.getElem?_eq_some_iff.1 hy).1
          have hul := (List.getElem?_eq_some_iff.1 hu).1
          refine ⟨u, ?_, hrel⟩
          have e1 : i' * sz = s * sz + (i' - s) * sz := by rw [← Nat.add_mul]; congr 1; omega
          rw [hin _ (by omega) (by omega), ← hu]; congr 1; omega
        · rw [List.getElem?_append_right (by omega), List.getElem?_drop] at hr'
          rw [show s + news.length + (i' - s - news.length) = i' by omega] at hr'
          exact old (.inr (by omega)) hr'

theorem rowsV.take {sz : Nat} {r : List (List SV)} {vs : List Value} (h : rowsV ρ sz r vs) (k : Nat) : rowsV ρ sz (r.take k) (vs.take (k * sz)) := by
  have hm : ∀ a b : Nat, a ≤ b → a * sz ≤ b * sz := fun a b h => Nat.mul_le_mul_right _ h
  refine ⟨?_, fun i row hr => ?_⟩
  · simp only [List.length_take, h.1]
    rcases Nat.le_total k r.length with h1 | h1
    · rw [Nat.min_eq_left h1, Nat.min_eq_left (hm _ _ h1)]
    · rw [Nat.min_eq_right h1, Nat.min_eq_right (hm _ _ h1)]
  · have hlt := (List.getElem?_eq_some_iff.1 hr).1
    simp at hlt
    have hlt : i < k ∧ i < r.length := by omega
    rw [List.getElem?_take_of_lt hlt.1] at hr
    obtain ⟨h1, h2⟩ := h.2 i row hr
    refine ⟨h1, fun o x hx => ?_⟩
    obtain ⟨u, hu, hs⟩ := h2 o x hx
    refine ⟨u, ?_, hs⟩
    have ho := (List.getElem?_eq_some_iff.1 hx).1
    have := hm (i + 1) k hlt.1
    rw [Nat.add_mul, Nat.one_mul] at this
    rw [List.getElem?_take_of_lt (by omega)]; exact hu

theorem rowsV.flat {sz : Nat} {r : List (List SV)} {vs : List Value} (h : rowsV ρ sz r vs) (hsz : 0 < sz) : relL ρ r.flatten vs := by
  obtain ⟨h1, h2⟩ := flatten_get (r := r) fun i row hi => (h.2 i row hi).1
  refine relL_of_get (by rw [h1, h.1]) fun j x hx => ?_
  obtain ⟨row, ha, hb⟩ := h2 j x hsz hx
  obtain ⟨u, hu, hs⟩ := (h.2 _ row ha).2 _ x hb
  refine ⟨u, ?_, hs⟩
  have := Nat.div_add_mod j sz
  rw [Nat.mul_comm] at this
  rwa [this] at hu

theorem run_copy' {T T2 ty e : TypeId} {sz : Nat} {yv : Value} {news : List (List SV)} {vs : List Value} {base : Option Addr} {dLen dCap : Nat} {w' : World} (hu : P.underlying T = some (.slice e)) (hz : szT P e = some sz) (hsrc : SrcOK P w sz news yv vs)
    (hst : match base with | none => w' = w | some a => (storeCells a (vs.take (min news.length dLen * sz))).run P w = .ok () w') :
    (Builtin.copy_ #[T, T2] ty #[.slice base dLen dCap, yv]).run P w = .ok (.int .i64 (min news.length dLen : Nat)) w' := by
  have h1 := hsrc.1 w
  have h2 := hsrc.2 w (min news.length dLen) rfl (Nat.min_le_left _ _)
  have e : Nat.min news.length dLen = min news.length dLen := rfl
  cases base with
  | none => subst hst; simp [Builtin.copy_, run_underlying' P _ hu, h1, run_sizeOf' P _ hz, e, h2, goInt]
  | some a => simp [Builtin.copy_, run_underlying' P _ hu, h1, run_sizeOf' P _ hz, e, h2, goInt, hst]

theorem storeCells_nil {a : Addr} : (storeCells a []).run P w = .ok () w := by simp only [storeCells]; rfl

theorem stCopy_sound {T T2 ty : TypeId} {x y : IV} {xv yv : Value} (hi : Inv X ρ H w) (hx : relI ρ x xv) (hy : relI ρ y yv) (h : stCopy P T x y H = some (c, v, W)) :
    StepOK P X ρ (do pure (.value (← Builtin.copy_ #[T, T2] ty #[xv, yv]))) w v H W := by
  unfold stCopy at h
  split at h
  · rename_i sz hsl
    obtain ⟨e, hu, hz⟩ := slT_spec hsl
    split at h
    · cases h
    · rename_i hsz0
      have hpos : 0 < sz := by omega
      split at h
      · rename_i news hnews
        obtain ⟨vs, hvs, hsrc⟩ := src_spec (P := P) (w := w) hi hy hnews
        split at h
        · cases h
          obtain ⟨rfl, _⟩ := hx
          have := run_copy' (T2 := T2) (ty := ty) (base := none) (dLen := 0) (dCap := 0) (w' := w) hu hz hsrc rfl
          refine StepOK.pure hi (x := .int .i64 0) ⟨rfl, rfl⟩ ?_
          simp at this
          simp [this]
        · rename_i ci s n
          split at h
          · rename_i sz' els hch
            split at h
            · rename_i hsz; subst hsz
              split at h
              · rename_i olds holds
                cases h
                obtain ⟨hol, hle, _⟩ := segR_spec holds
                have hci : ci < H.length := (List.getElem?_eq_some_iff.1 hch).1
                have eu : ∀ ch, upd H [(ci, ch)] = H.set ci ch := fun ch => by simp only [upd, up1]; rw [if_neg (by omega)]
                have same : ∀ {xv : Value}, n = 0 → (Builtin.copy_ #[T, T2] ty #[xv, yv]).run P w = .ok (.int .i64 (min news.length n : Nat)) w →
                    StepOK P X ρ (do pure (.value (← Builtin.copy_ #[T, T2] ty #[xv, yv]))) w (.s (.raw (.int .i64 (min news.length n : Nat)))) H [(ci, .rows true sz' (els.take s ++ (news.take n ++ els.drop (s + min news.length n))))] := by
                  intro xv hn hrun
                  refine ⟨ρ, _, w, Le.refl _, fun c h hc => h, ⟨rfl, rfl⟩, ?_, .inl (by simp [hrun])⟩
                  rw [eu]
                  subst hn
                  have e1 : els.take s ++ (news.take 0 ++ els.drop (s + min news.length 0)) = els := by simp
                  rw [e1]
                  have : H.set ci (.rows true sz' els) = H := by
                    apply List.ext_getElem?
                    intro k
                    by_cases e : k = ci
                    · subst e; rw [List.getElem?_set_self hci, hch]
                    · rw [List.getElem?_set_ne (Ne.symm e)]
                  rw [this]; exact hi
                rcases hx with ⟨hρ, rfl, rfl, rfl⟩ | ⟨b, base, sz1, lim, cap, hρ, rfl, hcap, hlim⟩ | ⟨b, base, sz1, lim, off, hρ, rfl, rfl⟩
                · exact same rfl (run_copy' hu hz hsrc rfl)
                · have hsz1 : sz1 = sz' := by
                    obtain ⟨l', hl', hsat⟩ := hi.sat ci _ hch
                    rw [hρ] at hl'; cases hl'
                    rcases hsat with ⟨h, _⟩ | ⟨_, _, _, _, _, _, _, h, _⟩
                    · cases h
                    · cases h; rfl
                  have ht := hvs.take (min news.length n)
                  have hnl : (news.take (min news.length n)) = news.take n := by
                    rcases Nat.le_total news.length n with h1 | h1
                    · rw [Nat.min_eq_left h1, List.take_length, List.take_of_length_le h1]
                    · rw [Nat.min_eq_right h1]
                  have hll : (news.take n).length = min news.length n := by simp [Nat.min_comm]
                  rw [hnl] at ht
                  obtain ⟨w', hrun, hinv⟩ := write_rows (P := P) (s := s) hi hch hρ (by rw [hll]; omega) ht
                  refine ⟨ρ, .int .i64 (min news.length n : Nat), w', Le.refl _, fun c h hc => h, ⟨rfl, rfl⟩, ?_, .inl ?_⟩
                  · rw [eu]; rw [hll] at hinv; exact hinv
                  · have := run_copy' (T2 := T2) (ty := ty) (base := some ⟨b, base + s * sz1, none⟩) (dLen := n) (dCap := cap) (w' := w') hu hz hsrc hrun
                    simp [this]
                · exact same rfl (run_copy' hu hz hsrc (by simp [storeCells_nil]))
              · cases h
            · cases h
          · cases h
        · rename_i ci i o k n
          split at h
          · rename_i sz' els hch
            split at h
            · rename_i row hrow
              split at h
              · rename_i hk; subst hk
                split at h
                · rename_i l hl
                  cases h
                  have hci : ci < H.length := (List.getElem?_eq_some_iff.1 hch).1
                  have eu : ∀ ch, upd H [(ci, ch)] = H.set ci ch := fun ch => by simp only [upd, up1]; rw [if_neg (by omega)]
                  have ht := hvs.take (min news.length n)
                  have hnl : (news.take (min news.length n)) = news.take n := by
                    rcases Nat.le_total news.length n with h1 | h1
                    · rw [Nat.min_eq_left h1, List.take_length, List.take_of_length_le h1]
                    · rw [Nat.min_eq_right h1]
                  rw [hnl] at ht
                  rcases hx with ⟨b, base, sz1, lim, cap, hρ, rfl, hcap⟩ | ⟨b, base, sz1, lim, off, hρ, rfl, rfl⟩
                  · obtain ⟨w', hrun, hinv⟩ := write_cells (P := P) hi hch hρ hrow hl (ht.flat hpos)
                    refine ⟨ρ, .int .i64 (min news.length n : Nat), w', Le.refl _, fun c h hc => h, ⟨rfl, rfl⟩, by rw [eu]; exact hinv, .inl ?_⟩
                    have := run_copy' (T2 := T2) (ty := ty) (base := some ⟨b, base + i * sz1 + o, none⟩) (dLen := n) (dCap := cap) (w' := w') hu hz hsrc hrun
                    simp [this]
                  · have hl2 : l = row := by
                      simp only [List.take_zero, List.flatten_nil] at hl
                      apply List.ext_getElem?
                      intro j
                      obtain ⟨h1, h2, h3⟩ := spl_spec hl
                      by_cases hj : j < l.length
                      · rcases h3 j l[j] (List.getElem?_eq_getElem hj) with ⟨_, _, h⟩ | ⟨_, h⟩
                        · simp at h
                        · rw [h, List.getElem?_eq_getElem hj]
                      · rw [List.getElem?_eq_none (by omega), List.getElem?_eq_none (by omega)]
                    subst hl2
                    refine ⟨ρ, .int .i64 (min news.length 0 : Nat), w, Le.refl _, fun c h hc => h, ⟨rfl, rfl⟩, ?_, .inl ?_⟩
                    · rw [eu]
                      have e1 : els.set i l = els := by
                        apply List.ext_getElem?
                        intro k
                        by_cases e : k = i
                        · subst e; rw [List.getElem?_set_self (List.getElem?_eq_some_iff.1 hrow).1, hrow]
                        · rw [List.getElem?_set_ne (Ne.symm e)]
                      rw [e1]
                      have : H.set ci (.rows true sz' els) = H := by
                        apply List.ext_getElem?
                        intro k
                        by_cases e : k = ci
                        · subst e; rw [List.getElem?_set_self hci, hch]
                        · rw [List.getElem?_set_ne (Ne.symm e)]
                      rw [this]; exact hi
                    · have := run_copy' (T2 := T2) (ty := ty) (base := some ⟨b, off, none⟩) (dLen := 0) (dCap := 0) (w' := w) hu hz hsrc (by simp [storeCells_nil])
                      simp [this]
                · cases h
              · cases h
            · cases h
          · cases h
        · cases h
      · cases h
  · cases h

theorem byteRows_map {α : Type} (f : α → Int) : ∀ l : List α, byteRows (l.map fun b => [.raw (.int .u8 (f b))]) = some (l.map fun b => UInt8.ofNat (f b).toNat)
  | [] => rfl
  | a :: l => by simp [byteRows, rowByte, byteRows_map f l]
theorem byteRows_bytesR (s : ByteArray) : byteRows (bytesR s) = some s.toList := by
  unfold bytesR
  rw [byteRows_map (fun b : UInt8 => (b.toNat : Int))]
  simp
theorem byteRows_spec : ∀ {r : List (List SV)} {l : List UInt8} {vs : List Value}, byteRows r = some l → rowsV ρ 1 r vs → ∃ ns : List Int, vs = ns.map (Value.int .u8) ∧ l = ns.map fun n => UInt8.ofNat n.toNat
  | [], l, vs, h, hv => by
    simp [byteRows] at h; subst h
    have : vs = [] := List.eq_nil_of_length_eq_zero (by rw [hv.1]; simp)
    subst this
    exact ⟨[], rfl, rfl⟩
  | row :: r, l, vs, h, hv => by
    simp only [byteRows] at h
    split at h
    · rename_i b l' hb hl
      cases h
      unfold rowByte at hb
      split at hb
      · rename_i n
        cases hb
        have hlen := hv.1
        simp at hlen
        cases vs with
        | nil => simp at hlen
        | cons v vs =>
          have h0 := (hv.2 0 _ rfl).2 0 _ rfl
          obtain ⟨u, hu, hr⟩ := h0
          simp at hu; subst hu
          obtain ⟨rfl, _⟩ := hr
          obtain ⟨ns, rfl, rfl⟩ := byteRows_spec (r := r) (vs := vs) hl ⟨by simpa using hlen, fun i row hi => by
            obtain ⟨a, b⟩ := hv.2 (i + 1) row (by simpa using hi)
            refine ⟨a, fun o x hx => ?_⟩
            obtain ⟨u, hu, hs⟩ := b o x hx
            refine ⟨u, ?_, hs⟩
            rw [show (i + 1) * 1 + o = (i * 1 + o) + 1 by omega] at hu
            simpa using hu⟩
          exact ⟨n :: ns, rfl, rfl⟩
      · cases hb
    · cases h

theorem isBytesT_spec {T : TypeId} (h : isBytesT P T = true) : ∃ e, P.underlying T = some (.slice e) ∧ P.underlying e = some (.int .u8) ∧ szT P e = some 1 := by
  unfold isBytesT at h
  split at h
  · rename_i e hu
    simp only [Bool.and_eq_true, decide_eq_true_eq] at h
    refine ⟨e, hu, ?_, h.2⟩
    have h1 := h.1
    split at h1
    · assumption
    · cases h1
  · cases h

theorem stConv2_sound {src dst : TypeId} {x : IV} {xv : Value} (hi : Inv X ρ H w) (hm : PlaceOK ρ H m) (hx : relI ρ x xv) (h : stConv2 P m src dst x H = some (c, v, W)) :
    StepOK P X ρ (do pure (.value (← convert src dst xv))) w v H W := by
  unfold stConv2 at h
  split at h
  · exact stConv_sound hi hx h
  · rename_i hnoti
    split at h
    · rename_i s
      obtain ⟨rfl, _⟩ := hx
      split at h
      · rename_i hs
        have hs' := strT_spec hs
        split at h
        · rename_i hd
          have hd' := strT_spec hd
          cases h
          refine StepOK.pure hi ⟨rfl, rfl⟩ ?_
          simp [convert, run_underlying' P w hs', run_underlying' P w hd']
        · split at h
          · rename_i hd
            obtain ⟨e, he1, he2, he3⟩ := isBytesT_spec hd
            cases h
            have hrun := run_bytes_of_string (P := P) w src dst e s hs' he1 he2
            have hge := grownCap_ge w s.size 0 e
            have hcsz : (bytesRow s (grownCap w s.size 0 e)).size = grownCap w s.size 0 e := by
              simp [bytesRow, Array.size_append]
              have : s.data.size = s.size := rfl
              omega
            have hrows : rowsAt ρ (bytesRow s (grownCap w s.size 0 e)) 0 1 (bytesR s) := by
              refine (bytesR_rows s).at fun j u hj => ?_
              have hlt := (List.getElem?_eq_some_iff.1 hj).1
              simp [ByteArray.toList_eq] at hlt
              rw [Nat.zero_add, bytesRow, Array.getElem?_append_left (by simpa using hlt)]
              rw [ByteArray.toList_eq] at hj
              simpa using hj
            have hone : ∀ u ∈ bytesRow s (grownCap w s.size 0 e), u.oneCell' = true := by
              intro u hu
              rcases Array.mem_append.1 hu with h | h
              · simp only [Array.mem_map] at h
                obtain ⟨b, _, rfl⟩ := h; rfl
              · simp only [Array.mem_replicate] at h
                rw [h.2]; rfl
            refine ⟨_, _, _, addR_le hi.len hm (.mem w.heap.size 0 1 (grownCap w s.size 0 e)), VK.add, .inr (.inl ⟨w.heap.size, 0, 1, _, grownCap w s.size 0 e, addR_get hi.len hm _, rfl, hge, by omega⟩), ?_, .inl (by simp only [Sem.run_bind, hrun, Result.andThen_ok]; simp; rfl)⟩
            simp only [upd]
            refine hi.drew.add hm _ _ rfl rfl rfl (by simp) (fun b hb => heap_push_old w.drew _ hb) (fun _ _ h => by cases h) ?_ (fun _ b hb => by simp [Pl.blk] at hb; subst hb; exact Nat.le_refl _) (fun _ _ h => by cases h)
            refine .inr ⟨_, 0, grownCap w s.size 0 e, _, e, _, _, rfl, heap_push_new w.drew _, by omega, by rw [bytesR_len]; exact hge, by rw [hcsz]; omega, fun _ o ho => by omega, fun _ => hone, hrows.pre (addR_le hi.len hm _)⟩
          · cases h
      · cases h
    · split at h
      · rename_i hc0
        simp only [Bool.and_eq_true] at hc0
        have hd' := strT_spec hc0.1
        obtain ⟨e, he1, he2, he3⟩ := isBytesT_spec hc0.2
        split at h
        · rename_i rows hrows
          split at h
          · rename_i l hl
            cases h
            obtain ⟨vs, hvs, hsrc⟩ := src_spec (P := P) (w := w) hi hx hrows
            obtain ⟨ns, rfl, rfl⟩ := byteRows_spec hl hvs
            refine StepOK.pure hi ⟨rfl, rfl⟩ ?_
            have hns : ns.length = rows.length := by simpa using hvs.1
            have hfull := hsrc.2 w rows.length rfl (Nat.le_refl _)
            rw [Nat.mul_one, List.take_of_length_le (by simp [hns])] at hfull
            have hlen := hsrc.1 w
            -- the value is a slice
            cases xv with
            | slice bs n cp =>
              simp [Builtin.lenOf] at hlen
              have hcv := run_convert_bytes_string (P := P) w src dst e bs n cp he1 he2 hd'
              cases bs with
              | none =>
                simp [Builtin.firstCells] at hfull
                have : ns = [] := by
                  cases ns with
                  | nil => rfl
                  | cons _ _ => simp at hfull
                subst this
                simp only [Sem.run_bind, hcv, Conv.bytesToString]
                simp
                rfl
              | some a =>
                simp only [Builtin.firstCells, Nat.mul_one] at hfull
                rw [← hlen] at hfull
                have hb := run_bytesToString (P := P) w a n cp ns hfull
                simp only [Sem.run_bind, hcv, hb, Result.andThen_ok, foldl_push_bytes]
                simp [ByteArray.empty, ByteArray.emptyWithCapacity]
                rfl
            | string s =>
              exfalso
              rename_i hnot _ _
              unfold srcR at hrows
              split at hrows <;> first
                | (cases hx.1; done)
                | (rename_i s'; exact hnot s' rfl)
                | (rcases hx with ⟨_, _, _, hx⟩ | ⟨_, _, _, _, _, _, hx, _⟩ | ⟨_, _, _, _, _, _, _, hx⟩ <;> cases hx)
                | (rcases hx with ⟨_, _, _, _, _, _, hx, _⟩ | ⟨_, _, _, _, _, _, _, hx⟩ <;> cases hx)
                | cases hrows
            | _ => simp [Builtin.lenOf] at hlen
          · cases h
        · cases h
      · cases h
end
end Go.Ev
