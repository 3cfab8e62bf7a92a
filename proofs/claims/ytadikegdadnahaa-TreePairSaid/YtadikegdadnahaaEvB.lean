/- Slice expressions, copy, conversions of strings and bytes, ideally. -/
import Derived.Test.YtadikegdadnahaaEvA
import Derived.Laws.IdiomStrings
import Derived.Laws.BytesArg
import Derived.Laws.Slices
set_option linter.unusedSimpArgs false
namespace Go.Ev
open Go.RowKit

def bnd (d : Nat) : Option IV → Option Int
  | none => some d
  | some (.s (.raw (.int _ i))) => some i
  | _ => none

def stSlice (P : Program) (T : TypeId) (x : IV) (lo hi : Option IV) (H : Heap) : Res :=
  match x with
  | .s (.raw (.string s)) => if strT P T then match bnd 0 lo, bnd s.size hi with
    | some l, some h => some (0 ≤ l ∧ l ≤ h ∧ h ≤ s.size, .s (.raw (.string (s.extract l.toNat h.toNat))), [])
    | _, _ => none
    else none
  | .s (.raw (.slice none 0 0)) => match slT P T, bnd 0 lo, bnd 0 hi with
    | some _, some l, some h => some (l = 0 ∧ h = 0, .s (.raw (.slice none 0 0)), [])
    | _, _, _ => none
  | .s (.slice c s n) => match H[c]?, slT P T, bnd 0 lo, bnd n hi with
    | some (.rows _ sz _), some k, some l, some h => if sz = k then some (0 ≤ l ∧ l ≤ h ∧ h ≤ n, .s (.slice c (s + l.toNat) (h.toNat - l.toNat)), []) else none
    | _, _, _, _ => none
  | .s (.sub c i o k n) => match slT P T, bnd 0 lo, bnd n hi with
    | some k', some l, some h => if k' = k then some (0 ≤ l ∧ l ≤ h ∧ h ≤ n, .s (.sub c i (o + l.toNat * k) k (h.toNat - l.toNat)), []) else none
    | _, _, _ => none
  | .s (.ptr c i o) => match arrT P T with
    | some (n, k, _) => match bnd 0 lo, bnd n hi with
      | some l, some h => some (0 ≤ l ∧ l ≤ h ∧ h ≤ n, .s (.sub c i (o + l.toNat * k) k (h.toNat - l.toNat)), [])
      | _, _ => none
    | none => none
  | .s (.raw (.pointer (some q))) => match arrT P T, lo, hi with
    | some (n, _, _), none, none => if n = 0 then none else some (True, .s (.raw (.slice (some q) n n)), [])
    | _, _, _ => none
  | _ => none

def stArr (P : Program) (A : TypeId) (x : IV) : Res :=
  match arrT P A with
  | some (N, _, _) => if N = 0 then none else match x with
    | .s (.slice c s n) => some (N ≤ n, .s (.ptr c s 0), [])
    | .s (.sub c i o _ n) => some (N ≤ n, .s (.ptr c i o), [])
    | _ => none
  | none => none

def stCopy (P : Program) (T : TypeId) (x y : IV) (H : Heap) : Res :=
  match slT P T with
  | some sz => if sz = 0 then none else match srcR sz y H with
    | some news => match x with
      | .s (.raw (.slice none 0 0)) => some (True, .s (.raw (.int .i64 0)), [])
      | .s (.slice c s n) => match H[c]? with
        | some (.rows true sz' els) => if sz' = sz then match segR els s n with
          | some _ => some (True, .s (.raw (.int .i64 (min news.length n : Nat))), [(c, .rows true sz (els.take s ++ (news.take n ++ els.drop (s + min news.length n))))])
          | none => none
          else none
        | _ => none
      | .s (.sub c i o k n) => match H[c]? with
        | some (.rows true sz' els) => match els[i]? with
          | some row => if k = sz then match spl row o (news.take n).flatten with
            | some l => some (True, .s (.raw (.int .i64 (min news.length n : Nat))), [(c, .rows true sz' (els.set i l))])
            | none => none
            else none
          | none => none
        | _ => none
      | _ => none
    | none => none
  | none => none

def rowByte : List SV → Option UInt8
  | [.raw (.int .u8 n)] => some (UInt8.ofNat n.toNat)
  | _ => none
def byteRows : List (List SV) → Option (List UInt8)
  | [] => some []
  | r :: rs => match rowByte r, byteRows rs with
    | some b, some l => some (b :: l)
    | _, _ => none

/-- Is a type that of byte slices? -/
def isBytesT (P : Program) (T : TypeId) : Bool :=
  match P.underlying T with
  | some (.slice e) => (match P.underlying e with | some (.int .u8) => true | _ => false) && decide (szT P e = some 1)
  | _ => false

def isIntV : IV → Bool
  | .s (.raw (.int _ _)) => true
  | _ => false

def stConv2 (P : Program) (m : Nat) (src dst : TypeId) (x : IV) (H : Heap) : Res :=
  if isIntV x = true then stConv P src dst x else match x with
  | .s (.raw (.string s)) => if strT P src then (if strT P dst then some (True, .s (.raw (.string s)), []) else if isBytesT P dst then some (True, .s (.slice m 0 s.size), [(m, .rows true 1 (bytesR s))]) else none) else none
  | x => if strT P dst && isBytesT P src then match srcR 1 x H with
    | some rows => match byteRows rows with
      | some l => some (True, .s (.raw (.string ⟨l.toArray⟩)), [])
      | none => none
    | none => none
    else none

section
variable {P : Program} {X : Ctx} {ρ : Ren} {H : Heap} {W : List (Nat × Chunk)} {m : Nat} {w : World} {c : Prop} {v : IV}

def relO (ρ : Ren) : Option IV → Option Value → Prop
  | none, none => True
  | some x, some v => relI ρ x v
  | _, _ => False

theorem bnd_spec {d : Nat} {x : Option IV} {xv : Option Value} {i : Int} (hr : relO ρ x xv) (h : bnd d x = some i) : (xv = none ∧ i = d) ∨ ∃ k, xv = some (.int k i) := by
  unfold bnd at h
  split at h
  · cases xv with
    | none => cases h; exact .inl ⟨rfl, rfl⟩
    | some v => exact hr.elim
  · cases xv with
    | none => exact hr.elim
    | some v => cases h; obtain ⟨rfl, _⟩ := hr; exact .inr ⟨_, rfl⟩
  · cases h

theorem run_bounds (P : Program) (w : World) {isSl : Bool} {len cap : Nat} {lo hi : Option Value} {l h : Int} (h1 : lo = none ∧ l = (0 : Nat) ∨ ∃ k, lo = some (.int k l)) (h2 : hi = none ∧ h = (len : Nat) ∨ ∃ k, hi = some (.int k h)) (h0 : 0 ≤ l) (hlh : l ≤ h) (hc : h ≤ cap) :
    (Instr.sliceBounds isSl len cap lo hi none).run P w = .ok (l.toNat, h.toNat, cap) w := by
  have eh : (h.toNat : Int) = h := Int.toNat_of_nonneg (by omega)
  rcases h1 with ⟨rfl, rfl⟩ | ⟨k, rfl⟩ <;> rcases h2 with ⟨rfl, rfl⟩ | ⟨k2, rfl⟩
  · simp [Instr.sliceBounds]
  · have := run_sliceBound (P := P) w k2 h cap (if isSl = true then BoundsCode.sliceAcap else BoundsCode.sliceAlen) (by omega) hc
    simp [Instr.sliceBounds, this]
  · have := run_sliceBound (P := P) w k l len (if (none : Option Value).isSome then .slice3C else .sliceB) h0 hlh
    simp at this
    simp [Instr.sliceBounds, this]
  · have := run_sliceBound (P := P) w k l h.toNat (if (none : Option Value).isSome then .slice3C else .sliceB) h0 (by omega)
    simp at this
    simp [Instr.sliceBounds, run_sliceBound, *, (by omega : 0 ≤ h)]

theorem strT_spec {T : TypeId} (h : strT P T = true) : P.underlying T = some .string := by
  unfold strT at h
  split at h
  · assumption
  · cases h
theorem slT_spec {T : TypeId} {k : Nat} (h : slT P T = some k) : ∃ e, P.underlying T = some (.slice e) ∧ szT P e = some k := by
  unfold slT at h
  split at h
  · exact ⟨_, by assumption, h⟩
  · cases h
theorem arrT_spec {T : TypeId} {n k : Nat} {ag : Bool} (h : arrT P T = some (n, k, ag)) : ∃ e, P.underlying T = some (.array n e) ∧ szT P e = some k := by
  unfold arrT at h
  split at h
  · rename_i n' e hu
    split at h
    · rename_i k' ag' hp
      cases h
      unfold partT at hp
      split at hp
      · rename_i hz _
        split at hp
        · cases hp
        · cases hp; exact ⟨e, hu, hz⟩
      · cases hp
    · cases h
  · cases h

theorem stSlice_sound {T : TypeId} {x : IV} {xv : Value} {lo hi : Option IV} {lv hv : Option Value} (hinv : Inv X ρ H w) (hx : relI ρ x xv) (hl : relO ρ lo lv) (hh : relO ρ hi hv) (h : stSlice P T x lo hi H = some (c, v, W)) (hc : c) :
    StepOK P X ρ (do pure (.value (← Instr.sliceAt T xv lv hv none))) w v H W := by
  unfold stSlice at h
  split at h
  · rename_i s
    split at h
    · rename_i hs
      split at h
      · rename_i l h' hbl hbh
        cases h
        obtain ⟨rfl, _⟩ := hx
        have hb := run_bounds P w (isSl := false) (bnd_spec hl hbl) (bnd_spec hh hbh) hc.1 hc.2.1 hc.2.2
        have hu := strT_spec hs
        refine StepOK.pure hinv ⟨rfl, rfl⟩ ?_
        simp [Instr.sliceAt, Instr.slice, run_underlying' P w hu, hb]
      · cases h
    · cases h
  · split at h
    · rename_i k l h' hk hbl hbh
      cases h
      obtain ⟨rfl, rfl⟩ := hc
      obtain ⟨rfl, _⟩ := hx
      obtain ⟨e, hu, hz⟩ := slT_spec hk
      have hb := run_bounds P w (isSl := true) (len := 0) (cap := 0) (bnd_spec hl hbl) (bnd_spec hh hbh) (by simp) (by simp) (by simp)
      refine StepOK.pure hinv ⟨rfl, rfl⟩ ?_
      simp [Instr.sliceAt, Instr.slice, run_underlying' P w hu, hb, run_sizeOf' P w hz]
    · cases h
  · rename_i ci s n
    split at h
    · rename_i own sz els k l h' hch hk hbl hbh
      split at h
      · rename_i hsz; subst hsz
        cases h
        obtain ⟨e, hu, hz⟩ := slT_spec hk
        obtain ⟨l', hl', hsat⟩ := hinv.sat ci _ hch
        rcases hx with ⟨hρ, rfl, rfl, rfl⟩ | ⟨b, base, sz1, lim, cap, hρ, rfl, hcap, hlim⟩ | ⟨b, base, sz1, lim, off, hρ, rfl, rfl⟩
        · have hb := run_bounds P w (isSl := true) (len := 0) (cap := 0) (bnd_spec hl hbl) (bnd_spec hh hbh) hc.1 hc.2.1 hc.2.2
          have e1 : l.toNat = 0 := by omega
          have e2 : h'.toNat = 0 := by omega
          refine StepOK.pure hinv (x := .slice none 0 0) (.inl ⟨hρ, by omega, by omega, rfl⟩) ?_
          simp [Instr.sliceAt, Instr.slice, run_underlying' P w hu, hb, run_sizeOf' P w hz, e1, e2]
        · have hsz : sz1 = sz := by
            rw [hρ] at hl'; cases hl'
            rcases hsat with ⟨h, _⟩ | ⟨_, _, _, _, _, _, _, h, _⟩
            · cases h
            · cases h; rfl
          subst hsz
          have hb := run_bounds P w (isSl := true) (len := n) (cap := cap) (bnd_spec hl hbl) (bnd_spec hh hbh) hc.1 hc.2.1 (by omega)
          by_cases e0 : cap = l.toNat
          · refine StepOK.pure hinv (x := .slice (some ⟨b, base + s * sz1, none⟩) 0 0) (.inr (.inr ⟨b, base, sz1, lim, _, hρ, by omega, rfl⟩)) ?_
            have e1 : h'.toNat - l.toNat = 0 := by omega
            simp [Instr.sliceAt, Instr.slice, run_underlying' P w hu, hb, run_sizeOf' P w hz, ← e0, e1]
            omega
          · refine StepOK.pure hinv (x := .slice (some ⟨b, base + (s + l.toNat) * sz1, none⟩) (h'.toNat - l.toNat) (cap - l.toNat)) (.inr (.inl ⟨b, base, sz1, lim, _, hρ, rfl, by omega, by omega⟩)) ?_
            simp [Instr.sliceAt, Instr.slice, run_underlying' P w hu, hb, run_sizeOf' P w hz, e0, addr_add, Nat.add_mul, Nat.add_assoc]
        · have hb := run_bounds P w (isSl := true) (len := 0) (cap := 0) (bnd_spec hl hbl) (bnd_spec hh hbh) hc.1 hc.2.1 hc.2.2
          have e1 : l.toNat = 0 := by omega
          have e2 : h'.toNat = 0 := by omega
          refine StepOK.pure hinv (x := .slice (some ⟨b, off, none⟩) 0 0) (.inr (.inr ⟨b, base, sz1, lim, off, hρ, by omega, rfl⟩)) ?_
          simp [Instr.sliceAt, Instr.slice, run_underlying' P w hu, hb, run_sizeOf' P w hz, e1, e2]
      · cases h
    · cases h
  · rename_i ci i o k n
    split at h
    · rename_i k' l h' hk hbl hbh
      split at h
      · rename_i hkk; subst hkk
        cases h
        obtain ⟨e, hu, hz⟩ := slT_spec hk
        rcases hx with ⟨b, base, sz1, lim, cap, hρ, rfl, hcap⟩ | ⟨b, base, sz1, lim, off, hρ, rfl, rfl⟩
        · have hb := run_bounds P w (isSl := true) (len := n) (cap := cap) (bnd_spec hl hbl) (bnd_spec hh hbh) hc.1 hc.2.1 (by omega)
          by_cases e0 : cap = l.toNat
          · refine StepOK.pure hinv (x := .slice (some ⟨b, base + i * sz1 + o, none⟩) 0 0) (.inr ⟨b, base, sz1, lim, _, hρ, by omega, rfl⟩) ?_
            have e1 : h'.toNat - l.toNat = 0 := by omega
            simp [Instr.sliceAt, Instr.slice, run_underlying' P w hu, hb, run_sizeOf' P w hz, ← e0, e1]
            omega
          · refine StepOK.pure hinv (x := .slice (some ⟨b, base + i * sz1 + (o + l.toNat * k'), none⟩) (h'.toNat - l.toNat) (cap - l.toNat)) (.inl ⟨b, base, sz1, lim, _, hρ, rfl, by omega⟩) ?_
            simp [Instr.sliceAt, Instr.slice, run_underlying' P w hu, hb, run_sizeOf' P w hz, e0, addr_add, Nat.add_assoc]
        · have hb := run_bounds P w (isSl := true) (len := 0) (cap := 0) (bnd_spec hl hbl) (bnd_spec hh hbh) hc.1 hc.2.1 hc.2.2
          have e1 : l.toNat = 0 := by omega
          have e2 : h'.toNat = 0 := by omega
          refine StepOK.pure hinv (x := .slice (some ⟨b, off, none⟩) 0 0) (.inr ⟨b, base, sz1, lim, off, hρ, by omega, rfl⟩) ?_
          simp [Instr.sliceAt, Instr.slice, run_underlying' P w hu, hb, run_sizeOf' P w hz, e1, e2]
      · cases h
    · cases h
  · rename_i ci i o
    split at h
    · rename_i n k ag hk
      split at h
      · rename_i l h' hbl hbh
        cases h
        obtain ⟨e, hu, hz⟩ := arrT_spec hk
        obtain ⟨b, base, sz1, lim, hρ, rfl⟩ := hx
        have hb := run_bounds P w (isSl := false) (len := n) (cap := n) (bnd_spec hl hbl) (bnd_spec hh hbh) hc.1 hc.2.1 hc.2.2
        by_cases e0 : n = l.toNat
        · refine StepOK.pure hinv (x := .slice (some ⟨b, base + i * sz1 + o, none⟩) 0 0) (.inr ⟨b, base, sz1, lim, _, hρ, by omega, rfl⟩) ?_
          have e1 : h'.toNat - l.toNat = 0 := by omega
          simp [Instr.sliceAt, asAddr, Instr.sureAddr, run_underlying' P w hu, hb, run_sizeOf' P w hz, ← e0, e1]
          omega
        · refine StepOK.pure hinv (x := .slice (some ⟨b, base + i * sz1 + (o + l.toNat * k), none⟩) (h'.toNat - l.toNat) (n - l.toNat)) (.inl ⟨b, base, sz1, lim, _, hρ, rfl, by omega⟩) ?_
          simp [Instr.sliceAt, asAddr, Instr.sureAddr, run_underlying' P w hu, hb, run_sizeOf' P w hz, e0, addr_add, Nat.add_assoc]
      · cases h
    · cases h
  · rename_i q
    split at h
    · rename_i n k ag hk
      split at h
      · cases h
      · rename_i hn
        cases h
        obtain ⟨e, hu, hz⟩ := arrT_spec hk
        obtain ⟨rfl, _⟩ := hx
        have e1 : lv = none := by
          cases lv with
          | none => rfl
          | some _ => exact hl.elim
        have e2 : hv = none := by
          cases hv with
          | none => rfl
          | some _ => exact hh.elim
        subst e1; subst e2
        have hb := run_bounds P w (isSl := false) (len := n) (cap := n) (lo := none) (hi := none) (l := 0) (h := n) (.inl ⟨rfl, rfl⟩) (.inl ⟨rfl, rfl⟩) (by omega) (by omega) (by omega)
        refine StepOK.pure hinv (x := .slice (some q) n n) ⟨rfl, rfl⟩ ?_
        simp [Instr.sliceAt, asAddr, Instr.sureAddr, run_underlying' P w hu, hb, run_sizeOf' P w hz, hn, addr_add]
        cases q
        rfl
    · cases h
  · cases h

theorem stArr_sound {A : TypeId} {x : IV} {xv : Value} (hinv : Inv X ρ H w) (hx : relI ρ x xv) (h : stArr P A x = some (c, v, W)) (hc : c) :
    StepOK P X ρ (do pure (.value (← Instr.arrayAt A xv))) w v H W := by
  unfold stArr at h
  split at h
  · rename_i N k ag hk
    obtain ⟨e, hu, hz⟩ := arrT_spec hk
    split at h
    · cases h
    · rename_i hN
      split at h
      · rename_i ci s n
        cases h
        rcases hx with ⟨hρ, rfl, rfl, rfl⟩ | ⟨b, base, sz1, lim, cap, hρ, rfl, hcap, hlim⟩ | ⟨b, base, sz1, lim, off, hρ, rfl, rfl⟩
        · omega
        · refine StepOK.pure hinv (x := .pointer (some ⟨b, base + s * sz1 + 0, none⟩)) ⟨b, base, sz1, lim, hρ, rfl⟩ ?_
          have : ¬ n < N := by omega
          simp [Instr.arrayAt, run_underlying' P w hu, this]
        · omega
      · rename_i ci i o k' n
        cases h
        rcases hx with ⟨b, base, sz1, lim, cap, hρ, rfl, hcap⟩ | ⟨b, base, sz1, lim, off, hρ, rfl, rfl⟩
        · refine StepOK.pure hinv (x := .pointer (some ⟨b, base + i * sz1 + o, none⟩)) ⟨b, base, sz1, lim, hρ, rfl⟩ ?_
          have : ¬ n < N := by omega
          simp [Instr.arrayAt, run_underlying' P w hu, this]
        · omega
      · cases h
  · cases h

/-- Cells of a row, written. -/
theorem write_cells {ci i o sz : Nat} {els : List (List SV)} {row l xs : List SV} {vs : List Value} {b base sz1 lim : Nat} (hi : Inv X ρ H w) (hc : H[ci]? = some (.rows true sz els)) (hρ : ρ[ci]? = some (.mem b base sz1 lim))
    (hrow : els[i]? = some row) (hspl : spl row o xs = some l) (hcells : relL ρ xs vs) :
    ∃ w', (storeCells ⟨b, base + i * sz1 + o, none⟩ vs).run P w = .ok () w' ∧ Inv X ρ (H.set ci (.rows true sz (els.set i l))) w' := by
  obtain ⟨l', hl', hsat⟩ := hi.sat ci _ hc
  rw [hρ] at hl'; cases hl'
  rcases hsat with ⟨h, _⟩ | ⟨b', base', lim', cells, T', lo, hi', he, hw, hsz0, hlim, hfit, hfz, hone, hrows⟩
  · cases h
  · cases he
    have hvl := hcells.len
    obtain ⟨hll, hle, hget⟩ := spl_spec hspl
    obtain ⟨hrl, hr⟩ := hrows i row hrow
    have hi_lt : i < els.length := (List.getElem?_eq_some_iff.1 hrow).1
    have hmul : (i + 1) * sz ≤ lim * sz := Nat.mul_le_mul_right _ (by omega)
    have hmul2 : (i + 1) * sz = i * sz + sz := by rw [Nat.add_mul, Nat.one_mul]
    have honeN := relL_one hi.obj1 hcells
    obtain ⟨cs', hrun, hcsz, hin, hout⟩ := run_storeList P (T := T') vs 0 (base + i * sz + o) w cells hw (by omega) (hfz rfl) honeN
    refine ⟨_, hrun, hi.upd hc hρ rfl rfl rfl rfl (by simp [setBlk]) (fun b' hb' => ?_) (.inr ⟨b, base, lim, cs', T', lo, hi', rfl, ?_, hsz0, by simpa using hlim, by omega, fun _ => by rw [hcsz]; exact hfz rfl, fun _ u hu => ?_, ?_⟩) rfl⟩
    · have : b ≠ b' := fun e => hb' (by rw [e]; rfl)
      simp [setBlk, this]
    · simp [setBlk, (Array.getElem?_eq_some_iff.1 hw).1]
    · obtain ⟨j, hj⟩ := Array.mem_iff_getElem?.1 hu
      by_cases h1 : base + i * sz + o + 0 ≤ j ∧ j < base + i * sz + o + 0 + vs.length
      · rw [hin j h1.1 h1.2] at hj
        exact honeN u (List.mem_of_getElem? hj)
      · rw [hout j (by omega)] at hj
        exact hone rfl u (Array.mem_of_getElem? hj)
    · intro i' row' hr'
      by_cases e : i' = i
      · subst e
        rw [List.getElem?_set_self hi_lt] at hr'; cases hr'
        refine ⟨by omega, fun o' y hy => ?_⟩
        rcases hget o' y hy with ⟨h1, h2, h3⟩ | ⟨h1, h2⟩
        · obtain ⟨u, hu, hrel⟩ := hcells.get h3
          refine ⟨u, ?_, hrel⟩
          rw [hin _ (by omega) (by omega), ← hu]; congr 1; omega
        · obtain ⟨u, hu, hrel⟩ := hr o' y h2
          refine ⟨u, ?_, hrel⟩
          rw [hout _ (by omega)]; exact hu
      · rw [List.getElem?_set_ne (Ne.symm e)] at hr'
        obtain ⟨h1, h2⟩ := hrows i' row' hr'
        refine ⟨h1, fun o' y hy => ?_⟩
        obtain ⟨u, hu, hrel⟩ := h2 o' y hy
        refine ⟨u, ?_, hrel⟩
        have ho' := (List.getElem?_eq_some_iff.1 hy).1
        rw [hout _ ?_]
        · exact hu
        · rcases Nat.lt_or_gt_of_ne e with hlt | hgt
          · left
            have : (i' + 1) * sz ≤ i * sz := Nat.mul_le_mul_right _ (by omega)
            have : (i' + 1) * sz = i' * sz + sz := by rw [Nat.add_mul, Nat.one_mul]
            omega
          · right
            have : (i + 1) * sz ≤ i' * sz := Nat.mul_le_mul_right _ (by omega)
            omega

/-- Whole rows, written. -/
theorem write_rows {ci s sz : Nat} {els news : List (List SV)} {vs : List Value} {b base sz1 lim : Nat} (hi : Inv X ρ H w) (hc : H[ci]? = some (.rows true sz els)) (hρ : ρ[ci]? = some (.mem b base sz1 lim))
    (hs : s + news.length ≤ els.length) (hv : rowsV ρ sz news vs) :
    ∃ w', (storeCells ⟨b, base + s * sz1, none⟩ vs).run P w = .ok () w' ∧ Inv X ρ (H.set ci (.rows true sz (els.take s ++ (news ++ els.drop (s + news.length))))) w' := by
  obtain ⟨l', hl', hsat⟩ := hi.sat ci _ hc
  rw [hρ] at hl'; cases hl'
  rcases hsat with ⟨h, _⟩ | ⟨b', base', lim', cells, T', lo, hi', he, hw, hsz0, hlim, hfit, hfz, hone, hrows⟩
  · cases h
  · cases he
    have hvl := hv.1
    have hmul : (s + news.length) * sz ≤ lim * sz := Nat.mul_le_mul_right _ (by omega)
    have hmul2 : (s + news.length) * sz = s * sz + news.length * sz := Nat.add_mul _ _ _
    have honeN := hv.one hi.obj1 hsz0
    have hlen : (els.take s ++ (news ++ els.drop (s + news.length))).length = els.length := by simp; omega
    obtain ⟨cs', hrun, hcsz, hin, hout⟩ := run_storeList P (T := T') vs 0 (base + s * sz) w cells hw (by omega) (hfz rfl) honeN
    refine ⟨_, hrun, hi.upd hc hρ rfl rfl rfl rfl (by simp [setBlk]) (fun b' hb' => ?_) (.inr ⟨b, base, lim, cs', T', lo, hi', rfl, ?_, hsz0, by rw [hlen]; exact hlim, by omega, fun _ => by rw [hcsz]; exact hfz rfl, fun _ u hu => ?_, ?_⟩) rfl⟩
    · have : b ≠ b' := fun e => hb' (by rw [e]; rfl)
      simp [setBlk, this]
    · simp [setBlk, (Array.getElem?_eq_some_iff.1 hw).1]
    · obtain ⟨j, hj⟩ := Array.mem_iff_getElem?.1 hu
      by_cases h1 : base + s * sz + 0 ≤ j ∧ j < base + s * sz + 0 + vs.length
      · rw [hin j h1.1 h1.2] at hj
        exact honeN u (List.mem_of_getElem? hj)
      · rw [hout j (by omega)] at hj
        exact hone rfl u (Array.mem_of_getElem? hj)
    · intro i' row' hr'
      have old : (i' < s ∨ s + news.length ≤ i') → els[i']? = some row' → row'.length = sz ∧ ∀ (o : Nat) (x : SV), row'[o]? = some x → ∃ v, cs'[base + i' * sz + o]? = some v ∧ relS ρ x v := by
        intro hout' hr'
        obtain ⟨h1, h2⟩ := hrows i' row' hr'
        refine ⟨h1, fun o' y hy => ?_⟩
        obtain ⟨u, hu, hrel⟩ := h2 o' y hy
        refine ⟨u, ?_, hrel⟩
        have ho' := (List.getElem?_eq_some_iff.1 hy).1
        rw [hout _ ?_]
        · exact hu
        · rcases hout' with hlt | hgt
          · left
            have : (i' + 1) * sz ≤ s * sz := Nat.mul_le_mul_right _ (by omega)
            have : (i' + 1) * sz = i' * sz + sz := by rw [Nat.add_mul, Nat.one_mul]
            omega
          · right
            have : (s + news.length) * sz ≤ i' * sz := Nat.mul_le_mul_right _ (by omega)
            omega
      have ht : (els.take s).length = s := by simp; omega
      by_cases h1 : i' < s
      · rw [List.getElem?_append_left (by omega), List.getElem?_take_of_lt h1] at hr'
        exact old (.inl h1) hr'
      · rw [List.getElem?_append_right (by omega), ht] at hr'
        by_cases h2 : i' - s < news.length
        · rw [List.getElem?_append_left h2] at hr'
          obtain ⟨h3, h4⟩ := hv.2 _ _ hr'
          refine ⟨h3, fun o' y hy => ?_⟩
          obtain ⟨u, hu, hrel⟩ := h4 o' y hy
          have ho' := (List.getElem?_eq_some_iff.1 hy).1
          have hul := (List.getElem?_eq_some_iff.1 hu).1
          refine ⟨u, ?_, hrel⟩
          have e1 : i' * sz = s * sz + (i' - s) * sz := by rw [← Nat.add_mul]; congr 1; omega
          rw [hin _ (by omega) (by omega), ← hu]; congr 1; omega
        · rw [List.getElem?_append_right (by omega), List.getElem?_drop] at hr'
          rw [show s + news.length + (i' - s - news.length) = i' by omega] at hr'
          exact old (.inr (by omega)) hr'

theorem rowsV.take {sz : Nat} {r : List (List SV)} {vs : List Value} (h : rowsV ρ sz r vs) (k : Nat) : rowsV ρ sz (r.take k) (vs.take (k * sz)) := by
  have hm : ∀ a b : Nat, a ≤ b → a * sz ≤ b * sz := fun a b h => Nat.mul_le_mul_right _ h
  refine ⟨?_, fun i row hr => ?_⟩
  · simp only [List.length_take, h.1]
    rcases Nat.le_total k r.length with h1 | h1
    · rw [Nat.min_eq_left h1, Nat.min_eq_left (hm _ _ h1)]
    · rw [Nat.min_eq_right h1, Nat.min_eq_right (hm _ _ h1)]
  · have hlt := (List.getElem?_eq_some_iff.1 hr).1
    simp at hlt
    have hlt : i < k ∧ i < r.length := by omega
    rw [List.getElem?_take_of_lt hlt.1] at hr
    obtain ⟨h1, h2⟩ := h.2 i row hr
    refine ⟨h1, fun o x hx => ?_⟩
    obtain ⟨u, hu, hs⟩ := h2 o x hx
    refine ⟨u, ?_, hs⟩
    have ho := (List.getElem?_eq_some_iff.1 hx).1
    have := hm (i + 1) k hlt.1
    rw [Nat.add_mul, Nat.one_mul] at this
    rw [List.getElem?_take_of_lt (by omega)]; exact hu

theorem rowsV.flat {sz : Nat} {r : List (List SV)} {vs : List Value} (h : rowsV ρ sz r vs) (hsz : 0 < sz) : relL ρ r.flatten vs := by
  obtain ⟨h1, h2⟩ := flatten_get (r := r) fun i row hi => (h.2 i row hi).1
  refine relL_of_get (by rw [h1, h.1]) fun j x hx => ?_
  obtain ⟨row, ha, hb⟩ := h2 j x hsz hx
  obtain ⟨u, hu, hs⟩ := (h.2 _ row ha).2 _ x hb
  refine ⟨u, ?_, hs⟩
  have := Nat.div_add_mod j sz
  rw [Nat.mul_comm] at this
  rwa [this] at hu

theorem run_copy' {T T2 ty e : TypeId} {sz : Nat} {yv : Value} {news : List (List SV)} {vs : List Value} {base : Option Addr} {dLen dCap : Nat} {w' : World} (hu : P.underlying T = some (.slice e)) (hz : szT P e = some sz) (hsrc : SrcOK P w sz news yv vs)
    (hst : match base with | none => w' = w | some a => (storeCells a (vs.take (min news.length dLen * sz))).run P w = .ok () w') :
    (Builtin.copy_ #[T, T2] ty #[.slice base dLen dCap, yv]).run P w = .ok (.int .i64 (min news.length dLen : Nat)) w' := by
  have h1 := hsrc.1 w
  have h2 := hsrc.2 w (min news.length dLen) rfl (Nat.min_le_left _ _)
  have e : Nat.min news.length dLen = min news.length dLen := rfl
  cases base with
  | none => subst hst; simp [Builtin.copy_, run_underlying' P _ hu, h1, run_sizeOf' P _ hz, e, h2, goInt]
  | some a => simp [Builtin.copy_, run_underlying' P _ hu, h1, run_sizeOf' P _ hz, e, h2, goInt, hst]

theorem storeCells_nil {a : Addr} : (storeCells a []).run P w = .ok () w := by simp only [storeCells]; rfl

theorem stCopy_sound {T T2 ty : TypeId} {x y : IV} {xv yv : Value} (hi : Inv X ρ H w) (hx : relI ρ x xv) (hy : relI ρ y yv) (h : stCopy P T x y H = some (c, v, W)) :
    StepOK P X ρ (do pure (.value (← Builtin.copy_ #[T, T2] ty #[xv, yv]))) w v H W := by
  unfold stCopy at h
  split at h
  · rename_i sz hsl
    obtain ⟨e, hu, hz⟩ := slT_spec hsl
    split at h
    · cases h
    · rename_i hsz0
      have hpos : 0 < sz := by omega
      split at h
      · rename_i news hnews
        obtain ⟨vs, hvs, hsrc⟩ := src_spec (P := P) (w := w) hi hy hnews
        split at h
        · cases h
          obtain ⟨rfl, _⟩ := hx
          have := run_copy' (T2 := T2) (ty := ty) (base := none) (dLen := 0) (dCap := 0) (w' := w) hu hz hsrc rfl
          refine StepOK.pure hi (x := .int .i64 0) ⟨rfl, rfl⟩ ?_
          simp at this
          simp [this]
        · rename_i ci s n
          split at h
          · rename_i sz' els hch
            split at h
            · rename_i hsz; subst hsz
              split at h
              · rename_i olds holds
                cases h
                obtain ⟨hol, hle, _⟩ := segR_spec holds
                have hci : ci < H.length := (List.getElem?_eq_some_iff.1 hch).1
                have eu : ∀ ch, upd H [(ci, ch)] = H.set ci ch := fun ch => by simp only [upd, up1]; rw [if_neg (by omega)]
                have same : ∀ {xv : Value}, n = 0 → (Builtin.copy_ #[T, T2] ty #[xv, yv]).run P w = .ok (.int .i64 (min news.length n : Nat)) w →
                    StepOK P X ρ (do pure (.value (← Builtin.copy_ #[T, T2] ty #[xv, yv]))) w (.s (.raw (.int .i64 (min news.length n : Nat)))) H [(ci, .rows true sz' (els.take s ++ (news.take n ++ els.drop (s + min news.length n))))] := by
                  intro xv hn hrun
                  refine ⟨ρ, _, w, Le.refl _, fun c h hc => h, ⟨rfl, rfl⟩, ?_, .inl (by simp [hrun])⟩
                  rw [eu]
                  subst hn
                  have e1 : els.take s ++ (news.take 0 ++ els.drop (s + min news.length 0)) = els := by simp
                  rw [e1]
                  have : H.set ci (.rows true sz' els) = H := by
                    apply List.ext_getElem?
                    intro k
                    by_cases e : k = ci
                    · subst e; rw [List.getElem?_set_self hci, hch]
                    · rw [List.getElem?_set_ne (Ne.symm e)]
                  rw [this]; exact hi
                rcases hx with ⟨hρ, rfl, rfl, rfl⟩ | ⟨b, base, sz1, lim, cap, hρ, rfl, hcap, hlim⟩ | ⟨b, base, sz1, lim, off, hρ, rfl, rfl⟩
                · exact same rfl (run_copy' hu hz hsrc rfl)
                · have hsz1 : sz1 = sz' := by
                    obtain ⟨l', hl', hsat⟩ := hi.sat ci _ hch
                    rw [hρ] at hl'; cases hl'
                    rcases hsat with ⟨h, _⟩ | ⟨_, _, _, _, _, _, _, h, _⟩
                    · cases h
                    · cases h; rfl
                  have ht := hvs.take (min news.length n)
                  have hnl : (news.take (min news.length n)) = news.take n := by
                    rcases Nat.le_total news.length n with h1 | h1
                    · rw [Nat.min_eq_left h1, List.take_length, List.take_of_length_le h1]
                    · rw [Nat.min_eq_right h1]
                  have hll : (news.take n).length = min news.length n := by simp [Nat.min_comm]
                  rw [hnl] at ht
                  obtain ⟨w', hrun, hinv⟩ := write_rows (P := P) (s := s) hi hch hρ (by rw [hll]; omega) ht
                  refine ⟨ρ, .int .i64 (min news.length n : Nat), w', Le.refl _, fun c h hc => h, ⟨rfl, rfl⟩, ?_, .inl ?_⟩
                  · rw [eu]; rw [hll] at hinv; exact hinv
                  · have := run_copy' (T2 := T2) (ty := ty) (base := some ⟨b, base + s * sz1, none⟩) (dLen := n) (dCap := cap) (w' := w') hu hz hsrc hrun
                    simp [this]
                · exact same rfl (run_copy' hu hz hsrc (by simp [storeCells_nil]))
              · cases h
            · cases h
          · cases h
        · rename_i ci i o k n
          split at h
          · rename_i sz' els hch
            split at h
            · rename_i row hrow
              split at h
              · rename_i hk; subst hk
                split at h
                · rename_i l hl
                  cases h
                  have hci : ci < H.length := (List.getElem?_eq_some_iff.1 hch).1
                  have eu : ∀ ch, upd H [(ci, ch)] = H.set ci ch := fun ch => by simp only [upd, up1]; rw [if_neg (by omega)]
                  have ht := hvs.take (min news.length n)
                  have hnl : (news.take (min news.length n)) = news.take n := by
                    rcases Nat.le_total news.length n with h1 | h1
                    · rw [Nat.min_eq_left h1, List.take_length, List.take_of_length_le h1]
                    · rw [Nat.min_eq_right h1]
                  rw [hnl] at ht
                  rcases hx with ⟨b, base, sz1, lim, cap, hρ, rfl, hcap⟩ | ⟨b, base, sz1, lim, off, hρ, rfl, rfl⟩
                  · obtain ⟨w', hrun, hinv⟩ := write_cells (P := P) hi hch hρ hrow hl (ht.flat hpos)
                    refine ⟨ρ, .int .i64 (min news.length n : Nat), w', Le.refl _, fun c h hc => h, ⟨rfl, rfl⟩, by rw [eu]; exact hinv, .inl ?_⟩
                    have := run_copy' (T2 := T2) (ty := ty) (base := some ⟨b, base + i * sz1 + o, none⟩) (dLen := n) (dCap := cap) (w' := w') hu hz hsrc hrun
                    simp [this]
                  · have hl2 : l = row := by
                      simp only [List.take_zero, List.flatten_nil] at hl
                      apply List.ext_getElem?
                      intro j
                      obtain ⟨h1, h2, h3⟩ := spl_spec hl
                      by_cases hj : j < l.length
                      · rcases h3 j l[j] (List.getElem?_eq_getElem hj) with ⟨_, _, h⟩ | ⟨_, h⟩
                        · simp at h
                        · rw [h, List.getElem?_eq_getElem hj]
                      · rw [List.getElem?_eq_none (by omega), List.getElem?_eq_none (by omega)]
                    subst hl2
                    refine ⟨ρ, .int .i64 (min news.length 0 : Nat), w, Le.refl _, fun c h hc => h, ⟨rfl, rfl⟩, ?_, .inl ?_⟩
                    · rw [eu]
                      have e1 : els.set i l = els := by
                        apply List.ext_getElem?
                        intro k
                        by_cases e : k = i
                        · subst e; rw [List.getElem?_set_self (List.getElem?_eq_some_iff.1 hrow).1, hrow]
                        · rw [List.getElem?_set_ne (Ne.symm e)]
                      rw [e1]
                      have : H.set ci (.rows true sz' els) = H := by
                        apply List.ext_getElem?
                        intro k
                        by_cases e : k = ci
                        · subst e; rw [List.getElem?_set_self hci, hch]
                        · rw [List.getElem?_set_ne (Ne.symm e)]
                      rw [this]; exact hi
                    · have := run_copy' (T2 := T2) (ty := ty) (base := some ⟨b, off, none⟩) (dLen := 0) (dCap := 0) (w' := w) hu hz hsrc (by simp [storeCells_nil])
                      simp [this]
                · cases h
              · cases h
            · cases h
          · cases h
        · cases h
      · cases h
  · cases h

theorem byteRows_spec : ∀ {r : List (List SV)} {l : List UInt8} {vs : List Value}, byteRows r = some l → rowsV ρ 1 r vs → ∃ ns : List Int, vs = ns.map (Value.int .u8) ∧ l = ns.map fun n => UInt8.ofNat n.toNat
  | [], l, vs, h, hv => by
    simp [byteRows] at h; subst h
    have : vs = [] := List.eq_nil_of_length_eq_zero (by rw [hv.1]; simp)
    subst this
    exact ⟨[], rfl, rfl⟩
  | row :: r, l, vs, h, hv => by
    simp only [byteRows] at h
    split at h
    · rename_i b l' hb hl
      cases h
      unfold rowByte at hb
      split at hb
      · rename_i n
        cases hb
        have hlen := hv.1
        simp at hlen
        cases vs with
        | nil => simp at hlen
        | cons v vs =>
          have h0 := (hv.2 0 _ rfl).2 0 _ rfl
          obtain ⟨u, hu, hr⟩ := h0
          simp at hu; subst hu
          obtain ⟨rfl, _⟩ := hr
          obtain ⟨ns, rfl, rfl⟩ := byteRows_spec (r := r) (vs := vs) hl ⟨by simpa using hlen, fun i row hi => by
            obtain ⟨a, b⟩ := hv.2 (i + 1) row (by simpa using hi)
            refine ⟨a, fun o x hx => ?_⟩
            obtain ⟨u, hu, hs⟩ := b o x hx
            refine ⟨u, ?_, hs⟩
            rw [show (i + 1) * 1 + o = (i * 1 + o) + 1 by omega] at hu
            simpa using hu⟩
          exact ⟨n :: ns, rfl, rfl⟩
      · cases hb
    · cases h

theorem isBytesT_spec {T : TypeId} (h : isBytesT P T = true) : ∃ e, P.underlying T = some (.slice e) ∧ P.underlying e = some (.int .u8) ∧ szT P e = some 1 := by
  unfold isBytesT at h
  split at h
  · rename_i e hu
    simp only [Bool.and_eq_true, decide_eq_true_eq] at h
    refine ⟨e, hu, ?_, h.2⟩
    have h1 := h.1
    split at h1
    · assumption
    · cases h1
  · cases h

theorem stConv2_sound {src dst : TypeId} {x : IV} {xv : Value} (hi : Inv X ρ H w) (hm : PlaceOK ρ H m) (hx : relI ρ x xv) (h : stConv2 P m src dst x H = some (c, v, W)) :
    StepOK P X ρ (do pure (.value (← convert src dst xv))) w v H W := by
  unfold stConv2 at h
  split at h
  · exact stConv_sound hi hx h
  · rename_i hnoti
    split at h
    · rename_i s
      obtain ⟨rfl, _⟩ := hx
      split at h
      · rename_i hs
        have hs' := strT_spec hs
        split at h
        · rename_i hd
          have hd' := strT_spec hd
          cases h
          refine StepOK.pure hi ⟨rfl, rfl⟩ ?_
          simp [convert, run_underlying' P w hs', run_underlying' P w hd']
        · split at h
          · rename_i hd
            obtain ⟨e, he1, he2, he3⟩ := isBytesT_spec hd
            cases h
            have hrun := run_bytes_of_string (P := P) w src dst e s hs' he1 he2
            have hge := grownCap_ge w s.size 0 e
            have hcsz : (bytesRow s (grownCap w s.size 0 e)).size = grownCap w s.size 0 e := by
              simp [bytesRow, Array.size_append]
              have : s.data.size = s.size := rfl
              omega
            have hrows : rowsAt ρ (bytesRow s (grownCap w s.size 0 e)) 0 1 (bytesR s) := by
              refine (bytesR_rows s).at fun j u hj => ?_
              have hlt := (List.getElem?_eq_some_iff.1 hj).1
              simp [ByteArray.toList_eq] at hlt
              rw [Nat.zero_add, bytesRow, Array.getElem?_append_left (by simpa using hlt)]
              rw [ByteArray.toList_eq] at hj
              simpa using hj
            have hone : ∀ u ∈ bytesRow s (grownCap w s.size 0 e), u.oneCell' = true := by
              intro u hu
              rcases Array.mem_append.1 hu with h | h
              · simp only [Array.mem_map] at h
                obtain ⟨b, _, rfl⟩ := h; rfl
              · simp only [Array.mem_replicate] at h
                rw [h.2]; rfl
            refine ⟨_, _, _, addR_le hi.len hm (.mem w.heap.size 0 1 (grownCap w s.size 0 e)), VK.add, .inr (.inl ⟨w.heap.size, 0, 1, _, grownCap w s.size 0 e, addR_get hi.len hm _, rfl, hge, by omega⟩), ?_, .inl (by simp only [Sem.run_bind, hrun, Result.andThen_ok]; simp; rfl)⟩
            simp only [upd]
            refine hi.drew.add hm _ _ rfl rfl rfl (by simp) (fun b hb => heap_push_old w.drew _ hb) (fun _ _ h => by cases h) ?_ (fun _ b hb => by simp [Pl.blk] at hb; subst hb; exact Nat.le_refl _) (fun _ _ h => by cases h)
            refine .inr ⟨_, 0, grownCap w s.size 0 e, _, e, _, _, rfl, heap_push_new w.drew _, by omega, by rw [bytesR_len]; exact hge, by rw [hcsz]; omega, fun _ o ho => by omega, fun _ => hone, hrows.pre (addR_le hi.len hm _)⟩
          · cases h
      · cases h
    · split at h
      · rename_i hc0
        simp only [Bool.and_eq_true] at hc0
        have hd' := strT_spec hc0.1
        obtain ⟨e, he1, he2, he3⟩ := isBytesT_spec hc0.2
        split at h
        · rename_i rows hrows
          split at h
          · rename_i l hl
            cases h
            obtain ⟨vs, hvs, hsrc⟩ := src_spec (P := P) (w := w) hi hx hrows
            obtain ⟨ns, rfl, rfl⟩ := byteRows_spec hl hvs
            refine StepOK.pure hi ⟨rfl, rfl⟩ ?_
            have hns : ns.length = rows.length := by simpa using hvs.1
            have hfull := hsrc.2 w rows.length rfl (Nat.le_refl _)
            rw [Nat.mul_one, List.take_of_length_le (by simp [hns])] at hfull
            have hlen := hsrc.1 w
            -- the value is a slice
            cases xv with
            | slice bs n cp =>
              simp [Builtin.lenOf] at hlen
              have hcv := run_convert_bytes_string (P := P) w src dst e bs n cp he1 he2 hd'
              cases bs with
              | none =>
                simp [Builtin.firstCells] at hfull
                have : ns = [] := by
                  cases ns with
                  | nil => rfl
                  | cons _ _ => simp at hfull
                subst this
                simp only [Sem.run_bind, hcv, Conv.bytesToString]
                simp
                rfl
              | some a =>
                simp only [Builtin.firstCells, Nat.mul_one] at hfull
                rw [← hlen] at hfull
                have hb := run_bytesToString (P := P) w a n cp ns hfull
                simp only [Sem.run_bind, hcv, hb, Result.andThen_ok, foldl_push_bytes]
                simp [ByteArray.empty, ByteArray.emptyWithCapacity]
                rfl
            | string s =>
              exfalso
              rename_i hnot _ _
              unfold srcR at hrows
              split at hrows <;> first
                | (cases hx.1; done)
                | (rename_i s'; exact hnot s' rfl)
                | (rcases hx with ⟨_, _, _, hx⟩ | ⟨_, _, _, _, _, _, hx, _⟩ | ⟨_, _, _, _, _, _, _, hx⟩ <;> cases hx)
                | (rcases hx with ⟨_, _, _, _, _, _, hx, _⟩ | ⟨_, _, _, _, _, _, _, hx⟩ <;> cases hx)
                | cases hrows
            | _ => simp [Builtin.lenOf] at hlen
          · cases h
        · cases h
      · cases h
end
end Go.Ev

/- The evaluator: a function's code, run on an ideal state, comes to a proposition; if that holds, the model does so. -/
namespace Go.Ev
open Go.RowKit

def stBuiltin (P : Program) (m : Nat) (b : Builtin) (ts : List TypeId) (xs : List IV) (H : Heap) : Res :=
  match b, ts, xs with
  | .len, [t], [x] => stLen P t x
  | .min, _, xs => stMin xs
  | .max, _, xs => stMax xs
  | .append, [t, t2], [x, y] => stAppend P m t t2 x y H
  | .copy, [t, _], [x, y] => stCopy P t x y H
  | _, _, _ => none

/-- One operation (m: the number that a new chunk gets). -/
def stepE (P : Program) (m : Nat) (o : Op) (tm : TM) (H : Heap) : Res :=
  match o with
  | .move x => some (True, rd tm x, [])
  | .assign x => some (True, rd tm x, [])
  | .alloc T => stAlloc P m T
  | .box _ x => stBox m (rd tm x)
  | .load T p => stLoad P T (rd tm p) H
  | .store T p x => stStore P T (rd tm p) (rd tm x) H
  | .nilCheck x => stNilCheck (rd tm x)
  | .binOp op T x y _ => stBin P op T (rd tm x) (rd tm y)
  | .unOp op _ x => stUn op (rd tm x)
  | .convert s d x => stConv2 P m s d (rd tm x) H
  | .slice T x lo hi mx => match mx with
    | none => stSlice P T (rd tm x) (lo.map (rd tm)) (hi.map (rd tm)) H
    | some _ => none
  | .sliceToArrayPointer A x => stArr P A (rd tm x)
  | .fieldAddr T p f => stField P T (rd tm p) f
  | .extract x i => stExtract (rd tm x) i
  | .field T x f => stFieldV P T (rd tm x) f
  | .index T x i => stIndex P T (rd tm x) (rd tm i)
  | .indexAddr T x i => stIndexAddr P T (rd tm x) (rd tm i) H
  | .build T ps => stBuild P T (ps.toList.map fun p => (p.1, rd tm p.2))
  | .buildSlice T n ps => stBuildSlice P m T n (ps.toList.map fun p => (p.1, rd tm p.2))
  | .makeSlice T x y => stMakeSlice P m T (rd tm x) (rd tm y)
  | .call c => match c.callee with
    | .builtin b => stBuiltin P m b c.argTypes.toList (c.args.toList.map (rd tm)) H
    | _ => none
  | _ => none

theorem relA_list0 {X : Ctx} {n : Nat} {ρ : Ren} {tm : TM} {a : Act} (ha : RelA X n ρ tm a) : ∀ (l : List Operand), relA ρ (l.map (rd tm)) (l.map a.eval)
  | [] => trivial
  | o :: l => ⟨rd_rel ha o, relA_list0 ha l⟩

theorem step_sound {P : Program} {X : Ctx} {n : Nat} {ρ : Ren} {tm : TM} {a : Act} {H : Heap} {W : List (Nat × Chunk)} {m : Nat} {w : World} {o : Oper} {c : Prop} {v : IV}
    (ha : RelA X n ρ tm a) (hi : Inv X ρ H w) (hm : PlaceOK ρ H m) (h : stepE P m o.op tm H = some (c, v, W)) (hc : c) : StepOK P X ρ (execOp a.eval o) w v H W := by
  obtain ⟨dst, op, ty, pos, af, g⟩ := o
  cases op with
  | move x => simp only [stepE, Option.some.injEq, Prod.mk.injEq] at h; obtain ⟨rfl, rfl, rfl⟩ := h; exact StepOK.pure hi (rd_rel ha x) rfl
  | assign x => simp only [stepE, Option.some.injEq, Prod.mk.injEq] at h; obtain ⟨rfl, rfl, rfl⟩ := h; exact StepOK.pure hi (rd_rel ha x) rfl
  | alloc T => exact stAlloc_sound hi hm h
  | box T x => exact stBox_sound hi (rd_rel ha x) hm h
  | load T p => exact stLoad_sound hi (rd_rel ha p) h
  | store T p x => exact stStore_sound hi (rd_rel ha p) (rd_rel ha x) h
  | nilCheck x => exact stNilCheck_sound rfl hi (rd_rel ha x) h
  | binOp op T x y yt => exact stBin_sound hi (rd_rel ha x) (rd_rel ha y) h hc
  | unOp op T x => exact stUn_sound hi (rd_rel ha x) h
  | convert s d x => exact stConv2_sound hi hm (rd_rel ha x) h
  | slice T x lo hi' mx =>
    cases mx with
    | none =>
      have ho : ∀ o : Option Operand, relO ρ (o.map (rd tm)) (o.map a.eval) := fun o => by
        cases o with
        | none => trivial
        | some o => exact rd_rel ha o
      exact stSlice_sound hi (rd_rel ha x) (ho lo) (ho hi') h hc
    | some _ => cases h
  | sliceToArrayPointer A x => exact stArr_sound hi (rd_rel ha x) h hc
  | fieldAddr T p f => exact stField_sound hi (rd_rel ha p) h
  | extract x i => exact stExtract_sound hi (rd_rel ha x) h
  | field T x f => exact stFieldV_sound hi (rd_rel ha x) h
  | index T x i => exact stIndex_sound hi (rd_rel ha x) (rd_rel ha i) h hc
  | indexAddr T x i => exact stIndexAddr_sound hi (rd_rel ha x) (rd_rel ha i) h hc
  | build T ps =>
    have := stBuild_sound (P := P) (w := w) hi (relP_list ha ps.toList) h
    have e : (List.map (fun p : Nat × Operand => (p.1, a.eval p.2)) ps.toList).toArray = ps.map fun p => (p.1, a.eval p.2) := by apply Array.ext'; simp only [Array.toList_map]
    rw [e] at this; exact this
  | buildSlice T n ps =>
    have := stBuildSlice_sound (P := P) (w := w) hi (relP_list ha ps.toList) hm h
    have e : (List.map (fun p : Nat × Operand => (p.1, a.eval p.2)) ps.toList).toArray = ps.map fun p => (p.1, a.eval p.2) := by apply Array.ext'; simp only [Array.toList_map]
    rw [e] at this; exact this
  | makeSlice T x y => exact stMakeSlice_sound hi (rd_rel ha x) (rd_rel ha y) hm h hc
  | call cl =>
    simp only [stepE] at h
    split at h
    · rename_i b hb
      have hargs := relA_list0 ha cl.args.toList
      have hb2 : (execOp a.eval ⟨dst, .call cl, ty, pos, af, g⟩) = builtin b cl.argTypes ty (cl.args.map fun | .const _ => true | _ => false) (cl.args.map a.eval) := by
        simp only [execOp, resolve, hb]; rfl
      rw [hb2]
      have e : (List.map a.eval cl.args.toList).toArray = cl.args.map a.eval := by apply Array.ext'; simp only [Array.toList_map]
      unfold stBuiltin at h
      split at h
      · rename_i t x ht hx
        have hx1 : cl.argTypes = #[t] := Array.ext' ht
        have hx2 : ∃ o, cl.args = #[o] ∧ rd tm o = x := by
          match hl : cl.args.toList, hx with
          | [o], hx => simp at hx; exact ⟨o, Array.ext' hl, hx⟩
        obtain ⟨o, ho, rfl⟩ := hx2
        have := stLen_sound (P := P) (w := w) (T := ty) hi (rd_rel ha o) h
        rw [hx1, ho]
        simpa [builtin] using this
      · rename_i xs hx
        have := stMin_sound (P := P) (w := w) (T := ty) (ts := cl.argTypes) hi (vs := cl.args.toList.map a.eval) hargs h
        rw [e] at this
        simpa [builtin] using this
      · rename_i xs hx
        have := stMax_sound (P := P) (w := w) (T := ty) (ts := cl.argTypes) hi (vs := cl.args.toList.map a.eval) hargs h
        rw [e] at this
        simpa [builtin] using this
      · rename_i t t2 x y ht hx
        have hx1 : cl.argTypes = #[t, t2] := Array.ext' ht
        have hx2 : ∃ o o2, cl.args = #[o, o2] ∧ rd tm o = x ∧ rd tm o2 = y := by
          match hl : cl.args.toList, hx with
          | [o, o2], hx => simp at hx; exact ⟨o, o2, Array.ext' hl, hx.1, hx.2⟩
        obtain ⟨o, o2, ho, rfl, rfl⟩ := hx2
        have := stAppend_sound (P := P) (w := w) (ty := ty) hi (rd_rel ha o) (rd_rel ha o2) hm h hc
        rw [hx1, ho]
        simpa [builtin] using this
      · rename_i t t2 x y ht hx
        have hx1 : cl.argTypes = #[t, t2] := Array.ext' ht
        have hx2 : ∃ o o2, cl.args = #[o, o2] ∧ rd tm o = x ∧ rd tm o2 = y := by
          match hl : cl.args.toList, hx with
          | [o, o2], hx => simp at hx; exact ⟨o, o2, Array.ext' hl, hx.1, hx.2⟩
        obtain ⟨o, o2, ho, rfl, rfl⟩ := hx2
        have := stCopy_sound (P := P) (w := w) (T2 := t2) (ty := ty) hi (rd_rel ha o) (rd_rel ha o2) h
        rw [hx1, ho]
        simpa [builtin] using this
      · cases h
    · cases h
  | _ => cases h

def enters (P : Program) (f : FuncId) : Bool :=
  match P.funcs[f]? with
  | some fn => fn.body.isSome && !(fn.name == "runtime.NumGoroutine")
  | none => false

/-- A call of a function with a body: from whatever world, it comes back with a result that k takes. -/
def callK (P : Program) (X : Ctx) (f : FuncId) (args : List IV) (k : IV → Heap → Prop) (H : Heap) : Prop :=
  enters P f = true ∧ ∀ ρ vs w, relA ρ args vs → Inv X ρ H w →
    Calls P f vs.toArray w fun e w' => ∃ v r H' ρ', e = .returned v ∧ k r H' ∧ relI ρ' r v ∧ Le ρ ρ' ∧ Inv X ρ' H' w'

def stepK (r : Res) (k : TM → Heap → Prop) (tm : TM) (d : Option Nat) (H : Heap) : Prop :=
  match r with
  | some (c, v, W) => c ∧ k (put tm d v) (upd H W)
  | none => False

def retK (k : TM → Heap → Prop) (tm : TM) (d : Option Nat) (r : IV) (H : Heap) : Prop := k (put tm d r) H

def guardB (all : Array Oper) (tm : TM) : Option (Nat × Bool) → Option Bool
  | none => some true
  | some (j, want) => match (all[j]?).bind (·.dst) with
    | some d => match get tm d with
      | .s (.raw (.bool b)) => some (if want then b else !b)
      | .t [] => some false
      | _ => none
    | none => none

def gdb (b : Bool) (A B : TM → Heap → Prop) (tm : TM) (H : Heap) : Prop := (b = true → A tm H) ∧ (b = false → B tm H)
theorem gdb_true {A B : TM → Heap → Prop} {tm : TM} {H : Heap} : gdb true A B tm H = A tm H := by simp [gdb]
theorem gdb_false {A B : TM → Heap → Prop} {tm : TM} {H : Heap} : gdb false A B tm H = B tm H := by simp [gdb]
theorem gdb_split {b : Bool} {A B : TM → Heap → Prop} {tm : TM} {H : Heap} (h1 : b = true → A tm H) (h2 : b = false → B tm H) : gdb b A B tm H := ⟨h1, h2⟩

def gd (b : Option Bool) (A B : TM → Heap → Prop) (tm : TM) (H : Heap) : Prop :=
  match b with
  | some b => gdb b A B tm H
  | none => False

def boolOf : IV → Option Bool
  | .s (.raw (.bool b)) => some b
  | _ => none

def putK (k : TM → Heap → Prop) (d : Option Nat) (x : Operand) (tm : TM) (H : Heap) : Prop := k (put tm d (rd tm x)) H
/-- What an operation that was not wanted leaves: nothing. -/
def junkK (k : TM → Heap → Prop) (d : Option Nat) (tm : TM) (H : Heap) : Prop := k (put tm d (.t [])) H
theorem rel_undef (ρ : Ren) : relI ρ (.t []) undef := ⟨[], rfl, trivial⟩

/-- Whatever other operation: what the model makes of it, k takes. -/
def genK (P : Program) (X : Ctx) (o : Oper) (k : TM → Heap → Prop) (tm : TM) (H : Heap) : Prop :=
  ∀ (n : Nat) (ρ : Ren) (a : Act) (w : World), RelA X n ρ tm a → Inv X ρ H w → ∃ (x : Value) (w' : World) (v : IV) (H' : Heap) (ρ' : Ren),
    ((execOp a.eval o).run P w = .ok (.value x) w' ∨ (execOp a.eval o).run P w = .ok .skip w' ∧ x = undef) ∧ relI ρ' v x ∧ Le ρ ρ' ∧ Inv X ρ' H' w' ∧ k (put tm o.dst v) H'

/-- A step of the evaluator's own; where it has none, whatever the model makes of it. -/
def stepG (r : Res) (g : Prop) (k : TM → Heap → Prop) (tm : TM) (d : Option Nat) (H : Heap) : Prop :=
  match r with
  | some (c, v, W) => c ∧ k (put tm d v) (upd H W)
  | none => g

/-- A function value is called. -/
def cloK (P : Program) (X : Ctx) (x : IV) (args : List IV) (k : IV → Heap → Prop) (H : Heap) : Prop :=
  match x with
  | .s (.raw (.func (.func f) fs cs)) => if fs.size = 0 ∧ cs.size = 0 then callK P X f args k H else False
  | .s (.ref c) => match H[c]? with
    | some (.clo (.func f) first cap) => callK P X f (first ++ (args ++ cap)) k H
    | _ => False
  | _ => False

def evOp (P : Program) (X : Ctx) (o : Oper) (k : TM → Heap → Prop) (tm : TM) (H : Heap) : Prop :=
  match o.op with
  | .call c => match c.callee with
    | .value (.func f) => callK P X f (c.args.toList.map (rd tm)) (retK k tm o.dst) H
    | .value (.tmp t) => cloK P X (get tm t) (c.args.toList.map (rd tm)) (retK k tm o.dst) H
    | .builtin _ => stepG (stepE P H.length o.op tm H) (genK P X o k tm H) k tm o.dst H
    | _ => stepK (stepE P H.length o.op tm H) k tm o.dst H
  | .pick c x y => gd (boolOf (rd tm c)) (putK k o.dst x) (putK k o.dst y) tm H
  | .range _ _ => genK P X o k tm H
  | .next _ _ => genK P X o k tm H
  | .entry _ => genK P X o k tm H
  | .makeMap _ _ => genK P X o k tm H
  | .lookup _ _ _ _ => genK P X o k tm H
  | .mapUpdate _ _ _ _ => genK P X o k tm H
  | .insert _ _ _ _ => genK P X o k tm H
  | .makeFunc _ _ _ => genK P X o k tm H
  | .makeInterface _ _ => genK P X o k tm H
  | .typeAssert _ _ _ _ => genK P X o k tm H
  | .indexAddr _ _ _ => stepG (stepE P H.length o.op tm H) (genK P X o k tm H) k tm o.dst H
  | .load _ _ => stepG (stepE P H.length o.op tm H) (genK P X o k tm H) k tm o.dst H
  | .binOp _ _ _ _ _ => stepG (stepE P H.length o.op tm H) (genK P X o k tm H) k tm o.dst H
  | op => stepK (stepE P H.length op tm H) k tm o.dst H

def evOps (P : Program) (X : Ctx) (all : Array Oper) : List Oper → (TM → Heap → Prop) → TM → Heap → Prop
  | [], K, tm, H => K tm H
  | o :: os, K, tm, H => gd (guardB all tm o.guard) (evOp P X o (evOps P X all os K)) (junkK (evOps P X all os K) o.dst) tm H

/-- A region that draws its order: to be shown in whatever order. -/
def drawK (P : Program) (n : Nat) (X : Ctx) (id : Nat) (ops : Array Oper) (K : TM → Heap → Prop) (tm : TM) (H : Heap) : Prop :=
  IW P n X (.region id ops true) (seqQ K fun _ _ _ => False) tm H

/-- A loop: to be shown by a relation. -/
def loopK (P : Program) (n : Nat) (X : Ctx) (c : Code) (Q : Exit → TM → Heap → Prop) (tm : TM) (H : Heap) : Prop := IW P n X (.loop c) Q tm H
def otherK (P : Program) (n : Nat) (X : Ctx) (c : Code) (Q : Exit → TM → Heap → Prop) (tm : TM) (H : Heap) : Prop := IW P n X c Q tm H

def ev (P : Program) (n : Nat) (X : Ctx) : Code → (Exit → TM → Heap → Prop) → TM → Heap → Prop
  | .skip, Q, tm, H => Q .normal tm H
  | .region id ops d, Q, tm, H => match d with
    | false => evOps P X ops ops.toList (Q .normal) tm H
    | true => drawK P n X id ops (Q .normal) tm H
  | .seq a b, Q, tm, H => ev P n X a (seqQ (ev P n X b Q) Q) tm H
  | .cond c a b, Q, tm, H => gd (boolOf (rd tm c)) (ev P n X a Q) (ev P n X b Q) tm H
  | .block id c, Q, tm, H => ev P n X c (blockQ id Q) tm H
  | .exit id, Q, tm, H => Q (.exit id) tm H
  | .ret, Q, tm, H => Q .ret tm H
  | .label _, Q, tm, H => Q .normal tm H
  | .loop c, Q, tm, H => loopK P n X c Q tm H
  | c, Q, tm, H => otherK P n X c Q tm H

def operOk (n : Nat) (o : Oper) : Bool := (match o.dst with | some d => decide (d < n) | none => true) && undeferred o
def codeOk (n : Nat) : Code → Bool
  | .region _ ops _ => ops.toList.all (operOk n)
  | .seq a b => codeOk n a && codeOk n b
  | .cond _ a b => codeOk n a && codeOk n b
  | .block _ c => codeOk n c
  | .loop c => codeOk n c
  | _ => true

section
variable {P : Program} {n : Nat} {X : Ctx} {all : Array Oper}

theorem operOk_dst {o : Oper} (h : operOk n o = true) : ∀ x, o.dst = some x → x < n := by
  intro x hx
  unfold operOk at h
  rw [hx] at h
  simp only [Bool.and_eq_true, decide_eq_true_eq] at h
  exact h.1
theorem operOk_und {o : Oper} (h : operOk n o = true) : undeferred o = true := by
  unfold operOk at h
  exact (Bool.and_eq_true_iff.1 h).2
theorem noOut {ρ : Ren} {K : TM → Heap → Prop} : ¬ LetsOut (LQ n X ρ (seqQ K fun _ _ _ => False)) := fun ⟨_, _, h⟩ => h.elim (fun ⟨_, _, _, q, _⟩ => q) fun ⟨h, _⟩ => by cases h

theorem relI_bool {ρ : Ren} {x : IV} {v : Value} {b : Bool} (h : relI ρ x v) (hb : boolOf x = some b) : v = .bool b := by
  unfold boolOf at hb
  split at hb
  · cases hb; exact h.1
  · cases hb

theorem guard_wanted {ρ : Ren} {tm : TM} {a : Act} {o : Oper} {b : Bool} (ha : RelA X n ρ tm a) (hall : ∀ (j : Nat) (q : Oper), all[j]? = some q → operOk n q = true) (h : guardB all tm o.guard = some b) :
    Region.wanted o (yielded all a.tmps) = b := by
  unfold Region.wanted
  unfold guardB at h
  split at h
  · rename_i hg; rw [hg]; cases h; rfl
  · rename_i j want hg
    rw [hg]
    split at h
    · rename_i d hd
      split at h
      · rename_i b' hb
        cases h
        have hr := ha.rel d
        rw [hb] at hr
        have hlt : d < n := by
          cases hj : all[j]? with
          | none => rw [hj] at hd; cases hd
          | some q => rw [hj] at hd; exact operOk_dst (hall j q hj) d hd
        have e : a.tmps[d]? = some (.bool b') := by
          have := hr.1
          rw [Array.getD_eq_getD_getElem?] at this
          have hs : d < a.tmps.size := by rw [ha.size]; exact hlt
          simp only [Array.getElem?_eq_getElem hs, Option.getD_some] at this ⊢
          rw [this]
        have : yielded all a.tmps j = some b' := by
          unfold yielded
          rw [hd]
          simp [e]
        simp only [this]
        cases want <;> cases b' <;> rfl
      · rename_i hb
        cases h
        have hr := ha.rel d
        rw [hb] at hr
        obtain ⟨vs, hv, hvs⟩ := hr
        have hnil : vs = [] := by
          cases vs with
          | nil => rfl
          | cons _ _ => exact hvs.elim
        subst hnil
        have : yielded all a.tmps j = none := by
          unfold yielded
          rw [hd]
          simp only [Option.bind_some]
          rw [Array.getD_eq_getD_getElem?] at hv
          cases ht : a.tmps[d]? with
          | none => rfl
          | some v =>
            rw [ht] at hv
            simp only [Option.getD_some] at hv
            rw [hv]
        simp only [this]
        rfl
      · cases h
    · cases h

theorem relA_list {ρ : Ren} {tm : TM} {a : Act} (ha : RelA X n ρ tm a) : ∀ (l : List Operand), relA ρ (l.map (rd tm)) (l.map a.eval)
  | [] => trivial
  | o :: l => ⟨rd_rel ha o, relA_list ha l⟩

theorem relA_of_relT {ρ : Ren} : ∀ {l : List IV} {vs : List Value}, relT ρ l vs → relA ρ l vs
  | [], [], _ => trivial
  | x :: l, v :: vs, h => ⟨by cases x with
      | t _ => exact h.1.elim
      | s _ => exact h.1
      | a _ => exact h.1
      | j => trivial, relA_of_relT h.2⟩
  | [], _ :: _, h => h.elim
  | _ :: _, [], h => h.elim
theorem relA_append {ρ : Ren} : ∀ {l l' : List IV} {vs vs' : List Value}, relA ρ l vs → relA ρ l' vs' → relA ρ (l ++ l') (vs ++ vs')
  | [], _, [], _, _, h' => h'
  | _ :: _, _, _ :: _, _, h, h' => ⟨h.1, relA_append h.2 h'⟩
  | [], _, _ :: _, _, h, _ => h.elim
  | _ :: _, _, [], _, h, _ => h.elim
theorem enter_run {f : FuncId} (hent : enters P f = true) (vs : Array Value) (w : World) : (callFunc f vs).run P w = .ok (.enter f vs) w := by
  unfold enters at hent
  split at hent
  · rename_i fn hfn
    simp only [Bool.and_eq_true, Bool.not_eq_true', Option.isSome_iff_exists] at hent
    obtain ⟨⟨body, hbody⟩, hname⟩ := hent
    have hn : ¬ fn.name = "runtime.NumGoroutine" := by simpa using hname
    simp [callFunc, hfn, hn, hbody]
  · cases hent
theorem cloK_spec {ρ : Ren} {tm : TM} {a : Act} {H : Heap} {w : World} {tc : Nat} {args : List IV} {as : List Value} {k : IV → Heap → Prop} (ha : RelA X n ρ tm a) (hi : Inv X ρ H w) (h : cloK P X (get tm tc) args k H) (hargs : relA ρ args as) :
    ∃ f fst cap, a.eval (.tmp tc) = .func (.func f) fst cap ∧ enters P f = true ∧
      Calls P f (fst ++ as.toArray ++ cap) w fun e w' => ∃ v r H' ρ', e = .returned v ∧ k r H' ∧ relI ρ' r v ∧ Le ρ ρ' ∧ Inv X ρ' H' w' := by
  have hr := rd_rel ha (.tmp tc)
  unfold cloK at h
  simp only [rd] at hr
  split at h
  · rename_i f fs cs hc
    split at h
    · rename_i hz
      rw [hc] at hr
      have hv : a.eval (.tmp tc) = .func (.func f) fs cs := hr.1
      refine ⟨f, _, _, hv, h.1, ?_⟩
      have := h.2 ρ _ w hargs hi
      rw [Array.eq_empty_of_size_eq_zero hz.1, Array.eq_empty_of_size_eq_zero hz.2]
      simpa using this
    · exact h.elim
  · rename_i c hc
    split at h
    · rename_i f first cap hcl
      rw [hc] at hr
      obtain ⟨l, hl, f', c', rfl, hf, hcap⟩ := hi.sat c _ hcl
      have hv : a.eval (.tmp tc) = .func (.func f) f'.toArray c'.toArray := by
        rcases hr with ⟨b', h⟩ | ⟨h, _⟩
        · rw [hl] at h; cases h
        · rw [hl, Option.some.injEq, Pl.val.injEq] at h; exact h.symm
      refine ⟨f, _, _, hv, h.1, ?_⟩
      have := h.2 ρ _ w (relA_append (relA_of_relT hf) (relA_append hargs (relA_of_relT hcap))) hi
      have e : f'.toArray ++ as.toArray ++ c'.toArray = (f' ++ (as ++ c')).toArray := by simp
      rw [e]
      exact this
    · exact h.elim
  · exact h.elim
theorem clo_run {a : Act} {o : Oper} {c : Call} {tc : Nat} {f : FuncId} {fst cap : Array Value} {w : World} (hop : o.op = .call c) (hcal : c.callee = .value (.tmp tc)) (hv : a.eval (.tmp tc) = .func (.func f) fst cap) (hent : enters P f = true) :
    (execOp a.eval o).run P w = .ok (.enter f (fst ++ c.args.map a.eval ++ cap)) w := by
  have := enter_run hent (fst ++ c.args.map a.eval ++ cap) w
  rw [Array.append_assoc] at this ⊢
  simpa [execOp, hop, resolve, hcal, hv, Deferred.ofValue, invoke] using this

theorem evOps_sound {ρ : Ren} {Q : Exit → TM → Heap → Prop} (hall : ∀ (j : Nat) (q : Oper), all[j]? = some q → operOk n q = true) : ∀ (os : List Oper) (i : Nat), (∀ j, all[i + j]? = os[j]?) → ∀ (K : TM → Heap → Prop) (ρ' : Ren) (tm : TM) (H : Heap) (a : Act) (w : World),
    (∀ tm H, K tm H → Q .normal tm H) → Le ρ ρ' → RelA X n ρ' tm a → Inv X ρ' H w → evOps P X all os K tm H → wpOps P all (LQ n X ρ Q) (List.range' i os.length) a w
  | [], i, _, K, ρ', tm, H, a, w, hK, hp, ha, hi, h => .inl ⟨ρ', tm, H, hK _ _ h, hp.toN _, ha, hi⟩
  | o :: os, i, hget, K, ρ', tm, H, a, w, hK, hp, ha, hi, h => by
    have ho : all[i]? = some o := by simpa using hget 0
    have hdst := operOk_dst (hall i o ho)
    have next : ∀ (ρ2 : Ren) (tm2 : TM) (H2 : Heap) (a2 : Act) (w2 : World), Le ρ ρ2 → RelA X n ρ2 tm2 a2 → Inv X ρ2 H2 w2 → evOps P X all os K tm2 H2 → wpOps P all (LQ n X ρ Q) (List.range' (i + 1) os.length) a2 w2 :=
      fun ρ2 tm2 H2 a2 w2 hp2 ha2 hi2 h2 => evOps_sound hall os (i + 1) (fun j => by rw [show i + 1 + j = i + (j + 1) by omega, hget (j + 1)]; simp) K ρ2 tm2 H2 a2 w2 hK hp2 ha2 hi2 h2
    rw [List.length_cons, List.range'_succ]
    simp only [wpOps, ho]
    simp only [evOps, gd] at h
    split at h
    · rename_i b hg
      rw [guard_wanted ha hall hg]
      cases b with
      | false =>
        rw [gdb_false] at h
        simp only [Bool.false_eq_true, if_false]
        exact next ρ' _ _ _ _ hp (ha.put (Le.refl _) hdst (v := .t []) (rel_undef _)) hi h
      | true =>
        rw [gdb_true] at h
        simp only [if_true]
        left
        unfold Oper.wp
        unfold evOp at h
        split at h
        · rename_i c hop
          split at h
          · rename_i f hcal
            obtain ⟨hent, hcall⟩ := h
            have hargs := relA_list ha c.args.toList
            have hc := hcall ρ' _ w hargs hi
            have hex : (execOp a.eval o).run P w = .ok (.enter f (c.args.map a.eval)) w := by
              unfold enters at hent
              split at hent
              · rename_i fn hfn
                simp only [Bool.and_eq_true, Bool.not_eq_true', Option.isSome_iff_exists] at hent
                obtain ⟨⟨body, hbody⟩, hname⟩ := hent
                have hn : ¬ fn.name = "runtime.NumGoroutine" := by simpa using hname
                simp [execOp, hop, resolve, hcal, Act.eval, Deferred.ofValue, invoke, callFunc, hfn, hn, hbody]
              · cases hent
            rw [hex, Oper.upon_enter]
            have e : (List.map a.eval c.args.toList).toArray = c.args.map a.eval := by apply Array.ext'; simp only [Array.toList_map]
            rw [e] at hc
            refine hc.mono ?_
            rintro _ w' ⟨v, r, H', ρ2, rfl, hk, hr, hpre, hinv⟩
            exact next ρ2 _ _ _ _ (hp.trans hpre) (ha.put hpre hdst hr) hinv hk
          · rename_i tc hcal
            obtain ⟨f, fst, cap, hv, hent, hc⟩ := cloK_spec ha hi h (relA_list ha c.args.toList)
            rw [clo_run hop hcal hv hent, Oper.upon_enter]
            have e : (List.map a.eval c.args.toList).toArray = c.args.map a.eval := by apply Array.ext'; simp only [Array.toList_map]
            rw [e] at hc
            refine hc.mono ?_
            rintro _ w' ⟨v, r, H', ρ2, rfl, hk, hr, hpre, hinv⟩
            exact next ρ2 _ _ _ _ (hp.trans hpre) (ha.put hpre hdst hr) hinv hk
          · unfold stepG at h
            split at h
            · rename_i cc v W hst
              obtain ⟨hc, hk⟩ := h
              obtain ⟨ρ2, x, w', hpre, _, hr, hinv, hrun⟩ := step_sound ha hi (.inl rfl) hst hc
              rcases hrun with hrun | ⟨hrun, rfl⟩
              · rw [hrun, Oper.upon_value]
                exact next ρ2 _ _ _ _ (hp.trans hpre) (ha.put hpre hdst hr) hinv hk
              · rw [hrun, Oper.upon_skip]
                exact next ρ2 _ _ _ _ (hp.trans hpre) (ha.put hpre hdst hr) hinv hk
            · obtain ⟨x, w', v, H', ρ2, hrun, hr, hpre, hinv, hk⟩ := h n ρ' a w ha hi
              rcases hrun with hrun | ⟨hrun, rfl⟩
              · rw [hrun, Oper.upon_value]
                exact next ρ2 _ _ _ _ (hp.trans hpre) (ha.put hpre hdst hr) hinv hk
              · rw [hrun, Oper.upon_skip]
                exact next ρ2 _ _ _ _ (hp.trans hpre) (ha.put hpre hdst hr) hinv hk
          · unfold stepK at h
            split at h
            · rename_i cc v W hst
              obtain ⟨hc, hk⟩ := h
              obtain ⟨ρ2, x, w', hpre, _, hr, hinv, hrun⟩ := step_sound ha hi (.inl rfl) hst hc
              rcases hrun with hrun | ⟨hrun, rfl⟩
              · rw [hrun, Oper.upon_value]
                exact next ρ2 _ _ _ _ (hp.trans hpre) (ha.put hpre hdst hr) hinv hk
              · rw [hrun, Oper.upon_skip]
                exact next ρ2 _ _ _ _ (hp.trans hpre) (ha.put hpre hdst hr) hinv hk
            · exact h.elim
        · rename_i cnd x y hop
          simp only [gd] at h
          split at h
          · rename_i b hb
            have hcv := relI_bool (rd_rel ha cnd) hb
            have hex : (execOp a.eval o).run P w = .ok (.value (if b then a.eval x else a.eval y)) w := by
              simp [execOp, hop, hcv, asBool]
            rw [hex, Oper.upon_value]
            cases b with
            | true => rw [gdb_true] at h; exact next ρ' _ _ _ _ hp (ha.put (Le.refl _) hdst (rd_rel ha x)) hi h
            | false => rw [gdb_false] at h; exact next ρ' _ _ _ _ hp (ha.put (Le.refl _) hdst (rd_rel ha y)) hi h
          · exact h.elim
        iterate 10
          · obtain ⟨x, w', v, H', ρ2, hrun, hr, hpre, hinv, hk⟩ := h n ρ' a w ha hi
            rcases hrun with hrun | ⟨hrun, rfl⟩
            · rw [hrun, Oper.upon_value]
              exact next ρ2 _ _ _ _ (hp.trans hpre) (ha.put hpre hdst hr) hinv hk
            · rw [hrun, Oper.upon_skip]
              exact next ρ2 _ _ _ _ (hp.trans hpre) (ha.put hpre hdst hr) hinv hk
        iterate 3
          · unfold stepG at h
            split at h
            · rename_i cc v W hst
              obtain ⟨hc, hk⟩ := h
              obtain ⟨ρ2, x, w', hpre, _, hr, hinv, hrun⟩ := step_sound ha hi (.inl rfl) hst hc
              rcases hrun with hrun | ⟨hrun, rfl⟩
              · rw [hrun, Oper.upon_value]
                exact next ρ2 _ _ _ _ (hp.trans hpre) (ha.put hpre hdst hr) hinv hk
              · rw [hrun, Oper.upon_skip]
                exact next ρ2 _ _ _ _ (hp.trans hpre) (ha.put hpre hdst hr) hinv hk
            · obtain ⟨x, w', v, H', ρ2, hrun, hr, hpre, hinv, hk⟩ := h n ρ' a w ha hi
              rcases hrun with hrun | ⟨hrun, rfl⟩
              · rw [hrun, Oper.upon_value]
                exact next ρ2 _ _ _ _ (hp.trans hpre) (ha.put hpre hdst hr) hinv hk
              · rw [hrun, Oper.upon_skip]
                exact next ρ2 _ _ _ _ (hp.trans hpre) (ha.put hpre hdst hr) hinv hk
        · unfold stepK at h
          split at h
          · rename_i c v W hst
            obtain ⟨hc, hk⟩ := h
            obtain ⟨ρ2, x, w', hpre, _, hr, hinv, hrun⟩ := step_sound ha hi (.inl rfl) hst hc
            rcases hrun with hrun | ⟨hrun, rfl⟩
            · rw [hrun, Oper.upon_value]
              exact next ρ2 _ _ _ _ (hp.trans hpre) (ha.put hpre hdst hr) hinv hk
            · rw [hrun, Oper.upon_skip]
              exact next ρ2 _ _ _ _ (hp.trans hpre) (ha.put hpre hdst hr) hinv hk
          · exact h.elim
    · exact h.elim

theorem ev_sound : ∀ (c : Code), codeOk n c = true → ∀ (Q : Exit → TM → Heap → Prop) (tm : TM) (H : Heap), ev P n X c Q tm H → IW P n X c Q tm H
  | .skip, _, Q, tm, H, h => IW_skip h
  | .region id ops d, hok, Q, tm, H, h => by
    cases d with
    | false =>
      refine IW_mono (Q := seqQ (Q .normal) fun _ _ _ => False) ?_ fun e tm H q => by cases e <;> first | exact q | exact q.elim
      intro ρ a w ha hi
      have hall : ∀ (j : Nat) (q : Oper), ops[j]? = some q → operOk n q = true := fun j q hj => by
        simp only [codeOk, List.all_eq_true] at hok
        exact hok q (by simpa using Array.mem_of_getElem? hj)
      refine wpR_region (fun j q hj => operOk_und (hall j q hj)) noOut ?_
      have := evOps_sound (P := P) (X := X) (ρ := ρ) (Q := seqQ (Q .normal) fun _ _ _ => False) hall ops.toList 0 (fun j => by simp) (Q .normal) ρ tm H a w (fun _ _ h => h) (Le.refl _) ha hi h
      simpa [List.range_eq_range'] using this
    | true => exact IW_mono h fun e tm H q => by cases e <;> first | exact q | exact q.elim
  | .seq a b, hok, Q, tm, H, h => by
    simp only [codeOk, Bool.and_eq_true] at hok
    exact IW_seq (K := ev P n X b Q) (fun tm H k => ev_sound b hok.2 Q tm H k) (ev_sound a hok.1 _ tm H h)
  | .cond c a b, hok, Q, tm, H, h => by
    simp only [codeOk, Bool.and_eq_true] at hok
    simp only [ev, gd] at h
    split at h
    · rename_i t ht
      exact IW_cond (b := t) (fun ρ a ha => relI_bool (rd_rel ha c) ht) (fun e => ev_sound a hok.1 Q tm H (h.1 e)) (fun e => ev_sound b hok.2 Q tm H (h.2 e))
    · exact h.elim
  | .block id c, hok, Q, tm, H, h => IW_block (ev_sound c hok _ tm H h)
  | .exit id, _, Q, tm, H, h => IW_exit h
  | .ret, _, Q, tm, H, h => IW_ret h
  | .label l, _, Q, tm, H, h => IW_label h
  | .loop c, _, Q, tm, H, h => h
  | .rangeFunc _ _ _ _, _, Q, tm, H, h => h
  | .scope _, _, Q, tm, H, h => h
  | .goto _, _, Q, tm, H, h => h
  | .refuse _, _, Q, tm, H, h => h
end
end Go.Ev

/- Functions: their arguments, their results, their calls. -/
namespace Go.Ev
open Go.RowKit

def argsTM : Nat → List IV → TM
  | _, [] => []
  | i, x :: xs => (i, x) :: argsTM (i + 1) xs

def resI (P : Program) (tm : TM) (H : Heap) : List ResultVar → Option (List IV)
  | [] => some []
  | .tmp t :: rs => match resI P tm H rs with
    | some l => some (get tm t :: l)
    | none => none
  | .cell a T :: rs => match stLoad P T (get tm a) H with
    | some (_, v, _) => match resI P tm H rs with
      | some l => some (v :: l)
      | none => none
    | none => none

def isT : IV → Bool
  | .t _ => true
  | _ => false

/-- Results that are no tuples. -/
def flat : List IV → Bool
  | [] => true
  | x :: xs => !isT x && flat xs

def resK (r : Option (List IV)) (k : IV → Heap → Prop) (H : Heap) : Prop :=
  match r with
  | some [x] => k x H
  | some l => flat l = true ∧ k (.t l) H
  | none => False

def retQ (P : Program) (rs : List ResultVar) (k : IV → Heap → Prop) : Exit → TM → Heap → Prop
  | .ret, tm, H => resK (resI P tm H rs) k H
  | .normal, tm, H => resK (resI P tm H rs) k H
  | _, _, _ => False

section
variable {P : Program} {X : Ctx}

theorem get_argsTM {ρ : Ren} : ∀ (args : List IV) (vs : List Value) (i : Nat), relA ρ args vs → ∀ t, relI ρ (get (argsTM i args) t) (if i ≤ t then vs.getD (t - i) undef else undef) ∨ (get (argsTM i args) t = .j)
  | [], vs, i, _, t => .inr rfl
  | x :: xs, v :: vs, i, h, t => by
    simp only [argsTM, get]
    by_cases e : i = t
    · subst e; left; simp; exact h.1
    · rw [if_neg e]
      rcases get_argsTM xs vs (i + 1) h.2 t with h' | h'
      · left
        by_cases hle : i ≤ t
        · have : i + 1 ≤ t := by omega
          rw [if_pos hle]
          rw [if_pos this] at h'
          rw [show t - i = (t - (i + 1)) + 1 by omega]
          simpa using h'
        · rw [if_neg hle]; rw [if_neg (by omega)] at h'; exact h'
      · exact .inr h'
  | _ :: _, [], _, h, _ => h.elim

theorem relA.len {ρ : Ren} : ∀ {args : List IV} {vs : List Value}, relA ρ args vs → vs.length = args.length
  | [], [], _ => rfl
  | _ :: _, _ :: _, h => by simp [h.2.len]
  | [], _ :: _, h => h.elim
  | _ :: _, [], h => h.elim

theorem relA_enter {N : Nat} {ρ : Ren} {args : List IV} {vs : List Value} {n : Nat} (h : relA ρ args vs) (hn : args.length ≤ n) :
    RelA (X.at N) n ρ (argsTM 0 args) { tmps := vs.toArray ++ Array.replicate (n - vs.toArray.size) undef, defers := [] } := by
  have hl := h.len
  refine ⟨by simp; omega, rfl, fun t => ?_⟩
  rcases get_argsTM args vs 0 h t with h' | h'
  · simp only [Nat.zero_le, if_true, Nat.sub_zero] at h'
    by_cases ht : t < vs.length
    · simpa [Array.getD_eq_getD_getElem?, Array.getElem?_append, ht] using h'
    · by_cases ht2 : t < n
      · have : (vs.toArray ++ Array.replicate (n - vs.toArray.size) undef).getD t undef = undef := by
          simp [Array.getD_eq_getD_getElem?, Array.getElem?_append, ht]
          rw [Array.getElem?_replicate]; split <;> rfl
        rw [this]
        have e : vs.getD t undef = undef := by simp [List.getD, List.getElem?_eq_none (Nat.le_of_not_lt ht)]
        rw [e] at h'; exact h'
      · have : (vs.toArray ++ Array.replicate (n - vs.toArray.size) undef).getD t undef = undef := by
          simp [Array.getD_eq_getD_getElem?, Array.getElem?_append, ht]
          rw [Array.getElem?_replicate]; split <;> rfl
        rw [this]
        have e : vs.getD t undef = undef := by simp [List.getD, List.getElem?_eq_none (Nat.le_of_not_lt ht)]
        rw [e] at h'; exact h'
  · rw [h']; trivial

theorem stLoad_run {ρ : Ren} {H : Heap} {W : List (Nat × Chunk)} {w : World} {T : TypeId} {p v : IV} {pv : Value} {c : Prop} (hi : Inv X ρ H w) (hp : relI ρ p pv) (h : stLoad P T p H = some (c, v, W)) :
    ∃ x a, pv = .pointer (some a) ∧ relI ρ v x ∧ isT v = false ∧ (loadVar T a).run P w = .ok x w := by
  unfold stLoad at h
  split at h
  · rename_i ci i o
    split at h
    · rename_i own sz' els hc
      split at h
      · rename_i n ag hsz hag
        split at h
        · rename_i l hs
          cases h
          obtain ⟨b, base, sz, lim, hρ, rfl⟩ := hp
          obtain ⟨hl, vs, hrel, hcell⟩ := read_cells2 hi hc hρ hs
          have hlen := hrel.len
          cases ag with
          | true =>
            refine ⟨.agg vs.toArray, _, rfl, ⟨vs, rfl, hrel⟩, rfl, ?_⟩
            have hld : (loadCells ⟨b, base + i * sz + o, none⟩ n).run P w = .ok vs.toArray w := by
              have := run_loadCells_list (P := P) w ⟨b, base + i * sz + o, none⟩ vs (fun j v hj => by rw [addr_add]; exact hcell j v hj)
              rw [show vs.length = n by rw [hlen, hl]; rfl] at this; exact this
            simp [loadVar, run_isAgg' P w hag, run_sizeOf' P w hsz, hld]
          | false =>
            obtain ⟨x0, rfl⟩ := List.length_eq_one_iff.1 (hl.trans rfl)
            obtain ⟨v0, rfl⟩ := List.length_eq_one_iff.1 hlen
            refine ⟨v0, _, rfl, hrel.1, rfl, ?_⟩
            have hc0 := hcell 0 v0 rfl
            simp only [Nat.add_zero] at hc0
            simp [loadVar, run_isAgg' P w hag, hc0]
        · cases h
      · cases h
    · cases h
  · cases h

theorem relC_of {ρ : Ren} {x : IV} {v : Value} (h : relI ρ x v) (hx : isT x = false) : relC ρ x v := by
  cases x with
  | t l => cases hx
  | _ => exact h

def resOne (tmps : Array Value) : ResultVar → Sem Value
  | .tmp t => pure (tmps.getD t undef)
  | .cell a t => do loadVar t (← asAddr (tmps.getD a undef))

theorem results_eq (fn : Func) (tmps : Array Value) : results fn tmps = (fn.results.mapM (resOne tmps) >>= fun vs => pure (if h : vs.size = 1 then vs[0] else .tuple vs)) := by
  unfold results
  congr 1

theorem resI_run {n : Nat} {ρ : Ren} {tm : TM} {a : Act} {H : Heap} {w : World} (ha : RelA X n ρ tm a) (hi : Inv X ρ H w) : ∀ (rs : List ResultVar) (l : List IV), resI P tm H rs = some l →
    ∃ vs : List Value, relA ρ l vs ∧ (rs.mapM (resOne a.tmps)).run P w = .ok vs w
  | [], l, h => by simp [resI] at h; subst h; exact ⟨[], trivial, by simp⟩
  | .tmp t :: rs, l, h => by
    simp only [resI] at h
    split at h
    · rename_i l' hl'
      cases h
      obtain ⟨vs, hr, hrun⟩ := resI_run ha hi rs l' hl'
      exact ⟨_ :: vs, ⟨ha.rel t, hr⟩, by simp [List.mapM_cons, resOne, hrun]⟩
    · cases h
  | .cell p T :: rs, l, h => by
    simp only [resI] at h
    split at h
    · rename_i c v H' hld
      split at h
      · rename_i l' hl'
        cases h
        obtain ⟨vs, hr, hrun⟩ := resI_run ha hi rs l' hl'
        obtain ⟨x, ad, hp, hx, _, hload⟩ := stLoad_run hi (ha.rel p) hld
        exact ⟨x :: vs, ⟨hx, hr⟩, by simp [List.mapM_cons, resOne, hp, asAddr, hload, hrun]⟩
      · cases h
    · cases h

theorem relT_of_relA {ρ : Ren} : ∀ {l : List IV} {vs : List Value}, flat l = true → relA ρ l vs → relT ρ l vs
  | [], [], _, _ => trivial
  | x :: xs, v :: vs, hf, h => by
    simp only [flat, Bool.and_eq_true, Bool.not_eq_true'] at hf
    exact ⟨relC_of h.1 hf.1, relT_of_relA hf.2 h.2⟩
  | [], _ :: _, _, h => h.elim
  | _ :: _, [], _, h => h.elim

theorem resK_run {n : Nat} {ρ : Ren} {tm : TM} {a : Act} {H : Heap} {w : World} {fn : Func} {k : IV → Heap → Prop} (ha : RelA X n ρ tm a) (hi : Inv X ρ H w)
    (h : resK (resI P tm H fn.results.toList) k H) : ∃ v r, (results fn a.tmps).run P w = .ok v w ∧ k r H ∧ relI ρ r v := by
  unfold resK at h
  have hm : ∀ {l : List IV}, resI P tm H fn.results.toList = some l → ∃ vs : List Value, relA ρ l vs ∧ (fn.results.mapM (resOne a.tmps)).run P w = .ok vs.toArray w := by
    intro l hl
    obtain ⟨vs, hr, hrun⟩ := resI_run ha hi _ _ hl
    exact ⟨vs, hr, by rw [Array.mapM_eq_mapM_toList]; simp [hrun]⟩
  rw [results_eq]
  split at h
  · rename_i x hl
    obtain ⟨vs, hr, hrun⟩ := hm hl
    match vs, hr, hrun with
    | [v], hr, hrun => exact ⟨v, x, by simp [hrun], h, hr.1⟩
  · rename_i l hne hl
    obtain ⟨vs, hr, hrun⟩ := hm hl
    have hlen := hr.len
    have h1 : vs.length ≠ 1 := fun e => by
      rw [hlen] at e
      obtain ⟨y, rfl⟩ := List.length_eq_one_iff.1 e
      exact hne y rfl
    refine ⟨.tuple vs.toArray, .t l, ?_, h.2, ⟨vs, rfl, relT_of_relA h.1 hr⟩⟩
    simp only [Sem.run_bind, hrun, Result.andThen_ok, Sem.run_pure]
    rw [dif_neg (by simpa using h1)]
  · exact h.elim

/-- A call walked in place. -/
theorem callK_inline {f : FuncId} {fn : Func} {c : Code} {args : List IV} {k : IV → Heap → Prop} {H : Heap} {n : Nat} {rs : List ResultVar} (hf : P.funcs[f]? = some fn) (hb : fn.body = some c) (hrs : fn.results.toList = rs) (hnt : fn.ntmps = n) (he : enters P f = true)
    (hok : codeOk n c = true) (hn : args.length ≤ n) (h : ev P n (X.at H.length) c (retQ P rs k) (argsTM 0 args) H) : callK P X f args k H := by
  subst hrs; subst hnt
  refine ⟨he, fun ρ vs w hargs hi => ?_⟩
  refine calls_of_wp hf hb (wpR_none.1 ?_)
  refine wpIn_mono (ev_sound c hok _ _ _ h ρ _ w (relA_enter hargs hn) (hi.at _)) ?_
  rintro e a w' (⟨ρ', tm, H', q, hp, ha, hi'⟩ | ⟨_, _, _, hal⟩)
  rotate_left
  · exact hal.elim
  have fin : resK (resI P tm H' fn.results.toList) k H' → a.defers = [] ∧ ∃ v, (results fn a.tmps).run P w' = .ok v w' ∧ ∃ v' r H' ρ', Ending.returned v = .returned v' ∧ k r H' ∧ relI ρ' r v' ∧ Le ρ ρ' ∧ Inv X ρ' H' w' := by
    intro hk
    obtain ⟨v, r, hrun, hkr, hr⟩ := resK_run ha hi' hk
    have hp' : LeN ρ.length ρ ρ' := by rw [hi.len]; exact hp
    exact ⟨ha.defers, v, hrun, v, r, H', ρ', rfl, hkr, hr, hp'.full, hi'.un⟩
  cases e with
  | normal => exact fin q
  | ret => exact fin q
  | _ => exact q.elim

/-- A contract: the call's result and what the ideal heap becomes, whatever the frame. -/
theorem callK_mono {f : FuncId} {args : List IV} {k k' : IV → Heap → Prop} {H : Heap} (h : callK P X f args k H) (hk : ∀ r H', k r H' → k' r H') : callK P X f args k' H :=
  ⟨h.1, fun ρ vs w hargs hi => (h.2 ρ vs w hargs hi).mono fun _ _ ⟨v, r, H', ρ', e, q, rest⟩ => ⟨v, r, H', ρ', e, hk _ _ q, rest⟩⟩

end
end Go.Ev

/- Functions that only reckon: a contract without memory. -/
namespace Go.Ev
open Go.RowKit

def rawS : SV → Bool
  | .raw _ => true
  | _ => false
def rawL : List SV → Bool
  | [] => true
  | x :: xs => rawS x && rawL xs
def rawC : IV → Bool
  | .s x => rawS x
  | .a l => rawL l
  | _ => false
def rawT : List IV → Bool
  | [] => true
  | x :: xs => rawC x && rawT xs
def rawI : IV → Bool
  | .t l => rawT l
  | x => rawC x

theorem rawS_rel {ρ ρ' : Ren} {x : SV} {v : Value} (h : rawS x = true) (hr : relS ρ x v) : relS ρ' x v := by
  cases x <;> first | exact hr | cases h
theorem rawL_rel {ρ ρ' : Ren} : ∀ {l : List SV} {vs : List Value}, rawL l = true → relL ρ l vs → relL ρ' l vs
  | [], [], _, _ => trivial
  | x :: l, v :: vs, h, hr => by
    simp only [rawL, Bool.and_eq_true] at h
    exact ⟨rawS_rel h.1 hr.1, rawL_rel h.2 hr.2⟩
  | [], _ :: _, _, h => h.elim
  | _ :: _, [], _, h => h.elim
theorem rawC_rel {ρ ρ' : Ren} {x : IV} {v : Value} (h : rawC x = true) (hr : relC ρ x v) : relC ρ' x v := by
  cases x with
  | s x => exact rawS_rel (x := x) h hr
  | a l => obtain ⟨cs, e, hr⟩ := hr; exact ⟨cs, e, rawL_rel h hr⟩
  | t l => cases h
  | j => cases h
theorem rawT_rel {ρ ρ' : Ren} : ∀ {l : List IV} {vs : List Value}, rawT l = true → relT ρ l vs → relT ρ' l vs
  | [], [], _, _ => trivial
  | x :: l, v :: vs, h, hr => by
    simp only [rawT, Bool.and_eq_true] at h
    exact ⟨rawC_rel h.1 hr.1, rawT_rel h.2 hr.2⟩
  | [], _ :: _, _, h => h.elim
  | _ :: _, [], _, h => h.elim
theorem rawI_rel {ρ ρ' : Ren} {x : IV} {v : Value} (h : rawI x = true) (hr : relI ρ x v) : relI ρ' x v := by
  cases x with
  | s x => exact rawS_rel (x := x) h hr
  | a l => exact rawC_rel (x := .a l) h hr
  | t l => obtain ⟨vs, e, hr⟩ := hr; exact ⟨vs, e, rawT_rel h hr⟩
  | j => cases h
theorem rawA_rel {ρ ρ' : Ren} : ∀ {l : List IV} {vs : List Value}, rawT l = true → relA ρ l vs → relA ρ' l vs
  | [], [], _, _ => trivial
  | x :: l, v :: vs, h, hr => by
    simp only [rawT, Bool.and_eq_true] at h
    refine ⟨rawI_rel ?_ hr.1, rawA_rel h.2 hr.2⟩
    cases x with
    | t l => cases h.1
    | _ => exact h.1
  | [], _ :: _, _, h => h.elim
  | _ :: _, [], _, h => h.elim

section
variable {P : Program} {X : Ctx}

/-- What is as it was below the world's end, and satisfies the ideal heap still. -/
theorem Inv.below {ρ : Ren} {H : Heap} {w w' : World} (h : Inv X ρ H w) (b : BelowD w.heap.size w w') : Inv X ρ H w' := by
  refine ⟨b.os.trans h.os, b.tape.trans h.tape, b.output.trans h.output, Nat.le_trans h.drawn b.drawn, Nat.le_trans h.size b.size, fun i hi hF => ?_, h.len, h.obj1, fun c ch hc => ?_, h.own, h.ro, h.apart⟩
  · rw [b.block i (Nat.lt_of_lt_of_le hi h.size)]; exact h.old i hi hF
  · obtain ⟨l, hl, hs⟩ := h.sat c ch hc
    refine ⟨l, hl, ?_⟩
    cases ch with
    | clo _ _ _ => exact hs
    | gone => trivial
    | rows o sz els => exact hs.ext (Le.refl _) fun i hi => b.block i (hs.blk_lt (by cases o <;> simp [Chunk.owned]) hi)
    | map _ es => exact hs.ext (Le.refl _) fun i hi => b.block i (hs.blk_lt (by simp [Chunk.owned]) hi)
    | iter _ _ _ _ => exact hs.ext (Le.refl _) fun i hi => b.block i (hs.blk_lt (by simp [Chunk.owned]) hi)

def ctx0 (w : World) : Ctx := ⟨w, fun _ => False, 0, [], none, fun _ _ _ => False⟩

theorem Inv.zero (w : World) : Inv (ctx0 w) [] [] w :=
  ⟨rfl, rfl, rfl, Nat.le_refl _, Nat.le_refl _, fun _ _ _ => rfl, rfl, fun _ _ _ h => by simp at h, fun _ _ h => by simp at h, fun _ _ _ _ h => by simp at h, fun _ _ _ _ _ h => by simp at h, fun _ _ _ _ _ _ _ _ h => by simp at h⟩

/-- A function's contract, if it only reckons: the result for these arguments; of what was there nothing is turned. -/
def Fun (P : Program) (f : FuncId) (args : List IV) (r : IV) : Prop :=
  enters P f = true ∧ ∀ w vs, relA [] args vs → Calls P f vs.toArray w fun e w' => ∃ v, e = .returned v ∧ relI [] r v ∧ BelowD w.heap.size w w'

theorem fun_of {f : FuncId} {args : List IV} {r : IV} (hr : rawI r = true) (h : ∀ X, callK P X f args (fun r' _ => r' = r) []) : Fun P f args r := by
  refine ⟨(h (ctx0 default)).1, fun w vs ha => ((h (ctx0 w)).2 [] vs w ha (Inv.zero w)).mono ?_⟩
  rintro e w' ⟨v, r', H', ρ', rfl, rfl, hrel, _, hi⟩
  exact ⟨v, rfl, rawI_rel hr hrel, ⟨hi.os, hi.tape, hi.output, hi.size, fun k hk => hi.old k hk (fun h => h)⟩, hi.drawn⟩

theorem callK_fun {f : FuncId} {args : List IV} {r : IV} {k : IV → Heap → Prop} {H : Heap} (h : Fun P f args r) (ha : rawT args = true) (hr : rawI r = true) (hk : k r H) : callK P X f args k H := by
  refine ⟨h.1, fun ρ vs w hargs hi => (h.2 w vs (rawA_rel ha hargs)).mono ?_⟩
  rintro e w' ⟨v, rfl, hrel, hb⟩
  exact ⟨v, r, H, ρ, rfl, hk, rawI_rel hr hrel, Le.refl _, hi.below hb⟩
end
end Go.Ev

/- Functions that only reckon and read: a contract over some chunks that stay as they are. -/
namespace Go.Ev
open Go.RowKit

def ix : List Nat → Nat → Option Nat
  | [], _ => none
  | d :: σ, c => if d = c then some 0 else (ix σ c).map (· + 1)
theorem ix_get : ∀ {σ : List Nat} {c k : Nat}, ix σ c = some k → σ[k]? = some c
  | d :: σ, c, k, h => by
    simp only [ix] at h
    split at h
    · rename_i e; cases h; simp [e]
    · cases hk : ix σ c with
      | none => rw [hk] at h; cases h
      | some j => rw [hk] at h; simp at h; subst h; simpa using ix_get hk

/-- A value, seen from some chunks alone. -/
def pullS (σ : List Nat) : SV → SV
  | .raw v => .raw v
  | .ptr c i o => match ix σ c with
    | some k => .ptr k i o
    | none => .junk
  | .slice c s n => match ix σ c with
    | some k => .slice k s n
    | none => .junk
  | .ref c => match ix σ c with
    | some k => .ref k
    | none => .junk
  | .sub c i o k n => match ix σ c with
    | some j => .sub j i o k n
    | none => .junk
  | .junk => .junk
def pullI (σ : List Nat) : IV → IV
  | .s x => .s (pullS σ x)
  | .a l => .a (l.map (pullS σ))
  | _ => .j
def roC (σ : List Nat) : Chunk → Chunk
  | .rows _ sz els => .rows false sz (els.map fun r => r.map (pullS σ))
  | _ => .gone
def pullH (σ : List Nat) (H : Heap) : Heap := σ.map fun c => roC σ ((H[c]?).getD .gone)
def pullR (σ : List Nat) (ρ : Ren) : Ren := σ.map fun c => (ρ[c]?).getD .void

section
variable {P : Program} {X : Ctx} {σ : List Nat} {ρ : Ren}

theorem pullR_get {c k : Nat} {l : Pl} (h : ix σ c = some k) (hl : ρ[c]? = some l) : (pullR σ ρ)[k]? = some l := by
  simp [pullR, ix_get h, hl]

theorem relS_pull {x : SV} {v : Value} (hw : ∀ (c b : Nat) (u : Value), ρ[c]? = some (Pl.obj b u) → u.oneCell' = true) (h : relS ρ x v) : relS (pullR σ ρ) (pullS σ x) v := by
  have h1 := relS_one h hw
  cases x with
  | raw _ => exact h
  | ptr c i o =>
    simp only [pullS]
    split
    · rename_i k hk
      obtain ⟨b, base, sz, lim, hc, hx⟩ := h; exact ⟨b, base, sz, lim, pullR_get hk hc, hx⟩
    · exact h1
  | slice c s n =>
    simp only [pullS]
    split
    · rename_i k hk
      rcases h with ⟨hc, h⟩ | ⟨b, base, sz, lim, cap, hc, h⟩ | ⟨b, base, sz, lim, off, hc, h⟩
      · exact .inl ⟨pullR_get hk hc, h⟩
      · exact .inr (.inl ⟨b, base, sz, lim, cap, pullR_get hk hc, h⟩)
      · exact .inr (.inr ⟨b, base, sz, lim, off, pullR_get hk hc, h⟩)
    · exact h1
  | ref c =>
    simp only [pullS]
    split
    · rename_i k hk
      rcases h with ⟨b, h⟩ | ⟨h, h2⟩
      · exact .inl ⟨b, pullR_get hk h⟩
      · exact .inr ⟨pullR_get hk h, h2⟩
    · exact h1
  | sub c i o k n =>
    simp only [pullS]
    split
    · rename_i j hj
      rcases h with ⟨b, base, sz, lim, cap, hc, h⟩ | ⟨b, base, sz, lim, off, hc, h⟩
      · exact .inl ⟨b, base, sz, lim, cap, pullR_get hj hc, h⟩
      · exact .inr ⟨b, base, sz, lim, off, pullR_get hj hc, h⟩
    · exact h1
  | junk => exact h

theorem relL_pull (hw : ∀ (c b : Nat) (u : Value), ρ[c]? = some (Pl.obj b u) → u.oneCell' = true) : ∀ {l : List SV} {vs : List Value}, relL ρ l vs → relL (pullR σ ρ) (l.map (pullS σ)) vs
  | [], [], _ => trivial
  | _ :: _, _ :: _, h => ⟨relS_pull hw h.1, relL_pull hw h.2⟩
  | [], _ :: _, h => h.elim
  | _ :: _, [], h => h.elim

theorem relI_pull (hw : ∀ (c b : Nat) (u : Value), ρ[c]? = some (Pl.obj b u) → u.oneCell' = true) {x : IV} {v : Value} (h : relI ρ x v) : relI (pullR σ ρ) (pullI σ x) v := by
  cases x with
  | s x => exact relS_pull (x := x) hw h
  | a l => obtain ⟨cs, e, hr⟩ := h; exact ⟨cs, e, relL_pull hw hr⟩
  | t l => trivial
  | j => trivial
theorem relA_pull (hw : ∀ (c b : Nat) (u : Value), ρ[c]? = some (Pl.obj b u) → u.oneCell' = true) : ∀ {l : List IV} {vs : List Value}, relA ρ l vs → relA (pullR σ ρ) (l.map (pullI σ)) vs
  | [], [], _ => trivial
  | _ :: _, _ :: _, h => ⟨relI_pull hw h.1, relA_pull hw h.2⟩
  | [], _ :: _, h => h.elim
  | _ :: _, [], h => h.elim

theorem sat_pull {w : World} {l : Pl} {ch : Chunk} (hw : ∀ (c b : Nat) (u : Value), ρ[c]? = some (Pl.obj b u) → u.oneCell' = true) (h : SatC ρ w l ch) : SatC (pullR σ ρ) w l (roC σ ch) := by
  cases ch with
  | rows own sz els =>
    rcases h with ⟨h1, h2⟩ | ⟨b, base, lim, cells, T, lo, hi, h1, h2, h3, h4, h5, h6, h7, h8⟩
    · subst h2; exact .inl ⟨h1, rfl⟩
    · refine .inr ⟨b, base, lim, cells, T, lo, hi, h1, h2, h3, by simpa using h4, h5, (fun h => by cases h), (fun h => by cases h), ?_⟩
      intro i row hrow
      rw [List.getElem?_map] at hrow
      cases hr : els[i]? with
      | none => rw [hr] at hrow; cases hrow
      | some r0 =>
        rw [hr] at hrow; simp at hrow; subst hrow
        obtain ⟨hl, hrel⟩ := h8 i r0 hr
        refine ⟨by simpa using hl, fun o x hx => ?_⟩
        rw [List.getElem?_map] at hx
        cases hx0 : r0[o]? with
        | none => rw [hx0] at hx; cases hx
        | some x0 =>
          rw [hx0] at hx; simp at hx; subst hx
          obtain ⟨v, hv, hs⟩ := hrel o x0 hx0
          exact ⟨v, hv, relS_pull hw hs⟩
  | map _ _ => trivial
  | iter _ _ _ _ => trivial
  | clo _ _ _ => trivial
  | gone => trivial

theorem roC_owned {ch : Chunk} : (roC σ ch).owned = false := by cases ch <;> rfl

theorem Inv.pull {H : Heap} {w : World} (h : Inv X ρ H w) (σ : List Nat) : Inv (ctx0 w) (pullR σ ρ) (pullH σ H) w := by
  have hw := h.obj1
  have hsat : ∀ (c : Nat) (ch : Chunk), (pullH σ H)[c]? = some ch → ∃ l : Pl, (pullR σ ρ)[c]? = some l ∧ SatC (pullR σ ρ) w l ch := by
    intro k ch hk
    simp only [pullH, List.getElem?_map] at hk
    cases hc : σ[k]? with
    | none => rw [hc] at hk; cases hk
    | some c =>
      rw [hc] at hk; simp at hk; subst hk
      refine ⟨(ρ[c]?).getD .void, by simp [pullR, hc], ?_⟩
      cases hH : H[c]? with
      | none => trivial
      | some ch =>
        obtain ⟨l, hl, hs⟩ := h.sat c ch hH
        rw [hl]; exact sat_pull hw hs
  have hown : ∀ (c : Nat) (ch : Chunk), (pullH σ H)[c]? = some ch → ch.owned = false := by
    intro k ch hk
    simp only [pullH, List.getElem?_map] at hk
    cases hc : σ[k]? with
    | none => rw [hc] at hk; cases hk
    | some c => rw [hc] at hk; simp at hk; subst hk; exact roC_owned
  refine ⟨rfl, rfl, rfl, Nat.le_refl _, Nat.le_refl _, fun _ _ _ => rfl, by simp [pullR, pullH], ?_, hsat, ?_, ?_, ?_⟩
  · intro k b u hk
    simp only [pullR, List.getElem?_map] at hk
    cases hc : σ[k]? with
    | none => rw [hc] at hk; cases hk
    | some c =>
      rw [hc] at hk; simp at hk
      cases hr : ρ[c]? with
      | none => rw [hr] at hk; cases hk
      | some l => rw [hr] at hk; simp at hk; subst hk; exact hw _ _ _ hr
  · intro c ch l b hc ho; rw [hown c ch hc] at ho; cases ho
  · intro c sz els l b hc hl hb
    obtain ⟨l', hl', hs⟩ := hsat c _ hc
    rw [hl] at hl'; cases hl'
    refine ⟨?_, fun h => h⟩
    rcases hs with ⟨rfl, _⟩ | ⟨b', base, lim, cells, T, lo, hi, rfl, h2, _⟩
    · cases hb
    · simp only [Pl.blk, Option.some.injEq] at hb
      subst hb
      exact (Array.getElem?_eq_some_iff.1 h2).1
  · intro c d ch dh l m b _ hc _ ho; rw [hown c ch hc] at ho; cases ho

/-- A function's contract, if it only reckons and reads: the result for these arguments, over these chunks; of what was there nothing is turned. -/
def FunR (P : Program) (f : FuncId) (H0 : Heap) (args : List IV) (r : IV) : Prop :=
  enters P f = true ∧ ∀ w ρ vs, Inv (ctx0 w) ρ H0 w → relA ρ args vs → Calls P f vs.toArray w fun e w' => ∃ v, e = .returned v ∧ relI [] r v ∧ BelowD w.heap.size w w'

theorem funR_of {f : FuncId} {H0 : Heap} {args : List IV} {r : IV} (hr : rawI r = true) (h : ∀ X, callK P X f args (fun r' _ => r' = r) H0) : FunR P f H0 args r := by
  refine ⟨(h (ctx0 default)).1, fun w ρ vs hi ha => ((h (ctx0 w)).2 ρ vs w ha hi).mono ?_⟩
  rintro e w' ⟨v, r', H', ρ', rfl, rfl, hrel, _, hi⟩
  exact ⟨v, rfl, rawI_rel hr hrel, ⟨hi.os, hi.tape, hi.output, hi.size, fun k hk => hi.old k hk (fun h => h)⟩, hi.drawn⟩

theorem callK_funR {f : FuncId} {args : List IV} {r : IV} {k : IV → Heap → Prop} {H : Heap} (σ : List Nat) (h : FunR P f (pullH σ H) (args.map (pullI σ)) r) (hr : rawI r = true) (hk : k r H) : callK P X f args k H := by
  refine ⟨h.1, fun ρ vs w hargs hi => (h.2 w _ vs (hi.pull σ) (relA_pull hi.obj1 hargs)).mono ?_⟩
  rintro e w' ⟨v, rfl, hrel, hb⟩
  exact ⟨v, r, H, ρ, rfl, hk, rawI_rel hr hrel, Le.refl _, hi.below hb⟩

theorem pullS_raw {x : SV} (h : rawS x = true) : pullS σ x = x := by cases x <;> first | rfl | cases h
theorem pullL_raw : ∀ {l : List SV}, rawL l = true → l.map (pullS σ) = l
  | [], _ => rfl
  | x :: l, h => by
    simp only [rawL, Bool.and_eq_true] at h
    rw [List.map_cons, pullS_raw h.1, pullL_raw h.2]
theorem pullT_raw : ∀ {l : List IV}, rawT l = true → l.map (pullI σ) = l
  | [], _ => rfl
  | x :: l, h => by
    simp only [rawT, Bool.and_eq_true] at h
    rw [List.map_cons, pullT_raw h.2]
    cases x with
    | s x => rw [pullI, pullS_raw h.1]
    | a l => rw [pullI, pullL_raw h.1]
    | t l => cases h.1
    | j => cases h.1
theorem Fun.toR {f : FuncId} {args : List IV} {r : IV} (h : Fun P f args r) (ha : rawT args = true) : FunR P f [] args r :=
  ⟨h.1, fun w _ vs _ hr => h.2 w vs (rawA_rel ha hr)⟩
end
end Go.Ev

/- The frame rule: what a call does to some chunks, seen alone, it does to them in any heap. -/
namespace Go.Ev
open Go.RowKit

def mapC (f : SV → SV) (g : IV → IV) : Chunk → Chunk
  | .rows own sz els => .rows own sz (els.map fun r => r.map f)
  | .map k es => .map k (es.map fun p => (g p.1, g p.2.1, p.2.2))
  | .iter x s n t => .iter (f x) s n t
  | .clo fn a c => .clo fn (a.map g) (c.map g)
  | .gone => .gone
/-- Some chunks, seen alone: such as are read, then such as are written too. -/
def pullHW (σr σw : List Nat) (H : Heap) : Heap :=
  (σr.map fun c => roC (σr ++ σw) ((H[c]?).getD .gone)) ++ σw.map fun c => mapC (pullS (σr ++ σw)) (pullI (σr ++ σw)) ((H[c]?).getD .gone)

def pushS (σ : List Nat) : SV → SV
  | .raw v => .raw v
  | .ptr c i o => match σ[c]? with
    | some k => .ptr k i o
    | none => .junk
  | .slice c s n => match σ[c]? with
    | some k => .slice k s n
    | none => .junk
  | .ref c => match σ[c]? with
    | some k => .ref k
    | none => .junk
  | .sub c i o k n => match σ[c]? with
    | some j => .sub j i o k n
    | none => .junk
  | .junk => .junk
def push1 (σ : List Nat) : IV → IV
  | .s x => .s (pushS σ x)
  | .a l => .a (l.map (pushS σ))
  | _ => .j
def pushI (σ : List Nat) : IV → IV
  | .t l => .t (l.map (push1 σ))
  | x => push1 σ x
/-- A chunk seen from outside; a new one that is only read is let go. -/
def pushC (σ : List Nat) : Chunk → Chunk
  | .rows false _ _ => .gone
  | ch => mapC (pushS σ) (push1 σ) ch

section
variable {P : Program} {X : Ctx} {ρ ρ' : Ren} {w : World} {l : Pl}

/-- A renaming of values that keeps what they stand for. -/
structure Mv (ρ ρ' : Ren) (f : SV → SV) (g : IV → IV) : Prop where
  s : ∀ x v, relS ρ x v → relS ρ' (f x) v
  c : ∀ x v, relC ρ x v → relC ρ' (g x) v

theorem relL_map {f : SV → SV} (hf : ∀ x v, relS ρ x v → relS ρ' (f x) v) : ∀ {l : List SV} {vs : List Value}, relL ρ l vs → relL ρ' (l.map f) vs
  | [], [], _ => trivial
  | _ :: _, _ :: _, h => ⟨hf _ _ h.1, relL_map hf h.2⟩
  | [], _ :: _, h => h.elim
  | _ :: _, [], h => h.elim
theorem relT_map {g : IV → IV} (hg : ∀ x v, relC ρ x v → relC ρ' (g x) v) : ∀ {l : List IV} {vs : List Value}, relT ρ l vs → relT ρ' (l.map g) vs
  | [], [], _ => trivial
  | _ :: _, _ :: _, h => ⟨hg _ _ h.1, relT_map hg h.2⟩
  | [], _ :: _, h => h.elim
  | _ :: _, [], h => h.elim
theorem rowsAt_map {f : SV → SV} {cells : Array Value} {base sz : Nat} {els : List (List SV)} (hf : ∀ x v, relS ρ x v → relS ρ' (f x) v) (h : rowsAt ρ cells base sz els) : rowsAt ρ' cells base sz (els.map fun r => r.map f) := by
  intro i row hrow
  rw [List.getElem?_map] at hrow
  cases hr : els[i]? with
  | none => rw [hr] at hrow; cases hrow
  | some r0 =>
    rw [hr] at hrow; simp at hrow; subst hrow
    obtain ⟨hl, hrel⟩ := h i r0 hr
    refine ⟨by simpa using hl, fun o x hx => ?_⟩
    rw [List.getElem?_map] at hx
    cases hx0 : r0[o]? with
    | none => rw [hx0] at hx; cases hx
    | some x0 =>
      rw [hx0] at hx; simp at hx; subst hx
      obtain ⟨v, hv, hs⟩ := hrel o x0 hx0
      exact ⟨v, hv, hf _ _ hs⟩
theorem relM_map {g : IV → IV} (hg : ∀ x v, relC ρ x v → relC ρ' (g x) v) : ∀ {l : List (IV × IV × Nat)} {es : List MapEntry}, relM ρ l es → relM ρ' (l.map fun p => (g p.1, g p.2.1, p.2.2)) es
  | [], [], _ => trivial
  | _ :: _, _ :: _, h => ⟨hg _ _ h.1, hg _ _ h.2.1, h.2.2.1, relM_map hg h.2.2.2⟩
  | [], _ :: _, h => h.elim
  | _ :: _, [], h => h.elim
theorem sat_map {f : SV → SV} {g : IV → IV} {ch : Chunk} (m : Mv ρ ρ' f g) (h : SatC ρ w l ch) : SatC ρ' w l (mapC f g ch) := by
  cases ch with
  | rows own sz els =>
    rcases h with ⟨h1, h2⟩ | ⟨b, base, lim, cells, T, lo, hi, h1, h2, h3, h4, h5, h6, h7, h8⟩
    · subst h2; exact .inl ⟨h1, rfl⟩
    · exact .inr ⟨b, base, lim, cells, T, lo, hi, h1, h2, h3, by simpa using h4, h5, h6, h7, rowsAt_map m.s h8⟩
  | map clock es =>
    obtain ⟨b, ents, h1, h2, ⟨q, h3, h4⟩, h5, h6⟩ := h
    refine ⟨b, ents, h1, h2, ⟨_, h3.map _, relM_map m.c h4⟩, fun e he => ?_, ?_⟩
    · obtain ⟨e0, he0, rfl⟩ := List.mem_map.1 he
      exact h5 e0 he0
    · rw [List.map_map]; exact h6
  | iter x since seen stepped =>
    obtain ⟨b, mo, h1, h2, h3⟩ := h
    exact ⟨b, mo, h1, h2, m.s _ _ h3⟩
  | clo fn a c =>
    obtain ⟨f', c', h1, h2, h3⟩ := h
    exact ⟨f', c', h1, relT_map m.c h2, relT_map m.c h3⟩
  | gone => trivial

theorem owned_map {f : SV → SV} {g : IV → IV} {ch : Chunk} : (mapC f g ch).owned = ch.owned := by cases ch <;> rfl

theorem pull_mv {σ : List Nat} (hw : ∀ (c b : Nat) (u : Value), ρ[c]? = some (Pl.obj b u) → u.oneCell' = true) : Mv ρ (pullR σ ρ) (pullS σ) (pullI σ) :=
  ⟨fun _ _ h => relS_pull hw h, fun x v h => by
    cases x with
    | s x => exact relS_pull (x := x) hw h
    | a l => obtain ⟨cs, e, hr⟩ := h; exact ⟨cs, e, relL_pull hw hr⟩
    | t l => exact h.elim
    | j => trivial⟩

theorem relS_push {σ : List Nat} (hρ : ∀ (k c : Nat) (l : Pl), σ[k]? = some c → ρ[k]? = some l → l ≠ .void → ρ'[c]? = some l)
    (hw : ∀ (c b : Nat) (u : Value), ρ[c]? = some (Pl.obj b u) → u.oneCell' = true) {x : SV} {v : Value} (h : relS ρ x v) : relS ρ' (pushS σ x) v := by
  have h1 := relS_one h hw
  cases x with
  | raw _ => exact h
  | ptr c i o =>
    simp only [pushS]
    split
    · rename_i k hk
      obtain ⟨b, base, sz, lim, hc, hx⟩ := h; exact ⟨b, base, sz, lim, hρ _ _ _ hk hc (by simp), hx⟩
    · exact h1
  | slice c s n =>
    simp only [pushS]
    split
    · rename_i k hk
      rcases h with ⟨hc, h⟩ | ⟨b, base, sz, lim, cap, hc, h⟩ | ⟨b, base, sz, lim, off, hc, h⟩
      · exact .inl ⟨hρ _ _ _ hk hc (by simp), h⟩
      · exact .inr (.inl ⟨b, base, sz, lim, cap, hρ _ _ _ hk hc (by simp), h⟩)
      · exact .inr (.inr ⟨b, base, sz, lim, off, hρ _ _ _ hk hc (by simp), h⟩)
    · exact h1
  | ref c =>
    simp only [pushS]
    split
    · rename_i k hk
      rcases h with ⟨b, h⟩ | ⟨h, h2⟩
      · exact .inl ⟨b, hρ _ _ _ hk h (by simp)⟩
      · exact .inr ⟨hρ _ _ _ hk h (by simp), h2⟩
    · exact h1
  | sub c i o k n =>
    simp only [pushS]
    split
    · rename_i j hj
      rcases h with ⟨b, base, sz, lim, cap, hc, h⟩ | ⟨b, base, sz, lim, off, hc, h⟩
      · exact .inl ⟨b, base, sz, lim, cap, hρ _ _ _ hj hc (by simp), h⟩
      · exact .inr ⟨b, base, sz, lim, off, hρ _ _ _ hj hc (by simp), h⟩
    · exact h1
  | junk => exact h

theorem push_mv {σ : List Nat} (hρ : ∀ (k c : Nat) (l : Pl), σ[k]? = some c → ρ[k]? = some l → l ≠ .void → ρ'[c]? = some l)
    (hw : ∀ (c b : Nat) (u : Value), ρ[c]? = some (Pl.obj b u) → u.oneCell' = true) : Mv ρ ρ' (pushS σ) (push1 σ) :=
  ⟨fun _ _ h => relS_push hρ hw h, fun x v h => by
    cases x with
    | s x => exact relS_push (x := x) hρ hw h
    | a l => obtain ⟨cs, e, hr⟩ := h; exact ⟨cs, e, relL_map (fun _ _ h => relS_push hρ hw h) hr⟩
    | t l => exact h.elim
    | j => trivial⟩

theorem relI_push {σ : List Nat} (m : Mv ρ ρ' (pushS σ) (push1 σ)) {x : IV} {v : Value} (h : relI ρ x v) : relI ρ' (pushI σ x) v := by
  cases x with
  | s x => exact m.c (.s x) v h
  | a l => exact m.c (.a l) v h
  | t l => obtain ⟨vs, e, hr⟩ := h; exact ⟨vs, e, relT_map m.c hr⟩
  | j => trivial

theorem sat_notvoid {ch : Chunk} (h : SatC ρ w l ch) (hg : ch ≠ .gone) : l ≠ .void := by
  rintro rfl
  cases ch with
  | rows own sz els => rcases h with ⟨h, _⟩ | ⟨_, _, _, _, _, _, _, h, _⟩ <;> cases h
  | map _ es => obtain ⟨_, _, h, _⟩ := h; cases h
  | iter _ _ _ _ => obtain ⟨_, _, h, _⟩ := h; cases h
  | clo fn a c => obtain ⟨_, _, h, _⟩ := h; cases h
  | gone => exact hg rfl

/-- The blocks of the chunks that may be written. -/
def FW (ρ : Ren) (H : Heap) (σw : List Nat) (b : Nat) : Prop := ∃ c ∈ σw, ∃ ch l, H[c]? = some ch ∧ ch.owned = true ∧ ρ[c]? = some l ∧ l.blk = some b

theorem FW_lt {H : Heap} (h : Inv X ρ H w) {σw : List Nat} {b : Nat} (hb : FW ρ H σw b) : X.F0 b ∨ X.w0.heap.size ≤ b := by
  obtain ⟨c, _, ch, l, h1, h2, h3, h4⟩ := hb
  exact h.own c ch l b h1 h2 h3 h4

theorem FW_no {H : Heap} (h : Inv X ρ H w) {σw : List Nat} {b c : Nat} {ch : Chunk} {l : Pl} (hc : H[c]? = some ch) (hl : ρ[c]? = some l) (hb : l.blk = some b) (ho : ch.owned = true ∨ ∃ sz els, ch = .rows false sz els) (hn : c ∉ σw) : ¬ FW ρ H σw b := by
  intro hF
  rcases ho with ho | ⟨sz, els, rfl⟩
  · obtain ⟨d, hd, dh, m, h1, h2, h3, h4⟩ := hF
    exact h.apart c d ch dh l m b (fun e => hn (e ▸ hd)) hc h1 ho h2 hl h3 hb h4
  · have h1 := h.ro c sz els l b hc hl hb
    rcases FW_lt h hF with h2 | h2
    · exact h1.2 h2
    · omega

theorem nodup_get {σ : List Nat} (h : σ.Nodup) {i j c : Nat} (hi : σ[i]? = some c) (hj : σ[j]? = some c) : i = j :=
  (List.getElem?_inj (List.getElem?_eq_some_iff.1 hi).1 h).1 (hi.trans hj.symm)

theorem pullR_at {σ : List Nat} {k c : Nat} {l : Pl} (hk : σ[k]? = some c) (hl : ρ[c]? = some l) : (pullR σ ρ)[k]? = some l := by
  simp only [pullR, List.getElem?_map, hk, hl, Option.map_some, Option.getD_some]

theorem pullHW_get {σr σw : List Nat} {H : Heap} {k : Nat} {x : Chunk} (h : (pullHW σr σw H)[k]? = some x) :
    ∃ c, (σr ++ σw)[k]? = some c ∧ ((k < σr.length ∧ c ∈ σr ∧ x = roC (σr ++ σw) ((H[c]?).getD .gone)) ∨ (σr.length ≤ k ∧ c ∈ σw ∧ x = mapC (pullS (σr ++ σw)) (pullI (σr ++ σw)) ((H[c]?).getD .gone))) := by
  unfold pullHW at h
  by_cases hk : k < σr.length
  · rw [List.getElem?_append_left (by simpa using hk), List.getElem?_map] at h
    rw [List.getElem?_append_left hk]
    cases hc : σr[k]? with
    | none => rw [hc] at h; cases h
    | some c => rw [hc] at h; simp at h; exact ⟨c, rfl, .inl ⟨hk, List.mem_of_getElem? hc, h.symm⟩⟩
  · rw [List.getElem?_append_right (by simpa using hk), List.getElem?_map] at h
    rw [List.getElem?_append_right (by omega)]
    simp only [List.length_map] at h
    cases hc : σw[k - σr.length]? with
    | none => rw [hc] at h; cases h
    | some c => rw [hc] at h; simp at h; exact ⟨c, rfl, .inr ⟨by omega, List.mem_of_getElem? hc, h.symm⟩⟩

/-- The chunks, seen alone, as a world of their own. -/
theorem Inv.part {H : Heap} (h : Inv X ρ H w) {σr σw : List Nat} (hnd : (σr ++ σw).Nodup) (hin : ∀ c ∈ σr ++ σw, ∃ ch, H[c]? = some ch ∧ ch ≠ .gone) :
    Inv ⟨w, FW ρ H σw, 0, [], none, fun _ _ _ => False⟩ (pullR (σr ++ σw) ρ) (pullHW σr σw H) w := by
  have hw := h.obj1
  have look : ∀ {k c : Nat} {l : Pl}, (σr ++ σw)[k]? = some c → (pullR (σr ++ σw) ρ)[k]? = some l → ρ[c]? = some l := by
    intro k c l hk hl
    obtain ⟨ch, hch, _⟩ := hin c (List.mem_of_getElem? hk)
    obtain ⟨l', hl', _⟩ := h.sat c ch hch
    rw [pullR_at hk hl'] at hl
    rw [hl', hl]
  have apartRW : ∀ c, c ∈ σr → c ∉ σw := fun c h1 h2 => (List.nodup_append.1 hnd).2.2 c h1 c h2 rfl
  refine ⟨rfl, rfl, rfl, Nat.le_refl _, Nat.le_refl _, fun _ _ _ => rfl, by simp [pullR, pullHW], ?_, ?_, ?_, ?_, ?_⟩
  · intro k b u hk
    simp only [pullR, List.getElem?_map] at hk
    cases hc : (σr ++ σw)[k]? with
    | none => rw [hc] at hk; cases hk
    | some c =>
      rw [hc] at hk; simp at hk
      cases hr : ρ[c]? with
      | none => rw [hr] at hk; cases hk
      | some l => rw [hr] at hk; simp at hk; subst hk; exact hw _ _ _ hr
  · intro k x hk
    obtain ⟨c, hc, hx⟩ := pullHW_get hk
    obtain ⟨ch, hch, _⟩ := hin c (List.mem_of_getElem? hc)
    obtain ⟨l, hl, hs⟩ := h.sat c ch hch
    refine ⟨l, pullR_at hc hl, ?_⟩
    rw [hch] at hx
    rcases hx with ⟨_, _, rfl⟩ | ⟨_, _, rfl⟩
    · exact sat_pull hw hs
    · exact sat_map (pull_mv hw) hs
  · intro k x l b hk ho hl hb
    obtain ⟨c, hc, hx⟩ := pullHW_get hk
    obtain ⟨ch, hch, _⟩ := hin c (List.mem_of_getElem? hc)
    rw [hch] at hx
    rcases hx with ⟨_, _, rfl⟩ | ⟨_, hcw, rfl⟩
    · rw [roC_owned] at ho; cases ho
    · simp only [Option.getD_some, owned_map] at ho
      exact .inl ⟨c, hcw, ch, l, hch, ho, look hc hl, hb⟩
  · intro k sz els l b hk hl hb
    obtain ⟨c, hc, hx⟩ := pullHW_get hk
    obtain ⟨ch, hch, _⟩ := hin c (List.mem_of_getElem? hc)
    have hl' := look hc hl
    obtain ⟨l2, hl2, hs⟩ := h.sat c ch hch
    rw [hl'] at hl2; cases hl2
    rw [hch] at hx
    have hrows : ∃ o els', ch = .rows o sz els' := by
      rcases hx with ⟨_, _, hx⟩ | ⟨_, _, hx⟩
      · cases ch <;> simp [roC] at hx; exact ⟨_, _, by rw [hx.1]⟩
      · cases ch <;> simp [mapC] at hx; exact ⟨_, _, by rw [hx.2.1]⟩
    obtain ⟨o, els', rfl⟩ := hrows
    have hkind : (Chunk.rows o sz els').owned = true ∨ ∃ sz' els'', Chunk.rows o sz els' = .rows false sz' els'' := by cases o <;> simp [Chunk.owned]
    refine ⟨hs.blk_lt hkind hb, ?_⟩
    rcases hx with ⟨_, hcr, _⟩ | ⟨_, hcw, hx⟩
    · exact FW_no h hch hl' hb hkind (apartRW c hcr)
    · simp [mapC] at hx
      obtain ⟨rfl, _⟩ := hx
      intro hF
      have h1 := h.ro c sz els' l b hch hl' hb
      rcases FW_lt h hF with h2 | h2
      · exact h1.2 h2
      · omega
  · intro k d x y l m b hkd hk hd hox hoy hl hm hb hmb
    obtain ⟨c, hc, hx⟩ := pullHW_get hk
    obtain ⟨e, he, hy⟩ := pullHW_get hd
    obtain ⟨ch, hch, _⟩ := hin c (List.mem_of_getElem? hc)
    obtain ⟨eh, heh, _⟩ := hin e (List.mem_of_getElem? he)
    rw [hch] at hx
    rw [heh] at hy
    rcases hx with ⟨_, _, rfl⟩ | ⟨_, _, rfl⟩
    · rw [roC_owned] at hox; cases hox
    · rcases hy with ⟨_, _, rfl⟩ | ⟨_, _, rfl⟩
      · rw [roC_owned] at hoy; cases hoy
      · simp only [Option.getD_some, owned_map] at hox hoy
        refine h.apart c e ch eh l m b (fun hce => hkd ?_) hch heh hox hoy (look hc hl) (look he hm) hb hmb
        subst hce
        exact nodup_get hnd hc he

/-! #### back again -/
/-- Many places set. -/
def setL {α : Type} : List α → List Nat → List α → List α
  | l, c :: cs, x :: xs => setL (l.set c x) cs xs
  | l, _, _ => l
theorem setL_len {α : Type} : ∀ {cs : List Nat} {xs : List α} {l : List α}, (setL l cs xs).length = l.length
  | [], _, _ => by simp [setL]
  | c :: cs, [], _ => by simp [setL]
  | c :: cs, x :: xs, l => by rw [setL, setL_len]; simp
theorem setL_out {α : Type} : ∀ {cs : List Nat} {xs : List α} {l : List α} {k : Nat}, k ∉ cs → (setL l cs xs)[k]? = l[k]?
  | [], _, _, _, _ => by simp [setL]
  | c :: cs, [], _, _, _ => by simp [setL]
  | c :: cs, x :: xs, l, k, h => by
    simp only [List.mem_cons, not_or] at h
    rw [setL, setL_out h.2, List.getElem?_set_ne (Ne.symm h.1)]
theorem setL_in {α : Type} : ∀ {cs : List Nat} {xs : List α} {l : List α} {j c : Nat} {x : α}, cs.Nodup → cs[j]? = some c → xs[j]? = some x → c < l.length → (setL l cs xs)[c]? = some x
  | [], _, _, _, _, _, _, h, _, _ => by simp at h
  | c :: cs, [], _, _, _, _, _, _, h, _ => by simp at h
  | c :: cs, x :: xs, l, 0, c', x', hn, hc, hx, hl => by
    simp at hc hx; subst hc; subst hx
    rw [setL, setL_out (List.nodup_cons.1 hn).1, List.getElem?_set_self hl]
  | c :: cs, x :: xs, l, j + 1, c', x', hn, hc, hx, hl => by
    rw [setL]
    exact setL_in (List.nodup_cons.1 hn).2 (by simpa using hc) (by simpa using hx) (by simpa using hl)

theorem upd_setL : ∀ {cs : List Nat} {xs : List Chunk} {H : Heap}, (∀ c ∈ cs, c < H.length) → upd H (cs.zip xs) = setL H cs xs
  | [], _, _, _ => by simp [setL, upd]
  | c :: cs, [], _, _ => by simp [setL, upd]
  | c :: cs, x :: xs, H, h => by
    have hc := h c (by simp)
    have e : up1 H c x = H.set c x := by unfold up1; rw [if_neg (by omega)]
    rw [List.zip_cons_cons, upd, setL, e]
    exact upd_setL (by simpa using fun c hc => h c (by simp [hc]))

/-- What the call left of the chunks, put back; the first of the new ones go to places that were kept. -/
theorem inv_back {H : Heap} (h : Inv X ρ H w) {σr σw τ : List Nat} (hnd : (σr ++ σw ++ τ).Nodup) (hin : ∀ c ∈ σr ++ σw, ∃ ch, H[c]? = some ch ∧ ch ≠ .gone) (hτ : ∀ c ∈ τ, H[c]? = some .gone ∧ ρ[c]? = some .void)
    {ρ0 : Ren} {Hr Hn : Heap} {w' : World} (hle : Le (pullR (σr ++ σw) ρ) ρ0) (hHr : Hr.length = σr.length) (hHn : σw.length + τ.length ≤ Hn.length) (hi : Inv ⟨w, FW ρ H σw, 0, [], none, fun _ _ _ => False⟩ ρ0 (Hr ++ Hn) w') :
    ∃ ρ', Le ρ ρ' ∧ VK ρ ρ' ((σw ++ τ).zip (Hn.map (pushC (σr ++ σw ++ τ)))) ∧ Mv ρ0 ρ' (pushS (σr ++ σw ++ τ)) (push1 (σr ++ σw ++ τ)) ∧ Inv X ρ' (upd H ((σw ++ τ).zip (Hn.map (pushC (σr ++ σw ++ τ))))) w' := by
  have hnd1 : (σr ++ σw).Nodup := (List.nodup_append.1 hnd).1
  have hndτ : τ.Nodup := (List.nodup_append.1 hnd).2.1
  have hndw : (σw ++ τ).Nodup := by
    rw [List.append_assoc] at hnd; exact (List.nodup_append.1 hnd).2.1
  have hlen := h.len
  have hwin : ∀ c ∈ σr ++ σw, c < H.length := fun c hc => let ⟨ch, h1, _⟩ := hin c hc; (List.getElem?_eq_some_iff.1 h1).1
  have hτin : ∀ c ∈ τ, c < H.length := fun c hc => (List.getElem?_eq_some_iff.1 (hτ c hc).1).1
  have hallin : ∀ c ∈ σw ++ τ, c < H.length := fun c hc => by
    rcases List.mem_append.1 hc with h1 | h1
    · exact hwin c (List.mem_append.2 (.inr h1))
    · exact hτin c h1
  have hl0 : ρ0.length = σr.length + Hn.length := by rw [hi.len]; simp [hHr]
  -- the new renaming
  let ρ' : Ren := setL ρ τ (ρ0.drop (σr ++ σw).length)
  have ρout : ∀ c, c ∉ τ → ρ'[c]? = ρ[c]? := fun c hc => setL_out hc
  have hle' : Le ρ ρ' := ⟨by rw [setL_len]; exact Nat.le_refl _, fun c l hc hl => by
    by_cases e : c ∈ τ
    · rw [(hτ c e).2] at hc; cases hc; exact absurd rfl hl
    · rw [ρout c e]; exact hc⟩
  -- each place of the small world is the same place in the big one
  have place : ∀ (k c : Nat) (l : Pl), (σr ++ σw ++ τ)[k]? = some c → ρ0[k]? = some l → ρ'[c]? = some l := by
    intro k c l hk hl
    by_cases hk1 : k < (σr ++ σw).length
    · rw [List.getElem?_append_left hk1] at hk
      have hc := List.mem_of_getElem? hk
      obtain ⟨ch, hch, hg⟩ := hin c hc
      obtain ⟨m, hm, hs⟩ := h.sat c ch hch
      have hm0 := hle.get k m (pullR_at hk hm) (sat_notvoid hs hg)
      rw [hl] at hm0; cases hm0
      rw [ρout c (fun hc2 => (List.nodup_append.1 hnd).2.2 c hc c hc2 rfl)]; exact hm
    · rw [List.getElem?_append_right (by omega)] at hk
      refine setL_in hndτ hk ?_ (by rw [hlen]; exact hτin c (List.mem_of_getElem? hk))
      rw [List.getElem?_drop, show (σr ++ σw).length + (k - (σr ++ σw).length) = k by omega]; exact hl
  have mv : Mv ρ0 ρ' (pushS (σr ++ σw ++ τ)) (push1 (σr ++ σw ++ τ)) := push_mv (fun k c l hk hl _ => place k c l hk hl) hi.obj1
  -- the new heap
  have eH : upd H ((σw ++ τ).zip (Hn.map (pushC (σr ++ σw ++ τ)))) = setL H (σw ++ τ) (Hn.map (pushC (σr ++ σw ++ τ))) := upd_setL hallin
  have get_out : ∀ c, c ∉ σw ++ τ → (upd H ((σw ++ τ).zip (Hn.map (pushC (σr ++ σw ++ τ)))))[c]? = H[c]? := fun c hc => by rw [eH]; exact setL_out hc
  -- what stands at a place that was written
  have get_in : ∀ c, c ∈ σw ++ τ → ∃ (k : Nat) (y : Chunk) (l : Pl), (σr ++ σw ++ τ)[k]? = some c ∧ (Hr ++ Hn)[k]? = some y ∧ ρ0[k]? = some l ∧ ρ'[c]? = some l ∧ σr.length ≤ k ∧
      (upd H ((σw ++ τ).zip (Hn.map (pushC (σr ++ σw ++ τ)))))[c]? = some (pushC (σr ++ σw ++ τ) y) := by
    intro c hc
    obtain ⟨j, hj⟩ := List.mem_iff_getElem?.1 hc
    have hjl := (List.getElem?_eq_some_iff.1 hj).1
    rw [List.length_append] at hjl
    have hjn : j < Hn.length := by omega
    have hk : (σr ++ σw ++ τ)[σr.length + j]? = some c := by
      rw [List.append_assoc, List.getElem?_append_right (by omega), Nat.add_sub_cancel_left]; exact hj
    have hlt : σr.length + j < ρ0.length := by omega
    refine ⟨σr.length + j, Hn[j], ρ0[σr.length + j], hk, ?_, List.getElem?_eq_getElem hlt, place _ _ _ hk (List.getElem?_eq_getElem hlt), by omega, ?_⟩
    · rw [List.getElem?_append_right (by omega), hHr, Nat.add_sub_cancel_left]; exact List.getElem?_eq_getElem hjn
    · rw [eH]
      exact setL_in hndw hj (by rw [List.getElem?_map, List.getElem?_eq_getElem hjn]; rfl) (hallin c hc)
  have pushOwned : ∀ {y : Chunk}, (pushC (σr ++ σw ++ τ) y).owned = true → y.owned = true := fun {y} ho => by
    cases y with
    | rows o sz els => cases o <;> simp_all [pushC, mapC, Chunk.owned]
    | map _ es => rfl
    | iter _ _ _ _ => rfl
    | clo _ _ _ => simp [pushC, mapC, Chunk.owned] at ho
    | gone => simp [pushC, mapC, Chunk.owned] at ho
  -- a chunk that the call could not reach is as it was
  have keep : ∀ {c : Nat} {ch : Chunk} {l : Pl}, c ∉ σw → H[c]? = some ch → ρ[c]? = some l → SatC ρ w l ch → SatC ρ' w' l ch := by
    intro c ch l hc hch hl hs
    have blk : (ch.owned = true ∨ ∃ sz els, ch = .rows false sz els) → ∀ b, l.blk = some b → w'.heap[b]? = w.heap[b]? := fun hk b hb =>
      hi.old b (hs.blk_lt hk hb) (FW_no h hch hl hb hk hc)
    cases ch with
    | clo fn f c' => obtain ⟨f', c'', rfl, h1, h2⟩ := hs; exact ⟨f', c'', rfl, h1.pre hle', h2.pre hle'⟩
    | gone => trivial
    | rows o sz els => exact hs.ext hle' (blk (by cases o <;> simp [Chunk.owned]))
    | map _ es => exact hs.ext hle' (blk (.inl rfl))
    | iter _ _ _ _ => exact hs.ext hle' (blk (.inl rfl))
  have oldPl : ∀ {c : Nat} {l : Pl}, c ∉ τ → ρ'[c]? = some l → ρ[c]? = some l := fun hc hl => by rw [ρout _ hc] at hl; exact hl
  refine ⟨ρ', hle', fun c hv hc => ?_, mv, hi.os.trans h.os, hi.tape.trans h.tape, hi.output.trans h.output, Nat.le_trans h.drawn hi.drawn, Nat.le_trans h.size hi.size, fun b hb hF => ?_, ?_, ?_, ?_, ?_, ?_, ?_⟩
  · refine (ρout c fun hc2 => hc ?_).trans hv
    have hz : ((σw ++ τ).zip (Hn.map (pushC (σr ++ σw ++ τ)))).map (·.1) = σw ++ τ := by
      rw [List.map_fst_zip]; simp; omega
    rw [hz]; exact List.mem_append.2 (.inr hc2)
  · have hbw : b < w.heap.size := Nat.lt_of_lt_of_le hb h.size
    rw [hi.old b hbw fun hFW => ?_]
    · exact h.old b hb hF
    · rcases FW_lt h hFW with h1 | h1
      · exact hF h1
      · omega
  · rw [eH, setL_len, setL_len]; exact hlen
  · intro c b u hc
    by_cases e : c ∈ τ
    · obtain ⟨k, y, l, hk, _, hl0', hl', _⟩ := get_in c (List.mem_append.2 (.inr e))
      rw [hl'] at hc; cases hc
      exact hi.obj1 k b u hl0'
    · exact h.obj1 c b u (oldPl e hc)
  · intro c x hc
    by_cases e : c ∈ σw ++ τ
    · obtain ⟨k, y, l, hk, hy, hl0', hl', _, hx⟩ := get_in c e
      rw [hx] at hc; cases hc
      obtain ⟨m, hm, hs⟩ := hi.sat k y hy
      rw [hl0'] at hm; cases hm
      refine ⟨l, hl', ?_⟩
      cases y with
      | rows o sz els => cases o with
        | true => exact sat_map mv hs
        | false => trivial
      | map _ es => exact sat_map mv hs
      | iter _ _ _ _ => exact sat_map mv hs
      | clo fn a c' => exact sat_map mv hs
      | gone => trivial
    · rw [get_out c e] at hc
      obtain ⟨l, hl, hs⟩ := h.sat c x hc
      simp only [List.mem_append, not_or] at e
      exact ⟨l, by rw [ρout c e.2]; exact hl, keep e.1 hc hl hs⟩
  · intro c x l b hc ho hl hb
    by_cases e : c ∈ σw ++ τ
    · obtain ⟨k, y, l', hk, hy, hl0', hl', _, hx⟩ := get_in c e
      rw [hx] at hc; cases hc
      rw [hl'] at hl; cases hl
      rcases hi.own k y l b hy (pushOwned ho) hl0' hb with h1 | h1
      · exact FW_lt h h1
      · exact .inr (Nat.le_trans h.size h1)
    · rw [get_out c e] at hc
      simp only [List.mem_append, not_or] at e
      exact h.own c x l b hc ho (oldPl e.2 hl) hb
  · intro c sz els l b hc hl hb
    by_cases e : c ∈ σw ++ τ
    · obtain ⟨k, y, l', hk, hy, hl0', hl', _, hx⟩ := get_in c e
      rw [hx] at hc
      exfalso
      cases y with
      | rows o sz els => cases o <;> simp [pushC, mapC] at hc
      | _ => simp [pushC, mapC] at hc
    · rw [get_out c e] at hc
      simp only [List.mem_append, not_or] at e
      exact h.ro c sz els l b hc (oldPl e.2 hl) hb
  · intro c d x y l m b hcd hc hd hox hoy hl hm hb hmb
    -- a place that was written, and one that wasn't
    have mixed : ∀ {c d : Nat} {x y : Chunk} {l m : Pl}, c ∈ σw ++ τ → d ∉ σw ++ τ → (upd H ((σw ++ τ).zip (Hn.map (pushC (σr ++ σw ++ τ)))))[c]? = some x → H[d]? = some y → x.owned = true → y.owned = true → ρ'[c]? = some l → ρ[d]? = some m → l.blk = some b → m.blk = some b → False := by
      intro c d x y l m hcm hdm hc hd hox hoy hl hm hb hmb
      obtain ⟨k, z, l', hk, hz, hl0', hl', _, hx⟩ := get_in c hcm
      rw [hx] at hc; cases hc
      rw [hl'] at hl; cases hl
      simp only [List.mem_append, not_or] at hdm
      rcases hi.own k z l b hz (pushOwned hox) hl0' hb with h1 | h1
      · exact FW_no h hd hm hmb (.inl hoy) hdm.1 h1
      · obtain ⟨m', hm', hs⟩ := h.sat d y hd
        rw [hm] at hm'; cases hm'
        have := hs.blk_lt (.inl hoy) hmb
        exact absurd h1 (by simpa using this)
    by_cases e1 : c ∈ σw ++ τ
    · by_cases e2 : d ∈ σw ++ τ
      · obtain ⟨k, z, l', hk, hz, hl0', hl', _, hx⟩ := get_in c e1
        obtain ⟨k2, z2, l2', hk2, hz2, hl02', hl2', _, hx2⟩ := get_in d e2
        rw [hx] at hc; cases hc
        rw [hx2] at hd; cases hd
        rw [hl'] at hl; cases hl
        rw [hl2'] at hm; cases hm
        refine hi.apart k k2 z z2 l m b (fun e => hcd ?_) hz hz2 (pushOwned hox) (pushOwned hoy) hl0' hl02' hb hmb
        subst e
        rw [hk] at hk2; cases hk2; rfl
      · rw [get_out d e2] at hd
        have e2' := e2
        simp only [List.mem_append, not_or] at e2'
        exact mixed e1 e2 hc hd hox hoy hl (oldPl e2'.2 hm) hb hmb
    · rw [get_out c e1] at hc
      have e1' := e1
      simp only [List.mem_append, not_or] at e1'
      by_cases e2 : d ∈ σw ++ τ
      · exact mixed e2 e1 hd hc hoy hox hm (oldPl e1'.2 hl) hmb hb
      · rw [get_out d e2] at hd
        have e2' := e2
        simp only [List.mem_append, not_or] at e2'
        exact h.apart c d x y l m b hcd hc hd hox hoy (oldPl e1'.2 hl) (oldPl e2'.2 hm) hb hmb

/-! #### calls -/
/-- A function's contract over some chunks: such as are only read, such as are written too; what it gives, what becomes of these and which are new. -/
def FunW (P : Program) (f : FuncId) (Hr Hw : Heap) (args : List IV) (Post : IV → Heap → Prop) : Prop :=
  ∀ X, callK P X f args (fun r H' => ∃ Hn, H' = Hr ++ Hn ∧ Hw.length ≤ Hn.length ∧ Post r Hn) (Hr ++ Hw)

/-- A call, as an action: its value, the chunks that it writes, those on which all this hangs. -/
def CallOK (P : Program) (X : Ctx) (m : Nat) (f : FuncId) (args : List IV) (H : Heap) (σ : List Nat) (r : IV) (W : List (Nat × Chunk)) : Prop :=
  enters P f = true ∧ (∀ k ∈ W.map (·.1), k ∈ σ ∧ (m ≤ k ∧ k < H.length ∨ ∃ ch, H[k]? = some ch ∧ ch ≠ .gone)) ∧
    ∀ (ρ : Ren) (H' : Heap) (w : World) (vs : List Value), (∀ c ∈ σ, H'[c]? = H[c]?) → (∀ k ∈ W.map (·.1), m ≤ k → H'[k]? = some .gone ∧ ρ[k]? = some .void) → relA ρ args vs → Inv X ρ H' w →
      Calls P f vs.toArray w fun e w' => ∃ v ρ', e = .returned v ∧ Le ρ ρ' ∧ VK ρ ρ' W ∧ relI ρ' r v ∧ Inv X ρ' (upd H' W) w'

theorem callOK_funR {f : FuncId} {args : List IV} {r : IV} {H : Heap} {σ : List Nat} (h : FunR P f (pullH σ H) (args.map (pullI σ)) r) (hr : rawI r = true) {m : Nat} : CallOK P X m f args H σ r [] := by
  refine ⟨h.1, fun k hk => by simp at hk, fun ρ H' w vs hc _ hargs hi => ?_⟩
  have e : pullH σ H' = pullH σ H := by
    have : ∀ σ' : List Nat, (∀ c ∈ σ', H'[c]? = H[c]?) → (σ'.map fun c => roC σ ((H'[c]?).getD .gone)) = σ'.map fun c => roC σ ((H[c]?).getD .gone) :=
      fun σ' h => List.map_congr_left fun c hc => by rw [h c hc]
    exact this σ hc
  have hi' := hi.pull σ
  rw [e] at hi'
  refine (h.2 w _ vs hi' (relA_pull hi.obj1 hargs)).mono ?_
  rintro _ w' ⟨v, rfl, hrel, hb⟩
  exact ⟨v, ρ, rfl, Le.refl _, VK.refl _ _, rawI_rel hr hrel, hi.below hb⟩

theorem pullHW_congr {σr σw : List Nat} {H H' : Heap} (h : ∀ c ∈ σr ++ σw, H'[c]? = H[c]?) : pullHW σr σw H' = pullHW σr σw H := by
  unfold pullHW
  congr 1
  · exact List.map_congr_left fun c hc => by rw [h c (List.mem_append.2 (.inl hc))]
  · exact List.map_congr_left fun c hc => by rw [h c (List.mem_append.2 (.inr hc))]

/-- The same where the call leaves new chunks: they stand from a place on that was kept. -/
theorem callOK_funWn {m : Nat} {f : FuncId} {args args' : List IV} {r : IV} {H Hr Hw Hw' Nw : Heap} (σr σw : List Nat) (h : FunW P f Hr Hw args' fun r' Hn => r' = r ∧ ∃ G, Hn = Hw' ++ Nw ++ G) (hH : pullHW σr σw H = Hr ++ Hw) (hlr : Hr.length = σr.length) (hlw : Hw'.length = σw.length)
    (hnd : (σr ++ σw).Nodup) (hin : ∀ c ∈ σr ++ σw, c < m ∧ ∃ ch, H[c]? = some ch ∧ ch ≠ .gone) (ha : args.map (pullI (σr ++ σw)) = args') (hm : m + Nw.length ≤ H.length) :
    CallOK P X m f args H (σr ++ σw ++ List.range' m Nw.length) (pushI (σr ++ σw ++ List.range' m Nw.length) r) ((σw ++ List.range' m Nw.length).zip ((Hw' ++ Nw).map (pushC (σr ++ σw ++ List.range' m Nw.length)))) := by
  have hk1 : ((σw ++ List.range' m Nw.length).zip ((Hw' ++ Nw).map (pushC (σr ++ σw ++ List.range' m Nw.length)))).map (·.1) = σw ++ List.range' m Nw.length := by rw [List.map_fst_zip]; simp [hlw]
  have hnd2 : (σr ++ σw ++ List.range' m Nw.length).Nodup := by
    refine List.nodup_append.2 ⟨hnd, List.nodup_range' (step := 1), fun a ha b hb e => ?_⟩
    subst e
    have := (hin a ha).1
    rw [List.mem_range'] at hb
    obtain ⟨i, _, rfl⟩ := hb
    omega
  refine ⟨(h ⟨default, fun _ => False, 0, [], none, fun _ _ _ => False⟩).1, fun k hk => ?_, fun ρ H' w vs hc hnew hargs hi => ?_⟩
  · rw [hk1] at hk
    rcases List.mem_append.1 hk with hk | hk
    · exact ⟨List.mem_append.2 (.inl (List.mem_append.2 (.inr hk))), .inr (hin k (List.mem_append.2 (.inr hk))).2⟩
    · refine ⟨List.mem_append.2 (.inr hk), .inl ?_⟩
      rw [List.mem_range'] at hk
      obtain ⟨i, _, rfl⟩ := hk
      omega
  · have hc1 : ∀ c ∈ σr ++ σw, H'[c]? = H[c]? := fun c hcm => hc c (List.mem_append.2 (.inl hcm))
    have hin' : ∀ c ∈ σr ++ σw, ∃ ch, H'[c]? = some ch ∧ ch ≠ .gone := fun c hcm => by rw [hc1 c hcm]; exact (hin c hcm).2
    have hp := hi.part hnd hin'
    rw [pullHW_congr hc1, hH] at hp
    have hra := relA_pull (σ := σr ++ σw) hi.obj1 hargs
    rw [ha] at hra
    refine ((h ⟨w, FW ρ H' σw, 0, [], none, fun _ _ _ => False⟩).2 _ vs w hra hp).mono ?_
    rintro e w' ⟨v, r', H2, ρ0, rfl, ⟨Hn, rfl, hln, rfl, G, rfl⟩, hrel, hle, hi2⟩
    obtain ⟨ρ', a1, a2, a3, a4⟩ := inv_back (τ := List.range' m Nw.length) hi hnd2 hin' (fun c hcm => hnew c (by rw [hk1]; exact List.mem_append.2 (.inr hcm)) (by rw [List.mem_range'] at hcm; obtain ⟨i, _, rfl⟩ := hcm; omega)) hle hlr (by simp [hlw]) hi2
    have ez : (σw ++ List.range' m Nw.length).zip ((Hw' ++ Nw ++ G).map (pushC (σr ++ σw ++ List.range' m Nw.length))) = (σw ++ List.range' m Nw.length).zip ((Hw' ++ Nw).map (pushC (σr ++ σw ++ List.range' m Nw.length))) := by
      rw [List.map_append (l₁ := Hw' ++ Nw)]
      conv => lhs; rw [show σw ++ List.range' m Nw.length = (σw ++ List.range' m Nw.length) ++ [] by simp]
      rw [List.zip_append (by simp [hlw])]
      simp
    rw [ez] at a2 a4
    exact ⟨v, ρ', rfl, a1, a2, relI_push a3 hrel, a4⟩

theorem Inv.room {H : Heap} (h : Inv X ρ H w) : ∀ q : Nat, Inv X (ρ ++ List.replicate q .void) (H ++ List.replicate q .gone) w
  | 0 => by simpa using h
  | q + 1 => by
    have := (h.room q).push .void .gone rfl rfl rfl (Nat.le_refl _) (fun _ _ => rfl) (fun _ _ h => by cases h) trivial (fun h => by cases h) (fun _ _ h => by cases h)
    rwa [List.append_assoc, List.append_assoc, ← List.replicate_succ', ← List.replicate_succ'] at this

theorem upd_append : ∀ {W1 W2 : List (Nat × Chunk)} {H : Heap}, upd H (W1 ++ W2) = upd (upd H W1) W2
  | [], _, _ => rfl
  | (c, ch) :: W1, W2, H => by rw [List.cons_append, upd, upd, upd_append]

theorem upd_room : ∀ {q : Nat} {xs : List Chunk} {H : Heap}, q ≤ xs.length → upd (H ++ List.replicate q .gone) ((List.range' H.length q).zip xs) = upd H ((List.range' H.length q).zip xs)
  | 0, xs, H, _ => by simp
  | q + 1, [], H, h => by simp at h
  | q + 1, x :: xs, H, h => by
    rw [List.range'_succ, List.zip_cons_cons, upd, upd]
    have e1 : up1 (H ++ List.replicate (q + 1) .gone) H.length x = (H ++ [x]) ++ List.replicate q .gone := by
      unfold up1
      rw [if_neg (by simp)]
      rw [List.set_append_right _ _ (Nat.le_refl _)]
      simp [List.replicate_succ]
    have e2 : up1 H H.length x = H ++ [x] := by unfold up1; rw [if_pos rfl]
    rw [e1, e2]
    have := upd_room (q := q) (xs := xs) (H := H ++ [x]) (by simpa using h)
    simpa using this

theorem upd_in : ∀ {cs : List Nat} {xs : List Chunk} {H T : Heap}, (∀ c ∈ cs, c < H.length) → upd (H ++ T) (cs.zip xs) = upd H (cs.zip xs) ++ T
  | [], _, _, _, _ => by simp [upd]
  | c :: cs, [], _, _, _ => by simp [upd]
  | c :: cs, x :: xs, H, T, h => by
    have hc := h c (by simp)
    have e : up1 (H ++ T) c x = up1 H c x ++ T := by
      unfold up1
      rw [if_neg (by simp; omega), if_neg (by omega), List.set_append_left _ _ hc]
    rw [List.zip_cons_cons, upd, upd, e]
    refine upd_in fun d hd => ?_
    have : (up1 H c x).length = H.length := by unfold up1; rw [if_neg (by omega)]; simp
    rw [this]; exact h d (by simp [hd])

theorem upd_in_len : ∀ {cs : List Nat} {xs : List Chunk} {H : Heap}, (∀ c ∈ cs, c < H.length) → (upd H (cs.zip xs)).length = H.length
  | [], _, _, _ => by simp [upd]
  | c :: cs, [], _, _ => by simp [upd]
  | c :: cs, x :: xs, H, h => by
    have hc := h c (by simp)
    have e : (up1 H c x).length = H.length := by unfold up1; rw [if_neg (by omega)]; simp
    rw [List.zip_cons_cons, upd, upd_in_len (by rw [e]; exact fun d hd => h d (by simp [hd])), e]

/-- A contract used in a bigger heap; what is new stands behind. -/
theorem callK_funW {f : FuncId} {args args' : List IV} {H Hr Hw : Heap} {Post : IV → Heap → Prop} {k : IV → Heap → Prop} (σr σw : List Nat) (h : FunW P f Hr Hw args' Post) (hH : pullHW σr σw H = Hr ++ Hw) (hlr : Hr.length = σr.length) (hlw : Hw.length = σw.length)
    (hnd : (σr ++ σw).Nodup) (hin : ∀ c ∈ σr ++ σw, ∃ ch, H[c]? = some ch ∧ ch ≠ .gone) (ha : args.map (pullI (σr ++ σw)) = args')
    (hk : ∀ r Hn, Post r Hn → σw.length ≤ Hn.length → k (pushI (σr ++ σw ++ List.range' H.length (Hn.length - σw.length)) r) (upd H ((σw ++ List.range' H.length (Hn.length - σw.length)).zip (Hn.map (pushC (σr ++ σw ++ List.range' H.length (Hn.length - σw.length))))))) :
    callK P X f args k H := by
  refine ⟨(h ⟨default, fun _ => False, 0, [], none, fun _ _ _ => False⟩).1, fun ρ vs w hargs hi => ?_⟩
  have hp := hi.part hnd hin
  rw [hH] at hp
  have hra := relA_pull (σ := σr ++ σw) hi.obj1 hargs
  rw [ha] at hra
  refine ((h ⟨w, FW ρ H σw, 0, [], none, fun _ _ _ => False⟩).2 _ vs w hra hp).mono ?_
  rintro e w' ⟨v, r', H2, ρ0, rfl, ⟨Hn, rfl, hln, hpost⟩, hrel, hle, hi2⟩
  rw [hlw] at hln
  have hwin : ∀ c ∈ σr ++ σw, c < H.length := fun c hc => let ⟨ch, h1, _⟩ := hin c hc; (List.getElem?_eq_some_iff.1 h1).1
  have hlen := hi.len
  -- room for the new ones
  have hroom := hi.room (Hn.length - σw.length)
  have hnd2 : (σr ++ σw ++ List.range' H.length (Hn.length - σw.length)).Nodup := by
    refine List.nodup_append.2 ⟨hnd, List.nodup_range' (step := 1), fun a ha b hb e => ?_⟩
    subst e
    have := hwin a ha
    rw [List.mem_range'] at hb
    obtain ⟨i, _, rfl⟩ := hb
    omega
  have hin2 : ∀ c ∈ σr ++ σw, ∃ ch, (H ++ List.replicate (Hn.length - σw.length) .gone)[c]? = some ch ∧ ch ≠ .gone := fun c hc => by
    rw [List.getElem?_append_left (hwin c hc)]; exact hin c hc
  have hτ : ∀ c ∈ List.range' H.length (Hn.length - σw.length), (H ++ List.replicate (Hn.length - σw.length) .gone)[c]? = some .gone ∧ (ρ ++ List.replicate (Hn.length - σw.length) .void)[c]? = some .void := fun c hc => by
    rw [List.mem_range'] at hc
    obtain ⟨i, hi', rfl⟩ := hc
    rw [Nat.one_mul]
    refine ⟨?_, ?_⟩
    · rw [List.getElem?_append_right (by omega), Nat.add_sub_cancel_left, List.getElem?_replicate, if_pos hi']
    · rw [List.getElem?_append_right (by omega), hlen, Nat.add_sub_cancel_left, List.getElem?_replicate, if_pos hi']
  have hle2 : Le (pullR (σr ++ σw) (ρ ++ List.replicate (Hn.length - σw.length) .void)) ρ0 := by
    have : pullR (σr ++ σw) (ρ ++ List.replicate (Hn.length - σw.length) .void) = pullR (σr ++ σw) ρ := by
      unfold pullR
      exact List.map_congr_left fun c hc => by rw [List.getElem?_append_left (by rw [hlen]; exact hwin c hc)]
    rw [this]; exact hle
  have hFW : FW (ρ ++ List.replicate (Hn.length - σw.length) .void) (H ++ List.replicate (Hn.length - σw.length) .gone) σw = FW ρ H σw := by
    funext b
    apply propext
    unfold FW
    constructor
    · rintro ⟨c, hc, ch, l, h1, h2, h3, h4⟩
      have hcl := hwin c (List.mem_append.2 (.inr hc))
      rw [List.getElem?_append_left hcl] at h1
      rw [List.getElem?_append_left (by omega)] at h3
      exact ⟨c, hc, ch, l, h1, h2, h3, h4⟩
    · rintro ⟨c, hc, ch, l, h1, h2, h3, h4⟩
      have hcl := hwin c (List.mem_append.2 (.inr hc))
      exact ⟨c, hc, ch, l, by rw [List.getElem?_append_left hcl]; exact h1, h2, by rw [List.getElem?_append_left (by omega)]; exact h3, h4⟩
  rw [← hFW] at hi2
  obtain ⟨ρ', a1, _, a3, a4⟩ := inv_back hroom hnd2 hin2 hτ hle2 hlr (by simp; omega) hi2
  refine ⟨v, _, _, ρ', rfl, hk r' Hn hpost hln, relI_push a3 hrel, (Le.app ρ _).trans a1, ?_⟩
  have hwin2 : ∀ c ∈ σw, c < H.length := fun c hc => hwin c (List.mem_append.2 (.inr hc))
  have split : ∀ (xs : List Chunk), xs.length = Hn.length → (σw ++ List.range' H.length (Hn.length - σw.length)).zip xs = σw.zip (xs.take σw.length) ++ (List.range' H.length (Hn.length - σw.length)).zip (xs.drop σw.length) := fun xs hxs => by
    conv => lhs; rw [← List.take_append_drop σw.length xs]
    rw [List.zip_append (by simp; omega)]
  have hxl := split (Hn.map (pushC (σr ++ σw ++ List.range' H.length (Hn.length - σw.length)))) (by simp)
  rw [hxl] at a4 ⊢
  rw [upd_append] at a4 ⊢
  rw [upd_in hwin2] at a4
  have hl2 := upd_in_len (xs := (Hn.map (pushC (σr ++ σw ++ List.range' H.length (Hn.length - σw.length)))).take σw.length) hwin2
  have := upd_room (q := Hn.length - σw.length) (xs := (Hn.map (pushC (σr ++ σw ++ List.range' H.length (Hn.length - σw.length)))).drop σw.length) (H := upd H (σw.zip ((Hn.map (pushC (σr ++ σw ++ List.range' H.length (Hn.length - σw.length)))).take σw.length))) (by simp)
  rw [hl2] at this
  rw [this] at a4
  exact a4
end
end Go.Ev

/- The evaluator's steps as rewriting rules, each fully applied. -/
namespace Go.Ev
section
variable {P : Program} {n : Nat} {X : Ctx} {all ops : Array Oper} {os : List Oper} {o : Oper} {K k : TM → Heap → Prop} {kr : IV → Heap → Prop} {Q : Exit → TM → Heap → Prop} {tm : TM} {H : Heap} {A B : TM → Heap → Prop} {b : Bool} {c : Prop} {v : IV} {d : Option Nat} {a a' : Code} {x y : Operand}
theorem e_nil : evOps P X all [] K tm H = K tm H := rfl
theorem e_cons : evOps P X all (o :: os) K tm H = gd (guardB all tm o.guard) (evOp P X o (evOps P X all os K)) (junkK (evOps P X all os K) o.dst) tm H := rfl
theorem e_gd : gd (some b) A B tm H = gdb b A B tm H := rfl
theorem e_gdt : gdb true A B tm H = A tm H := gdb_true
theorem e_gdf : gdb false A B tm H = B tm H := gdb_false
theorem e_g0 : guardB all tm none = some true := rfl
theorem e_g1 {j : Nat} {w : Bool} : guardB all tm (some (j, w)) = match (all[j]?).bind (·.dst) with
    | some d => match get tm d with
      | .s (.raw (.bool b)) => some (if w then b else !b)
      | .t [] => some false
      | _ => none
    | none => none := rfl
theorem e_op (t : Nat) (p : String) (af : Array Edge) (g : Option (Nat × Bool)) (op : Op) : evOp P X ⟨d, op, t, p, af, g⟩ k tm H = match op with
  | .call c => match c.callee with
    | .value (.func f) => callK P X f (c.args.toList.map (rd tm)) (retK k tm d) H
    | .value (.tmp t) => cloK P X (get tm t) (c.args.toList.map (rd tm)) (retK k tm d) H
    | .builtin _ => stepG (stepE P H.length op tm H) (genK P X ⟨d, op, t, p, af, g⟩ k tm H) k tm d H
    | _ => stepK (stepE P H.length op tm H) k tm d H
  | .pick c x y => gd (boolOf (rd tm c)) (putK k d x) (putK k d y) tm H
  | .range _ _ => genK P X ⟨d, op, t, p, af, g⟩ k tm H
  | .next _ _ => genK P X ⟨d, op, t, p, af, g⟩ k tm H
  | .entry _ => genK P X ⟨d, op, t, p, af, g⟩ k tm H
  | .makeMap _ _ => genK P X ⟨d, op, t, p, af, g⟩ k tm H
  | .lookup _ _ _ _ => genK P X ⟨d, op, t, p, af, g⟩ k tm H
  | .mapUpdate _ _ _ _ => genK P X ⟨d, op, t, p, af, g⟩ k tm H
  | .insert _ _ _ _ => genK P X ⟨d, op, t, p, af, g⟩ k tm H
  | .makeFunc _ _ _ => genK P X ⟨d, op, t, p, af, g⟩ k tm H
  | .makeInterface _ _ => genK P X ⟨d, op, t, p, af, g⟩ k tm H
  | .typeAssert _ _ _ _ => genK P X ⟨d, op, t, p, af, g⟩ k tm H
  | .indexAddr _ _ _ => stepG (stepE P H.length op tm H) (genK P X ⟨d, op, t, p, af, g⟩ k tm H) k tm d H
  | .load _ _ => stepG (stepE P H.length op tm H) (genK P X ⟨d, op, t, p, af, g⟩ k tm H) k tm d H
  | .binOp _ _ _ _ _ => stepG (stepE P H.length op tm H) (genK P X ⟨d, op, t, p, af, g⟩ k tm H) k tm d H
  | op => stepK (stepE P H.length op tm H) k tm d H := by cases op <;> rfl
theorem e_step {W : List (Nat × Chunk)} : stepK (some (c, v, W)) k tm d H = (c ∧ k (put tm d v) (upd H W)) := rfl
theorem e_stepG {W : List (Nat × Chunk)} {g : Prop} : stepG (some (c, v, W)) g k tm d H = (c ∧ k (put tm d v) (upd H W)) := rfl
theorem e_stepN {g : Prop} : stepG none g k tm d H = g := rfl
theorem e_clo {ch : Nat} {args : List IV} {kr : IV → Heap → Prop} : cloK P X (.s (.ref ch)) args kr H = match H[ch]? with
    | some (.clo (.func f) first cap) => callK P X f (first ++ (args ++ cap)) kr H
    | _ => False := rfl
theorem e_cloF {f : FuncId} {args : List IV} {kr : IV → Heap → Prop} : cloK P X (.s (.raw (.func (.func f) #[] #[]))) args kr H = callK P X f args kr H := by simp [cloK]
theorem e_ret (r : IV) : retK k tm d r H = k (put tm d r) H := rfl
theorem e_put : putK k d x tm H = k (put tm d (rd tm x)) H := rfl
theorem e_junk : junkK k d tm H = k (put tm d (.t [])) H := rfl
theorem e_skip : ev P n X .skip Q tm H = Q .normal tm H := rfl
theorem e_reg {id : Nat} : ev P n X (.region id ops false) Q tm H = evOps P X ops ops.toList (Q .normal) tm H := rfl
theorem e_draw {id : Nat} : ev P n X (.region id ops true) Q tm H = drawK P n X id ops (Q .normal) tm H := rfl
theorem e_seq : ev P n X (.seq a a') Q tm H = ev P n X a (seqQ (ev P n X a' Q) Q) tm H := rfl
theorem e_cond {c : Operand} : ev P n X (.cond c a a') Q tm H = gd (boolOf (rd tm c)) (ev P n X a Q) (ev P n X a' Q) tm H := rfl
theorem e_block {id : Nat} : ev P n X (.block id a) Q tm H = ev P n X a (blockQ id Q) tm H := rfl
theorem e_exit {id : Nat} : ev P n X (.exit id) Q tm H = Q (.exit id) tm H := rfl
theorem e_r : ev P n X .ret Q tm H = Q .ret tm H := rfl
theorem e_label {l : Nat} : ev P n X (.label l) Q tm H = Q .normal tm H := rfl
theorem e_loop : ev P n X (.loop a) Q tm H = loopK P n X a Q tm H := rfl
theorem q_sn : seqQ K Q .normal tm H = K tm H := rfl
theorem q_sr : seqQ K Q .ret tm H = Q .ret tm H := rfl
theorem q_se {i : Nat} : seqQ K Q (.exit i) tm H = Q (.exit i) tm H := rfl
theorem q_bn {id : Nat} : blockQ id Q .normal tm H = Q .normal tm H := rfl
theorem q_br {id : Nat} : blockQ id Q .ret tm H = Q .ret tm H := rfl
theorem q_be {id i : Nat} : blockQ id Q (.exit i) tm H = if i = id then Q .normal tm H else Q (.exit i) tm H := rfl
theorem q_rr {rs : List ResultVar} : retQ P rs kr .ret tm H = resK (resI P tm H rs) kr H := rfl
theorem q_rn {rs : List ResultVar} : retQ P rs kr .normal tm H = resK (resI P tm H rs) kr H := rfl
theorem e_res1 {x : IV} : resK (some [x]) kr H = kr x H := rfl
theorem e_res2 {x y : IV} {l : List IV} : resK (some (x :: y :: l)) kr H = (flat (x :: y :: l) = true ∧ kr (.t (x :: y :: l)) H) := rfl
theorem e_res0 : resK (some []) kr H = (flat [] = true ∧ kr (.t []) H) := rfl
theorem e_b {b : Bool} : boolOf (.s (.raw (.bool b))) = some b := rfl
end
end Go.Ev
