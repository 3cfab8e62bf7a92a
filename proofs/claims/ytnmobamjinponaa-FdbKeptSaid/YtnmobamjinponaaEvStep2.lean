/- Arithmetic, comparisons, conversions, indexes, ideally. -/
import Derived.Test.YtnmobamjinponaaEvEq
namespace Go.Ev
open Go.RowKit

/-! #### bits, by names -/
def bAnd (k : IntKind) (a b : Int) : Int := k.wrap ((BitVec.ofInt k.bits a &&& BitVec.ofInt k.bits b).toNat : Int)
def bOr (k : IntKind) (a b : Int) : Int := k.wrap ((BitVec.ofInt k.bits a ||| BitVec.ofInt k.bits b).toNat : Int)
def bXor (k : IntKind) (a b : Int) : Int := k.wrap ((BitVec.ofInt k.bits a ^^^ BitVec.ofInt k.bits b).toNat : Int)
def bAndNot (k : IntKind) (a b : Int) : Int := k.wrap ((BitVec.ofInt k.bits a &&& ~~~(BitVec.ofInt k.bits b)).toNat : Int)
def shL (k : IntKind) (a b : Int) : Int := k.wrap (a * 2 ^ (min b.toNat k.bits))
def shR (k : IntKind) (a b : Int) : Int := a.fdiv (2 ^ (min b.toNat k.bits))

def binInt (op : BinOp) (k : IntKind) (a b : Int) : Option (Prop × SV) :=
  match op with
  | .add => some (True, .raw (.int k (k.wrap (a + b))))
  | .sub => some (True, .raw (.int k (k.wrap (a - b))))
  | .mul => some (True, .raw (.int k (k.wrap (a * b))))
  | .quo => some (b ≠ 0, .raw (.int k (k.wrap (a.tdiv b))))
  | .rem => some (b ≠ 0, .raw (.int k (a.tmod b)))
  | .and => some (True, .raw (.int k (bAnd k a b)))
  | .or => some (True, .raw (.int k (bOr k a b)))
  | .xor => some (True, .raw (.int k (bXor k a b)))
  | .andNot => some (True, .raw (.int k (bAndNot k a b)))
  | .shl => some (0 ≤ b, .raw (.int k (shL k a b)))
  | .shr => some (0 ≤ b, .raw (.int k (shR k a b)))
  | .eql => some (True, .raw (.bool (a == b)))
  | .neq => some (True, .raw (.bool (a != b)))
  | .lss => some (True, .raw (.bool (a < b)))
  | .leq => some (True, .raw (.bool (a ≤ b)))
  | .gtr => some (True, .raw (.bool (b < a)))
  | .geq => some (True, .raw (.bool (b ≤ a)))

/-- Are two strings one? -/
def strEq (a b : ByteArray) : Bool := a.toList == b.toList
def strLt (a b : ByteArray) : Bool := Op.bytesLess a.toList b.toList

def binStr (op : BinOp) (a b : ByteArray) : Option (Prop × SV) :=
  match op with
  | .add => some (((a.size + b.size : Nat) : Int) ≤ 9223372036854775807, .raw (.string (a ++ b)))
  | .eql => some (True, .raw (.bool (strEq a b)))
  | .neq => some (True, .raw (.bool (!strEq a b)))
  | .lss => some (True, .raw (.bool (strLt a b)))
  | .leq => some (True, .raw (.bool (strLt a b || strEq a b)))
  | .gtr => some (True, .raw (.bool (!(strLt a b || strEq a b))))
  | .geq => some (True, .raw (.bool (!strLt a b)))
  | _ => none

/-- Equality of what is no number and no string: bools, aggregates, a pointer and nil. -/
def eqI (P : Program) (T : TypeId) (x y : IV) : Option Bool :=
  match x, y with
  | .s (.raw (.bool a)), .s (.raw (.bool b)) => match P.underlying T with | some .bool => some (a == b) | _ => none
  | .a xs, .a ys => if aggT P T = some true ∧ P.eqGuardType P.depth T = false then match leavesOf P 60 T with
    | some ls => cellsEq ls xs ys
    | none => none
    else none
  | .s (.ptr _ _ _), .s (.raw (.pointer none)) => match P.underlying T with | some (.pointer _) => some false | _ => none
  | .s (.raw (.pointer none)), .s (.raw (.pointer none)) => match P.underlying T with | some (.pointer _) => some true | _ => none
  | _, _ => none

def stBin (P : Program) (op : BinOp) (T : TypeId) (x y : IV) : Res :=
  match x, y with
  | .s (.raw (.int k a)), .s (.raw (.int k' b)) =>
    match op with
    | .shl | .shr => match binInt op k a b with | some (c, v) => some (c, .s v, []) | none => none
    | _ => if k = k' then match binInt op k a b with | some (c, v) => some (c, .s v, []) | none => none else none
  | .s (.raw (.string a)), .s (.raw (.string b)) => match binStr op a b with | some (c, v) => some (c, .s v, []) | none => none
  | x, y => match op, eqI P T x y with
    | .eql, some b => some (True, .s (.raw (.bool b)), [])
    | .neq, some b => some (True, .s (.raw (.bool !b)), [])
    | _, _ => none

def stUn (op : UnOp) (x : IV) : Res :=
  match op, x with
  | .not, .s (.raw (.bool b)) => some (True, .s (.raw (.bool !b)), [])
  | .neg, .s (.raw (.int k n)) => some (True, .s (.raw (.int k (k.wrap (0 - n)))), [])
  | .xor, .s (.raw (.int k n)) => some (True, .s (.raw (.int k (bXor k (if k.signed then -1 else k.max) n))), [])
  | _, _ => none

def stConv (P : Program) (src dst : TypeId) (x : IV) : Res :=
  match x with
  | .s (.raw (.int _ n)) => match P.underlying src, P.underlying dst with
    | some (.int _), some (.int k) => some (True, .s (.raw (.int k (k.wrap n))), [])
    | _, _ => none
  | _ => none

def stNilCheck (x : IV) : Res :=
  match x with
  | .s (.ptr c i o) => some (True, .s (.ptr c i o), [])
  | .s (.raw (.func (.func f) u v)) => some (True, .s (.raw (.func (.func f) u v)), [])
  | _ => none

section
variable {P : Program} {X : Ctx} {ρ : Ren} {H : Heap} {W : List (Nat × Chunk)} {w : World} {n : Nat} {tm : TM} {a : Act} {c : Prop} {v : IV}

theorem binInt_run {op : BinOp} {k : IntKind} {x y : Int} {v : SV} (T : TypeId) (k' : IntKind) (hk : k = k' ∨ op = .shl ∨ op = .shr) (h : binInt op k x y = some (c, v)) (hc : c) :
    ∃ u, v = .raw u ∧ u.oneCell' = true ∧ (binOp op T (.int k x) (.int k' y)).run P w = .ok u w := by
  unfold binInt at h
  split at h <;> first
    | (cases h
       rcases hk with rfl | hk | hk
       · refine ⟨_, rfl, rfl, ?_⟩
         first
           | (simp [binOp, Op.intArith]; done)
           | (simp [binOp, Op.intDiv, hc]; done)
           | (simp [binOp, Op.intBits, bAnd, bOr, bXor, bAndNot]; done)
           | (simp [binOp, Op.intCmp]; done)
           | (simp only [binOp, Op.shift]; rw [if_neg (by omega)]; rfl)
       · first
           | (cases hk; done)
           | (refine ⟨_, rfl, rfl, ?_⟩; simp only [binOp, Op.shift]; rw [if_neg (by omega)]; rfl)
       · first
           | (cases hk; done)
           | (refine ⟨_, rfl, rfl, ?_⟩; simp only [binOp, Op.shift]; rw [if_neg (by omega)]; rfl))
    | cases h

theorem run_eq_ptr_nil (d : Nat) {T e : TypeId} (a : Addr) (hu : P.underlying T = some (.pointer e)) : (Op.equalIn (d + 1) T (.pointer (some a)) (.pointer none)).run P w = .ok false w := by
  simp [Op.equalIn, run_underlying' P w hu]
theorem run_eq_nil_nil (d : Nat) {T e : TypeId} (hu : P.underlying T = some (.pointer e)) : (Op.equalIn (d + 1) T (.pointer none) (.pointer none)).run P w = .ok true w := by
  simp [Op.equalIn, run_underlying' P w hu]

theorem eqI_run {T : TypeId} {x y : IV} {xv yv : Value} {ox oy : Operand} {b : Bool} (hx : relI ρ x xv) (hy : relI ρ y yv) (h : eqI P T x y = some b) :
    (∀ op, (eqGuard op T ox oy xv yv).run P w = .ok () w) ∧ (binOp .eql T xv yv).run P w = .ok (.bool b) w ∧ (binOp .neq T xv yv).run P w = .ok (.bool !b) w := by
  unfold eqI at h
  split at h
  · rename_i p q
    obtain ⟨rfl, _⟩ := hx
    obtain ⟨rfl, _⟩ := hy
    split at h
    · rename_i hu
      cases h
      have e : (Op.equal T (.bool p) (.bool q)).run P w = .ok (p == q) w := run_equalIn_bool' w 9999 T p q hu
      exact ⟨fun op => by unfold eqGuard; split <;> rfl, by simp only [binOp, Sem.run_bind, e]; rfl, by simp only [binOp, Sem.run_bind, e]; rfl⟩
    · cases h
  · rename_i xs ys
    obtain ⟨vs, rfl, hx⟩ := hx
    obtain ⟨us, rfl, hy⟩ := hy
    split at h
    · rename_i hc
      split at h
      · rename_i ls hls
        have e := eq_leaves (P := P) (w := w) 60 T ls hls 10000 (by omega) xs ys vs us b hx hy h
        simp only [pack, hc.1, if_true] at e
        refine ⟨fun op => run_eqGuard_agg w op T ox oy _ _ hc.2, ?_, ?_⟩
        · rw [run_eql_struct, e]; rfl
        · rw [run_neq_struct, e]; rfl
      · cases h
    · cases h
  · rename_i ci i o
    obtain ⟨b', base, sz, lim, hρ, rfl⟩ := hx
    obtain ⟨rfl, _⟩ := hy
    split at h
    · rename_i e hu
      cases h
      have e := run_eq_ptr_nil (P := P) (w := w) 9999 (T := T) ⟨b', base + i * sz + o, none⟩ hu
      replace e : (Op.equal T _ _).run P w = _ := e
      exact ⟨fun op => by unfold eqGuard; split <;> rfl, by simp only [binOp, Sem.run_bind, e]; rfl, by simp only [binOp, Sem.run_bind, e]; rfl⟩
    · cases h
  · obtain ⟨rfl, _⟩ := hx
    obtain ⟨rfl, _⟩ := hy
    split at h
    · rename_i e hu
      cases h
      have e := run_eq_nil_nil (P := P) (w := w) 9999 (T := T) hu
      replace e : (Op.equal T _ _).run P w = _ := e
      exact ⟨fun op => by unfold eqGuard; split <;> rfl, by simp only [binOp, Sem.run_bind, e]; rfl, by simp only [binOp, Sem.run_bind, e]; rfl⟩
    · cases h
  · cases h

theorem stBin_sound {op : BinOp} {T : TypeId} {x y : IV} {xv yv : Value} {ox oy : Operand} (hi : Inv X ρ H w) (hx : relI ρ x xv) (hy : relI ρ y yv) (h : stBin P op T x y = some (c, v, W)) (hc : c) :
    StepOK P X ρ (do pure (.value (← (do eqGuard op T ox oy xv yv; binOp op T xv yv)))) w v H W := by
  have guard : ∀ {u1 u2 : Value}, (u1.oneCell' = true) → u1 ≠ .nilIface → (eqGuard op T ox oy u1 u2).run P w = .ok () w := by
    intro u1 u2 h1 h2
    unfold eqGuard
    cases u1 <;> first | (exact absurd rfl h2) | (cases h1; done) | (split <;> rfl)
  unfold stBin at h
  split at h
  · rename_i k x k' y
    obtain ⟨rfl, _⟩ := hx
    obtain ⟨rfl, _⟩ := hy
    have g := guard (u1 := .int k x) (u2 := .int k' y) rfl (by simp)
    have fin : ∀ {s : SV}, (k = k' ∨ op = .shl ∨ op = .shr) → binInt op k x y = some (c, s) → v = .s s → W = [] → StepOK P X ρ (do pure (.value (← (do eqGuard op T ox oy (.int k x) (.int k' y); binOp op T (.int k x) (.int k' y))))) w v H W := by
      rintro s hk hb rfl rfl
      obtain ⟨u, rfl, hu, hrun⟩ := binInt_run (P := P) (w := w) T k' hk hb hc
      refine StepOK.pure hi (x := u) ⟨rfl, hu⟩ ?_
      simp [g, hrun]
    split at h
    · split at h
      · rename_i heq; cases h; exact fin (.inr (.inl rfl)) heq rfl rfl
      · cases h
    · split at h
      · rename_i heq; cases h; exact fin (.inr (.inr rfl)) heq rfl rfl
      · cases h
    · split at h
      · rename_i hk
        split at h
        · rename_i heq; cases h; exact fin (.inl hk) heq rfl rfl
        · cases h
      · cases h
  · rename_i x y
    obtain ⟨rfl, _⟩ := hx
    obtain ⟨rfl, _⟩ := hy
    have g := guard (u1 := .string x) (u2 := .string y) rfl (by simp)
    split at h
    · rename_i heq
      cases h
      unfold binStr at heq
      split at heq <;> first
        | (cases heq
           refine StepOK.pure hi ⟨rfl, rfl⟩ ?_
           simp only [Sem.run_bind, g, Result.andThen_ok, binOp, Op.stringOp, strEq, strLt]
           first
             | (simp; done)
             | (rw [if_neg (by rw [show IntKind.i64.max = 9223372036854775807 from rfl]; omega)]; rfl))
        | (cases heq; done)
    · cases h
  · split at h <;> first
      | (rename_i b heq
         cases h
         obtain ⟨h1, h2⟩ := eqI_run (ox := ox) (oy := oy) (w := w) hx hy heq
         refine StepOK.pure hi ⟨rfl, rfl⟩ ?_
         simp [h1 .eql, h1 .neq, h2])
      | (cases h; done)

theorem stUn_sound {op : UnOp} {x : IV} {xv : Value} (hi : Inv X ρ H w) (hx : relI ρ x xv) (h : stUn op x = some (c, v, W)) :
    StepOK P X ρ (do pure (.value (← Op.unary op xv))) w v H W := by
  unfold stUn at h
  split at h <;> first
    | (cases h; obtain ⟨rfl, _⟩ := hx; exact StepOK.pure hi ⟨rfl, rfl⟩ (by simp [Op.unary, Op.intArith, Op.intBits, bXor]))
    | cases h

theorem stConv_sound {src dst : TypeId} {x : IV} {xv : Value} (hi : Inv X ρ H w) (hx : relI ρ x xv) (h : stConv P src dst x = some (c, v, W)) :
    StepOK P X ρ (do pure (.value (← convert src dst xv))) w v H W := by
  unfold stConv at h
  split at h
  · split at h
    · rename_i k0 k h1 h2
      cases h
      obtain ⟨rfl, _⟩ := hx
      exact StepOK.pure hi ⟨rfl, rfl⟩ (by simp [convert, run_underlying' P w h1, run_underlying' P w h2, Conv.intToInt])
    · cases h
  · cases h

theorem stNilCheck_sound {x : IV} {xv : Value} {o : Operand} {dst : Option Tmp} {t : TypeId} {pos : String} {af : Array Edge} {g : Option (Nat × Bool)} {ev : Operand → Value} (hev : ev o = xv) (hi : Inv X ρ H w) (hx : relI ρ x xv) (h : stNilCheck x = some (c, v, W)) :
    StepOK P X ρ (execOp ev ⟨dst, .nilCheck o, t, pos, af, g⟩) w v H W := by
  unfold stNilCheck at h
  split at h
  · cases h
    have hx' := hx
    obtain ⟨b, base, sz, lim, hρ, rfl⟩ := hx'
    exact StepOK.pure hi hx (by simp [execOp, hev])
  · cases h
    obtain ⟨rfl, _⟩ := hx
    exact StepOK.pure hi ⟨rfl, rfl⟩ (by simp [execOp, hev])
  · cases h
end
end Go.Ev
