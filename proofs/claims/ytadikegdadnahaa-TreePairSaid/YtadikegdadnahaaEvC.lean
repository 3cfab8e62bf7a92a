/- A region that draws its order: walked once, in the order of the text, with a look at what each operation reads and writes. -/
import Derived.Test.YtadikegdadnahaaEvB
import Derived.Orders
import Derived.ProofKit
namespace Go.Ev
open Go.RowKit

/-! ### overlays: what holds at a key behind some of many writings -/
section overlay
variable {κ ν : Type} [DecidableEq κ]
def ov : List (κ × ν) → (κ → ν) → κ → ν
  | [], f => f
  | (k, v) :: ws, f => ov ws fun x => if x = k then v else f x
def FS (fl : Nat → Bool) : Nat → List (List (κ × ν)) → (κ → ν) → κ → ν
  | _, [], f => f
  | i, ws :: as, f => FS fl (i + 1) as (if fl i then ov ws f else f)

theorem ov_out {k : κ} : ∀ {ws : List (κ × ν)} {f : κ → ν}, k ∉ ws.map (·.1) → ov ws f k = f k
  | [], _, _ => rfl
  | (k', v) :: ws, f, h => by
    simp only [List.map_cons, List.mem_cons, not_or] at h
    rw [ov, ov_out h.2, if_neg h.1]
theorem ov_same {k : κ} : ∀ {ws : List (κ × ν)} {f g : κ → ν}, f k = g k → ov ws f k = ov ws g k
  | [], _, _, h => h
  | (k', v) :: ws, f, g, h => by rw [ov, ov]; exact ov_same (by split <;> first | rfl | exact h)
theorem ov_in {k : κ} : ∀ {ws : List (κ × ν)} {f g : κ → ν}, k ∈ ws.map (·.1) → ov ws f k = ov ws g k
  | (k', v) :: ws, f, g, h => by
    rw [ov, ov]
    by_cases hm : k ∈ ws.map (·.1)
    · exact ov_in hm
    · simp only [List.map_cons, List.mem_cons] at h
      have := h.resolve_right hm
      exact ov_same (by simp [this])
theorem FS_agree {fl gl : Nat → Bool} {k : κ} : ∀ {as : List (List (κ × ν))} {i : Nat} {f g : κ → ν}, f k = g k →
    (∀ (j : Nat) (ws : List (κ × ν)), as[j]? = some ws → fl (i + j) ≠ gl (i + j) → k ∉ ws.map (·.1)) → FS fl i as f k = FS gl i as g k
  | [], _, _, _, h, _ => h
  | ws :: as, i, f, g, h, hd => by
    rw [FS, FS]
    refine FS_agree ?_ fun j ws' hj hne => hd (j + 1) ws' (by simpa using hj) (by rw [show i + (j + 1) = i + 1 + j by omega]; exact hne)
    have h0 := hd 0 ws (by simp)
    simp only [Nat.add_zero] at h0
    by_cases e : fl i = gl i
    · rw [e]; split
      · exact ov_same h
      · exact h
    · have := h0 e
      by_cases e1 : fl i = true
      · have e2 : gl i = false := by cases hg : gl i <;> simp_all
        rw [if_pos e1, if_neg (by simp [e2]), ov_out this]; exact h
      · have e2 : gl i = true := by cases hg : gl i <;> simp_all
        rw [if_neg e1, if_pos e2, ov_out this]; exact h
theorem FS_put {fl : Nat → Bool} {k : κ} {i0 : Nat} {ws0 : List (κ × ν)} (hk : k ∈ ws0.map (·.1)) (h0 : fl i0 = true) :
    ∀ {as : List (List (κ × ν))} {i j0 : Nat} {f g : κ → ν}, as[j0]? = some ws0 → i + j0 = i0 →
      (∀ (j : Nat) (ws : List (κ × ν)), as[j]? = some ws → i0 < i + j → fl (i + j) = true → k ∉ ws.map (·.1)) → FS fl i as f k = ov ws0 g k
  | [], _, _, _, _, h, _, _ => by simp at h
  | ws :: as, i, 0, f, g, h, hi, hd => by
    simp at h hi; subst h; subst hi
    rw [FS, if_pos h0]
    have e : FS fl (i + 1) as (ov ws f) k = FS (fun _ => false) (i + 1) as (ov ws f) k := FS_agree rfl fun j ws' hj hne => by
      refine hd (j + 1) ws' (by simpa using hj) (by omega) ?_
      rw [show i + (j + 1) = i + 1 + j by omega]; cases hf : fl (i + 1 + j) <;> simp_all
    have e2 : ∀ (as : List (List (κ × ν))) (i : Nat) (f : κ → ν), FS (fun _ => false) i as f k = f k := by
      intro as
      induction as with
      | nil => intro i f; rfl
      | cons a as ih => intro i f; rw [FS]; exact ih _ _
    rw [e, e2]
    exact ov_in hk
  | ws :: as, i, j0 + 1, f, g, h, hi, hd => by
    rw [FS]
    refine FS_put hk h0 (j0 := j0) (by simpa using h) (by omega) fun j ws' hj hlt hf => ?_
    exact hd (j + 1) ws' (by simpa using hj) (by omega) (by rw [show i + (j + 1) = i + 1 + j by omega]; exact hf)
end overlay

/-! ### what an operation's step means, at every state that reads as this one -/
/-- An action of a region: where its value goes, the value, the chunks it writes; what it reads. -/
structure DA where
  dst : Option Nat
  v : IV
  W : List (Nat × Chunk)
  rt : List Nat
  rc : List Nat
  m : Nat

def ActOK (P : Program) (X : Ctx) (n : Nat) (all : Array Oper) (o : Oper) (tm0 : TM) (H0 : Heap) (d : DA) : Prop :=
  ∀ (ρ : Ren) (tm : TM) (H : Heap) (a : Act) (w : World), H.length = H0.length → (∀ t ∈ d.rt, get tm t = get tm0 t) → (∀ c ∈ d.rc, H[c]? = H0[c]?) →
    (∀ k ∈ d.W.map (·.1), d.m ≤ k → H[k]? = some .gone ∧ ρ[k]? = some .void) → RelA X n ρ tm a → Inv X ρ H w → ∀ (K : Act → World → Prop) (Q : Exit → Act → World → Prop),
    (Region.wanted o (yielded all a.tmps) = false ∧ d.v = .t [] ∧ d.W = []) ∨
    (Region.wanted o (yielded all a.tmps) = true ∧
      ((∀ ρ' x w', Le ρ ρ' → VK ρ ρ' d.W → relI ρ' d.v x → Inv X ρ' (upd H d.W) w' → K (a.put o.dst x) w') → o.wp P a w K Q))

def ptrC : IV → List Nat
  | .s (.ptr c _ _) => [c]
  | .s (.slice c _ _) => [c]
  | .s (.sub c _ _ _ _) => [c]
  | _ => []
def cR (o : Op) (tm : TM) : List Nat :=
  match o with
  | .load _ p => ptrC (rd tm p)
  | .store _ p _ => ptrC (rd tm p)
  | .indexAddr _ p _ => ptrC (rd tm p)
  | .slice _ p _ _ _ => ptrC (rd tm p)
  | .convert _ _ p => ptrC (rd tm p)
  | .call c => match c.callee with
    | .builtin .append => c.args.toList.flatMap fun x => ptrC (rd tm x)
    | .builtin .copy => c.args.toList.flatMap fun x => ptrC (rd tm x)
    | _ => []
  | _ => []

theorem srcR_local {sz : Nat} {y : IV} {H H' : Heap} (hc : ∀ c ∈ ptrC y, H[c]? = H'[c]?) : srcR sz y H = srcR sz y H' := by
  unfold srcR
  split
  · rfl
  · rfl
  · rename_i c s n
    rw [hc c (by simp [ptrC])]
  · rename_i c i o k n
    rw [hc c (by simp [ptrC])]
  · rfl
theorem stAppend_local {P : Program} {m : Nat} {T T2 : TypeId} {x y : IV} {H H' : Heap} (h1 : ∀ c ∈ ptrC x, H[c]? = H'[c]?) (h2 : ∀ c ∈ ptrC y, H[c]? = H'[c]?) : stAppend P m T T2 x y H = stAppend P m T T2 x y H' := by
  unfold stAppend
  split
  · split
    · rw [srcR_local h2]
      split
      · split
        · rfl
        · rename_i c s n
          rw [h1 c (by simp [ptrC])]
        · rfl
      · rfl
    · rfl
  · rfl
theorem stCopy_local {P : Program} {T : TypeId} {x y : IV} {H H' : Heap} (h1 : ∀ c ∈ ptrC x, H[c]? = H'[c]?) (h2 : ∀ c ∈ ptrC y, H[c]? = H'[c]?) : stCopy P T x y H = stCopy P T x y H' := by
  unfold stCopy
  split
  · split
    · rfl
    · rw [srcR_local h2]
      split
      · split
        · rfl
        · rename_i c s n
          rw [h1 c (by simp [ptrC])]
        · rename_i c i o k n
          rw [h1 c (by simp [ptrC])]
        · rfl
      · rfl
  · rfl
theorem stSlice_local {P : Program} {T : TypeId} {x : IV} {lo hi : Option IV} {H H' : Heap} (h1 : ∀ c ∈ ptrC x, H[c]? = H'[c]?) : stSlice P T x lo hi H = stSlice P T x lo hi H' := by
  unfold stSlice
  split
  · rfl
  · rfl
  · rename_i c s n
    rw [h1 c (by simp [ptrC])]
  · rfl
  · rfl
  · rfl
  · rfl
theorem stConv2_local {P : Program} {m : Nat} {a b : TypeId} {x : IV} {H H' : Heap} (h1 : ∀ c ∈ ptrC x, H[c]? = H'[c]?) : stConv2 P m a b x H = stConv2 P m a b x H' := by
  unfold stConv2
  split
  · rfl
  · split
    · rfl
    · rw [srcR_local h1]

theorem rd_local {tm tm' : TM} {o : Op} (h : ∀ t, t ∈ o.operands.toList.filterMap (fun | .tmp t => some t | _ => none) → get tm t = get tm' t) {x : Operand} (hx : x ∈ o.operands) : rd tm x = rd tm' x := by
  cases x with
  | tmp t => exact h t (List.mem_filterMap.2 ⟨.tmp t, by simpa using hx, rfl⟩)
  | _ => rfl

theorem stepE_local {P : Program} {m : Nat} {o : Op} {tm tm' : TM} {H H' : Heap} (ht : ∀ t, t ∈ o.operands.toList.filterMap (fun | .tmp t => some t | _ => none) → get tm t = get tm' t)
    (hc : ∀ c ∈ cR o tm', H[c]? = H'[c]?) : stepE P m o tm H = stepE P m o tm' H' := by
  have r : ∀ {x : Operand}, x ∈ o.operands → rd tm x = rd tm' x := fun hx => rd_local ht hx
  have pr : ∀ (l : List (Nat × Operand)), (∀ p ∈ l, p.2 ∈ o.operands) → l.map (fun p => (p.1, rd tm p.2)) = l.map fun p => (p.1, rd tm' p.2) := fun l h => List.map_congr_left fun p hp => by rw [r (h p hp)]
  cases o with
  | move x => simp only [stepE, r (x := x) (by simp [Op.operands])]
  | assign x => simp only [stepE, r (x := x) (by simp [Op.operands])]
  | box T x => simp only [stepE, r (x := x) (by simp [Op.operands])]
  | load T p =>
    simp only [stepE, r (x := p) (by simp [Op.operands])]
    simp only [cR] at hc
    unfold stLoad
    split
    · rename_i c i o hp
      rw [hp] at hc
      rw [hc c (by simp [ptrC])]
    · rfl
  | store T p x =>
    simp only [stepE, r (x := p) (by simp [Op.operands]), r (x := x) (by simp [Op.operands])]
    simp only [cR] at hc
    unfold stStore
    split
    · rename_i c i o hp
      rw [hp] at hc
      rw [hc c (by simp [ptrC])]
    · rfl
  | nilCheck x => simp only [stepE, r (x := x) (by simp [Op.operands])]
  | binOp op T x y t => simp only [stepE, r (x := x) (by simp [Op.operands]), r (x := y) (by simp [Op.operands])]
  | unOp op T x => simp only [stepE, r (x := x) (by simp [Op.operands])]
  | convert s d x =>
    simp only [stepE, r (x := x) (by simp [Op.operands])]
    exact stConv2_local hc
  | slice T x lo hi mx =>
    cases mx with
    | some _ => rfl
    | none =>
      have hx := r (x := x) (by simp [Op.operands])
      have hlo : lo.map (rd tm) = lo.map (rd tm') := by
        cases lo with
        | none => rfl
        | some y => simp only [Option.map_some]; rw [r (x := y) (by simp [Op.operands])]
      have hhi : hi.map (rd tm) = hi.map (rd tm') := by
        cases hi with
        | none => rfl
        | some y => simp only [Option.map_some]; rw [r (x := y) (by simp [Op.operands])]
      simp only [stepE, hx, hlo, hhi]
      exact stSlice_local hc
  | sliceToArrayPointer A x => simp only [stepE, r (x := x) (by simp [Op.operands])]
  | fieldAddr T x f => simp only [stepE, r (x := x) (by simp [Op.operands])]
  | extract x i => simp only [stepE, r (x := x) (by simp [Op.operands])]
  | field T x f => simp only [stepE, r (x := x) (by simp [Op.operands])]
  | index T x i => simp only [stepE, r (x := x) (by simp [Op.operands]), r (x := i) (by simp [Op.operands])]
  | indexAddr T x i =>
    simp only [stepE, r (x := x) (by simp [Op.operands]), r (x := i) (by simp [Op.operands])]
    simp only [cR] at hc
    unfold stIndexAddr
    split
    · rfl
    · rename_i c s n k j hp hj
      rw [hp] at hc
      rw [hc c (by simp [ptrC])]
    · rfl
    · rfl
  | build T ps =>
    simp only [stepE]
    rw [pr ps.toList fun p hp => by simp only [Op.operands, List.mem_toArray, List.mem_map]; exact ⟨p, hp, rfl⟩]
  | buildSlice T n ps =>
    simp only [stepE]
    rw [pr ps.toList fun p hp => by simp only [Op.operands, List.mem_toArray, List.mem_map]; exact ⟨p, hp, rfl⟩]
  | makeSlice T x y => simp only [stepE, r (x := x) (by simp [Op.operands]), r (x := y) (by simp [Op.operands])]
  | call c =>
    simp only [stepE]
    have e : c.args.toList.map (rd tm) = c.args.toList.map (rd tm') := List.map_congr_left fun x hx => r (by simp [Op.operands, Call.operands]; right; simpa using hx)
    rw [e]
    simp only [cR] at hc
    split
    · rename_i b hb
      rw [hb] at hc
      unfold stBuiltin
      split
      · rfl
      · rfl
      · rfl
      · rename_i t t2 x y _ hx
        simp only at hc
        have hm : ∀ z, z ∈ c.args.toList.map (rd tm') → ∀ k ∈ ptrC z, H[k]? = H'[k]? := by
          intro z hz k hk
          obtain ⟨o, ho, rfl⟩ := List.mem_map.1 hz
          exact hc k (List.mem_flatMap.2 ⟨o, ho, hk⟩)
        rw [hx] at hm
        exact stAppend_local (hm x (by simp)) (hm y (by simp))
      · rename_i t t2 x y _ hx
        simp only at hc
        have hm : ∀ z, z ∈ c.args.toList.map (rd tm') → ∀ k ∈ ptrC z, H[k]? = H'[k]? := by
          intro z hz k hk
          obtain ⟨o, ho, rfl⟩ := List.mem_map.1 hz
          exact hc k (List.mem_flatMap.2 ⟨o, ho, hk⟩)
        rw [hx] at hm
        exact stCopy_local (hm x (by simp)) (hm y (by simp))
      · rfl
    · rfl
  | _ => rfl

/-! ### the walk in the order of the text -/
abbrev Inf := List Nat × List Nat

def drawI (m : Nat) (o : Oper) (tm : TM) (W : List (Nat × Chunk)) : Inf := (if m ∈ W.map (·.1) then m :: cR o.op tm else cR o.op tm, W.map (·.1))
def nextM (m : Nat) : List (Nat × Chunk) → Nat
  | [] => m
  | p :: W => if m ≤ p.1 then nextM (p.1 + 1) W else nextM m W
theorem nextM_le : ∀ (W : List (Nat × Chunk)) (m : Nat), m ≤ nextM m W
  | [], m => Nat.le_refl _
  | p :: W, m => by
    rw [nextM]; split
    · have := nextM_le W (p.1 + 1); omega
    · exact nextM_le W m
theorem nextM_lt : ∀ (W : List (Nat × Chunk)) (m : Nat), ∀ k ∈ W.map (·.1), k < nextM m W
  | [], m, k, h => by simp at h
  | p :: W, m, k, h => by
    rw [List.map_cons, List.mem_cons] at h
    rw [nextM]
    rcases h with rfl | h
    · split
      · have := nextM_le W (p.1 + 1); omega
      · have := nextM_le W m; omega
    · split
      · exact nextM_lt W _ k h
      · exact nextM_lt W _ k h
abbrev KD := Nat → List Inf → TM → Heap → Prop

def stepD (r : Res) (k : KD) (m : Nat) (acc : List Inf) (o : Oper) (tm : TM) (H : Heap) : Prop :=
  match r with
  | some (c, v, W) => c ∧ (m ∈ W.map (·.1) → m < H.length) ∧ k (nextM m W) (drawI m o tm W :: acc) (put tm o.dst v) (upd H W)
  | none => False
/-- A call in such a region: of a function that only reckons and reads. -/
def callD (P : Program) (X : Ctx) (m : Nat) (f : FuncId) (args : List IV) (H : Heap) (k : List Nat → IV → List (Nat × Chunk) → Prop) : Prop := ∃ σ r W, CallOK P X m f args H σ r W ∧ k σ r W
def retD (k : KD) (m : Nat) (acc : List Inf) (d : Option Nat) (tm : TM) (H : Heap) (σ : List Nat) (r : IV) (W : List (Nat × Chunk)) : Prop := k (nextM m W) ((σ, W.map (·.1)) :: acc) (put tm d r) (upd H W)
def putD (k : KD) (m : Nat) (acc : List Inf) (d : Option Nat) (x : Operand) (tm : TM) (H : Heap) : Prop := k m (([], []) :: acc) (put tm d (rd tm x)) H
def junkD (k : KD) (m : Nat) (acc : List Inf) (d : Option Nat) (tm : TM) (H : Heap) : Prop := k m (([], []) :: acc) (put tm d (.t [])) H

/-- Whatever other operation, that lays nothing new: what the model makes of it at every state that reads alike. -/
def GenOK (P : Program) (X : Ctx) (o : Oper) (tm0 : TM) (H0 : Heap) (σ : List Nat) (v : IV) (W : List (Nat × Chunk)) : Prop :=
  (∀ k ∈ W.map (·.1), k ∈ σ ∧ ∃ ch, H0[k]? = some ch ∧ ch ≠ .gone) ∧
  ∀ (n : Nat) (ρ : Ren) (tm : TM) (H : Heap) (a : Act) (w : World), H.length = H0.length → (∀ x ∈ o.op.operands, rd tm x = rd tm0 x) → (∀ c ∈ σ, H[c]? = H0[c]?) → RelA X n ρ tm a → Inv X ρ H w →
    ∃ (x : Value) (w' : World), ((execOp a.eval o).run P w = .ok (.value x) w' ∨ (execOp a.eval o).run P w = .ok .skip w' ∧ x = undef) ∧ relI ρ v x ∧ Inv X ρ (upd H W) w'
def genD (P : Program) (X : Ctx) (o : Oper) (tm : TM) (H : Heap) (k : List Nat → IV → List (Nat × Chunk) → Prop) : Prop := ∃ σ v W, GenOK P X o tm H σ v W ∧ k σ v W
/-- A function value's call in such a region. -/
def cloD (P : Program) (X : Ctx) (m : Nat) (x : IV) (args : List IV) (H : Heap) (k : List Nat → IV → List (Nat × Chunk) → Prop) : Prop :=
  match x with
  | .s (.raw (.func (.func f) fs cs)) => if fs.size = 0 ∧ cs.size = 0 then callD P X m f args H k else False
  | .s (.ref c) => match H[c]? with
    | some (.clo (.func f) first cap) => callD P X m f (first ++ (args ++ cap)) H fun σ r W => k (c :: σ) r W
    | _ => False
  | _ => False
def stepDG (r : Res) (g : Prop) (k : KD) (m : Nat) (acc : List Inf) (o : Oper) (tm : TM) (H : Heap) : Prop :=
  match r with
  | some (c, v, W) => c ∧ (m ∈ W.map (·.1) → m < H.length) ∧ k (nextM m W) (drawI m o tm W :: acc) (put tm o.dst v) (upd H W)
  | none => g

def opD (P : Program) (X : Ctx) (o : Oper) (k : KD) (m : Nat) (acc : List Inf) (tm : TM) (H : Heap) : Prop :=
  match o.op with
  | .call c => match c.callee with
    | .value (.func f) => callD P X m f (c.args.toList.map (rd tm)) H (retD k m acc o.dst tm H)
    | .value (.tmp t) => cloD P X m (get tm t) (c.args.toList.map (rd tm)) H (retD k m acc o.dst tm H)
    | .builtin _ => stepDG (stepE P m o.op tm H) (genD P X o tm H (retD k m acc o.dst tm H)) k m acc o tm H
    | _ => stepD (stepE P m o.op tm H) k m acc o tm H
  | .pick c x y => gd (boolOf (rd tm c)) (putD k m acc o.dst x) (putD k m acc o.dst y) tm H
  | .lookup _ _ _ _ => genD P X o tm H (retD k m acc o.dst tm H)
  | .mapUpdate _ _ _ _ => genD P X o tm H (retD k m acc o.dst tm H)
  | .insert _ _ _ _ => genD P X o tm H (retD k m acc o.dst tm H)
  | op => stepD (stepE P m op tm H) k m acc o tm H

def evD (P : Program) (X : Ctx) (all : Array Oper) (K : KD) : List Oper → KD
  | [], m, acc, tm, H => K m acc tm H
  | o :: os, m, acc, tm, H => gd (guardB all tm o.guard) (opD P X o (evD P X all K os) m acc) (junkD (evD P X all K os) m acc o.dst) tm H

/-! ### which operations stand apart -/
def depsOf (o : Oper) : List Nat := (o.after.toList.filter fun e => Region.binds .any e).map (·.on)
/-- For each operation those that always run ahead of it (the elder ones' lists are handed in). -/
def ancs (tab : List (List Nat)) (o : Oper) : List Nat := ((depsOf o) ++ (depsOf o).flatMap fun d => tab.getD d []).eraseDups
def ancTab : List (List Nat) → List Oper → List (List Nat)
  | tab, [] => tab
  | tab, o :: os => ancTab (tab ++ [ancs tab o]) os

def disj (a b : List Nat) : Bool := a.all fun x => !b.contains x
def apartB (all : Array Oper) (x y : Oper) (i j : Inf) : Bool :=
  disj x.dst.toList (y.looksAt all) && disj x.dst.toList y.dst.toList && disj y.dst.toList (x.looksAt all) && disj i.2 j.1 && disj i.2 j.2 && disj j.2 i.1

def rowOk (all : Array Oper) (anc : List Nat) (y : Oper) (j : Inf) : Nat → List Oper → List Inf → Bool
  | i, x :: xs, a :: as => (anc.contains i || apartB all x y a j) && rowOk all anc y j (i + 1) xs as
  | _, _, _ => true
/-- Each operation against all ahead of it. -/
def apartAll (all : Array Oper) (tab : List (List Nat)) (os : List Oper) (infs : List Inf) : List Nat → Bool
  | [] => true
  | j :: js => (match os[j]?, infs[j]? with
    | some y, some b => rowOk all (tab.getD j []) y b 0 (os.take j) (infs.take j)
    | _, _ => true) && apartAll all tab os infs js

/-- Edges lead back. -/
def backOk : Nat → List Oper → Bool
  | _, [] => true
  | i, o :: os => (depsOf o).all (· < i) && backOk (i + 1) os

def drawOk (all : Array Oper) (infs : List Inf) : Bool :=
  backOk 0 all.toList && apartAll all (ancTab [] all.toList) all.toList infs (List.range all.size)

def drawFin (all : Array Oper) (K : TM → Heap → Prop) : KD := fun m acc tm H => drawOk all acc.reverse = true ∧ m ≤ H.length ∧ K tm H

section
variable {P : Program} {X : Ctx} {n : Nat} {all : Array Oper}

/-- Which chunks a step writes: the new one, or such as are there. -/
theorem stepE_W {m : Nat} {o : Op} {tm : TM} {H : Heap} {c : Prop} {v : IV} {W : List (Nat × Chunk)} (h : stepE P m o tm H = some (c, v, W)) : ∀ k ∈ W.map (·.1), k = m ∨ ∃ sz els, H[k]? = some (.rows true sz els) := by
  intro k hk
  have nil : W = [] → k = m ∨ ∃ sz els, H[k]? = some (.rows true sz els) := fun e => by subst e; simp at hk
  have new : ∀ {ch}, W = [(m, ch)] → k = m ∨ ∃ sz els, H[k]? = some (.rows true sz els) := fun e => by subst e; simp at hk; exact .inl hk
  cases o with
  | move x => simp only [stepE, Option.some.injEq, Prod.mk.injEq] at h; exact nil h.2.2.symm
  | assign x => simp only [stepE, Option.some.injEq, Prod.mk.injEq] at h; exact nil h.2.2.symm
  | alloc T =>
    simp only [stepE] at h; unfold stAlloc at h
    split at h
    · split at h
      · simp only [Option.some.injEq, Prod.mk.injEq] at h; exact new h.2.2.symm
      · cases h
    · cases h
  | box T x =>
    simp only [stepE] at h; unfold stBox at h
    split at h
    · simp only [Option.some.injEq, Prod.mk.injEq] at h; exact new h.2.2.symm
    · cases h
  | load T p => simp only [stepE] at h; unfold stLoad at h; repeat (first | (split at h) | (cases h; exact nil rfl) | cases h)
  | store T p x =>
    simp only [stepE] at h; unfold stStore at h
    split at h
    · split at h
      · rename_i hc
        split at h
        · split at h
          · split at h
            · split at h
              · simp only [Option.some.injEq, Prod.mk.injEq] at h
                obtain ⟨_, _, rfl⟩ := h
                simp at hk; subst hk
                exact .inr ⟨_, _, hc⟩
              · cases h
            · cases h
          · cases h
        · cases h
      · cases h
    · cases h
  | nilCheck x => simp only [stepE] at h; unfold stNilCheck at h; repeat (first | (split at h) | (cases h; exact nil rfl) | cases h)
  | binOp op T x y t => simp only [stepE] at h; unfold stBin at h; repeat (first | (split at h) | (cases h; exact nil rfl) | cases h)
  | unOp op T x => simp only [stepE] at h; unfold stUn at h; repeat (first | (split at h) | (cases h; exact nil rfl) | cases h)
  | convert s d x =>
    simp only [stepE] at h; unfold stConv2 stConv at h
    repeat' (first | (cases h; done) | (simp only [Option.some.injEq, Prod.mk.injEq] at h; exact nil h.2.2.symm) | (simp only [Option.some.injEq, Prod.mk.injEq] at h; exact new h.2.2.symm) | (split at h))
  | slice T x lo hi mx =>
    simp only [stepE] at h
    cases mx with
    | some _ => cases h
    | none =>
      unfold stSlice at h
      repeat' (first | (cases h; done) | (simp only [Option.some.injEq, Prod.mk.injEq] at h; exact nil h.2.2.symm) | (split at h))
  | sliceToArrayPointer A x =>
    simp only [stepE] at h; unfold stArr at h
    repeat' (first | (cases h; done) | (simp only [Option.some.injEq, Prod.mk.injEq] at h; exact nil h.2.2.symm) | (split at h))
  | fieldAddr T x f => simp only [stepE] at h; unfold stField at h; repeat (first | (split at h) | (cases h; exact nil rfl) | cases h)
  | extract x i => simp only [stepE] at h; unfold stExtract at h; repeat (first | (split at h) | (cases h; exact nil rfl) | cases h)
  | field T x f => simp only [stepE] at h; unfold stFieldV at h; repeat (first | (split at h) | (cases h; exact nil rfl) | cases h)
  | index T x i => simp only [stepE] at h; unfold stIndex at h; repeat (first | (split at h) | (cases h; exact nil rfl) | cases h)
  | indexAddr T x i => simp only [stepE] at h; unfold stIndexAddr at h; repeat (first | (split at h) | (cases h; exact nil rfl) | cases h)
  | build T ps => simp only [stepE] at h; unfold stBuild at h; repeat (first | (split at h) | (cases h; exact nil rfl) | cases h)
  | buildSlice T k ps =>
    simp only [stepE] at h; unfold stBuildSlice at h
    repeat (first | (split at h) | (simp only [Option.some.injEq, Prod.mk.injEq] at h; exact new h.2.2.symm) | cases h)
  | makeSlice T x y =>
    simp only [stepE] at h; unfold stMakeSlice at h
    repeat (first | (split at h) | (simp only [Option.some.injEq, Prod.mk.injEq] at h; exact new h.2.2.symm) | cases h)
  | call cl =>
    simp only [stepE] at h
    split at h
    · unfold stBuiltin at h
      split at h
      · unfold stLen at h; repeat (first | (split at h) | (cases h; exact nil rfl) | cases h)
      · unfold stMin at h; repeat (first | (split at h) | (cases h; exact nil rfl) | cases h)
      · unfold stMax at h; repeat (first | (split at h) | (cases h; exact nil rfl) | cases h)
      · unfold stAppend at h
        split at h
        · split at h
          · split at h
            · split at h
              · simp only [Option.some.injEq, Prod.mk.injEq] at h; exact new h.2.2.symm
              · rename_i c0 s n _
                split at h
                · rename_i sz els hc0
                  split at h
                  · split at h
                    · simp only [Option.some.injEq, Prod.mk.injEq] at h
                      obtain ⟨_, _, rfl⟩ := h
                      simp at hk
                      rcases hk with rfl | rfl
                      · exact .inr ⟨_, _, hc0⟩
                      · exact .inl rfl
                    · cases h
                  · cases h
                · cases h
              · cases h
            · cases h
          · cases h
        · cases h
      · unfold stCopy at h
        split at h
        · split at h
          · cases h
          · split at h
            · split at h
              · simp only [Option.some.injEq, Prod.mk.injEq] at h; exact nil h.2.2.symm
              · split at h
                · rename_i hc0
                  split at h
                  · split at h
                    · simp only [Option.some.injEq, Prod.mk.injEq] at h
                      obtain ⟨_, _, rfl⟩ := h
                      simp at hk; subst hk
                      exact .inr ⟨_, _, hc0⟩
                    · cases h
                  · cases h
                · cases h
              · split at h
                · rename_i hc0
                  split at h
                  · split at h
                    · split at h
                      · simp only [Option.some.injEq, Prod.mk.injEq] at h
                        obtain ⟨_, _, rfl⟩ := h
                        simp at hk; subst hk
                        exact .inr ⟨_, _, hc0⟩
                      · cases h
                    · cases h
                  · cases h
                · cases h
              · cases h
            · cases h
        · cases h
      · cases h
    · cases h
  | _ => cases h

def runT : TM → List DA → TM
  | tm, [] => tm
  | tm, d :: ds => runT (put tm d.dst d.v) ds
def runH : Heap → List DA → Heap
  | H, [] => H
  | H, d :: ds => runH (upd H d.W) ds
def infOf (d : DA) : Inf := (d.rc, d.W.map (·.1))

theorem upd_len : ∀ {W : List (Nat × Chunk)} {H : Heap}, (∀ k ∈ W.map (·.1), k < H.length) → (upd H W).length = H.length
  | [], _, _ => rfl
  | (c, ch) :: W, H, h => by
    have hc : c < H.length := h c (by simp)
    have e : (up1 H c ch).length = H.length := by unfold up1; rw [if_neg (by omega)]; simp
    rw [upd, upd_len (by rw [e]; exact fun k hk => h k (by simp only [List.map_cons, List.mem_cons]; exact .inr hk)), e]

theorem upd_get : ∀ {W : List (Nat × Chunk)} {H : Heap}, (∀ k ∈ W.map (·.1), k < H.length) → ∀ c : Nat, (upd H W)[c]? = ov (W.map fun p => (p.1, some p.2)) (fun c => H[c]?) c
  | [], _, _, _ => rfl
  | (k, ch) :: W, H, h, c => by
    have hk : k < H.length := h k (by simp)
    have e : up1 H k ch = H.set k ch := by unfold up1; rw [if_neg (by omega)]
    rw [upd, e, upd_get (by simp only [List.length_set]; exact fun j hj => h j (by simp only [List.map_cons, List.mem_cons]; exact .inr hj)), List.map_cons, ov]
    refine ov_same ?_
    by_cases e2 : c = k
    · subst e2; simp [hk]
    · rw [if_neg e2, List.getElem?_set_ne (Ne.symm e2)]

theorem get_put {tm : TM} {d : Option Nat} {v : IV} {t : Nat} : get (put tm d v) t = ov (match d with | some x => [(x, v)] | none => []) (get tm) t := by
  cases d with
  | none => rfl
  | some x =>
    simp only [put, get, ov]
    by_cases e : x = t
    · rw [if_pos e, if_pos e.symm]
    · rw [if_neg e, if_neg (fun h => e h.symm)]

theorem guard_local {tm tm' : TM} {o : Oper} (h : ∀ t ∈ o.looksAt all, get tm t = get tm' t) : guardB all tm o.guard = guardB all tm' o.guard := by
  unfold guardB
  split
  · rfl
  · rename_i j want hg
    split
    · rename_i d hd
      rw [h d (by unfold Oper.looksAt; rw [hg]; simp only; rw [hd]; simp)]
    · rfl

theorem act_skip {o : Oper} {tm : TM} {H : Heap} {m : Nat} (hall : ∀ (j : Nat) (q : Oper), all[j]? = some q → operOk n q = true) (hg : guardB all tm o.guard = some false) : ActOK P X n all o tm H ⟨o.dst, .t [], [], o.looksAt all, [], m⟩ := by
  intro ρ tm' H' a w _ ht _ _ ha hi K Q
  left
  have hg' : guardB all tm' o.guard = some false := by
    rw [← hg]
    exact guard_local fun d hd => ht d hd
  exact ⟨guard_wanted ha hall hg', rfl, rfl⟩

theorem stepE_any {m m' : Nat} {o : Op} {tm : TM} {H : Heap} {c : Prop} {v : IV} {W : List (Nat × Chunk)} (h : stepE P m o tm H = some (c, v, W)) (hW : m ∉ W.map (·.1)) : stepE P m' o tm H = some (c, v, W) := by
  cases o with
  | alloc T =>
    simp only [stepE] at h; unfold stAlloc at h
    split at h
    · split at h
      · cases h; simp at hW
      · cases h
    · cases h
  | box T x =>
    simp only [stepE] at h; unfold stBox at h
    split at h
    · cases h; simp at hW
    · cases h
  | buildSlice T k ps =>
    simp only [stepE] at h; unfold stBuildSlice at h
    repeat' (first | (cases h; done) | (cases h; simp at hW; done) | (split at h))
  | makeSlice T x y =>
    simp only [stepE] at h; unfold stMakeSlice at h
    repeat' (first | (cases h; done) | (cases h; simp at hW; done) | (split at h))
  | call cl =>
    simp only [stepE] at h ⊢
    split at h
    · unfold stBuiltin at h ⊢
      split at h
      · exact h
      · exact h
      · exact h
      · unfold stAppend at h
        repeat' (first | (cases h; done) | (cases h; simp at hW; done) | (split at h))
      · exact h
      · cases h
    · cases h
  | convert s d x =>
    simp only [stepE] at h ⊢
    unfold stConv2 at h ⊢
    split at h
    · rename_i hi; rw [if_pos hi]; exact h
    · rename_i hi
      rw [if_neg hi]
      split at h
      · repeat' (first | (cases h; done) | (cases h; simp at hW; done) | (split at h))
        all_goals (simp_all)
      · exact h
  | _ => exact h

theorem act_step {o : Oper} {tm : TM} {H : Heap} {m : Nat} {c : Prop} {v : IV} {W : List (Nat × Chunk)} (hall : ∀ (j : Nat) (q : Oper), all[j]? = some q → operOk n q = true)
    (hg : guardB all tm o.guard = some true) (hs : stepE P m o.op tm H = some (c, v, W)) (hc : c) : ActOK P X n all o tm H ⟨o.dst, v, W, o.looksAt all, (drawI m o tm W).1, m⟩ := by
  intro ρ tm' H' a w hlen ht hcs hm ha hi K Q
  right
  have hg' : guardB all tm' o.guard = some true := by
    rw [← hg]; exact guard_local fun d hd => ht d hd
  refine ⟨guard_wanted ha hall hg', fun hK => ?_⟩
  have hs' : stepE P m o.op tm' H' = some (c, v, W) := by
    rw [← hs]
    refine stepE_local (fun t h => ht t (List.mem_append_left _ h)) fun k hk => hcs k ?_
    simp only [drawI]
    split
    · exact List.mem_cons_of_mem _ hk
    · exact hk
  unfold Oper.wp
  have fin : StepOK P X ρ (execOp a.eval o) w v H' W → o.upon P a K Q ((execOp a.eval o).run P w) := by
    rintro ⟨ρ2, x, w', hpre, hvk, hr, hinv, hrun⟩
    rcases hrun with hrun | ⟨hrun, rfl⟩
    · rw [hrun, Oper.upon_value]; exact hK ρ2 x w' hpre hvk hr hinv
    · rw [hrun, Oper.upon_skip]; exact hK ρ2 undef w' hpre hvk hr hinv
  by_cases hW : m ∈ W.map (·.1)
  · obtain ⟨h1, h2⟩ := hm m hW (Nat.le_refl _)
    exact fin (step_sound ha hi (.inr ⟨h1, h2⟩) hs' hc)
  · -- nothing new: the step is the same with any number for a new chunk
    have hs2 : stepE P H'.length o.op tm' H' = some (c, v, W) := stepE_any hs' hW
    exact fin (step_sound ha hi (.inl rfl) hs2 hc)

theorem act_pick {o : Oper} {tm : TM} {H : Heap} {m : Nat} {cnd x y : Operand} {b : Bool} (hall : ∀ (j : Nat) (q : Oper), all[j]? = some q → operOk n q = true)
    (hg : guardB all tm o.guard = some true) (hop : o.op = .pick cnd x y) (hb : boolOf (rd tm cnd) = some b) : ActOK P X n all o tm H ⟨o.dst, rd tm (if b then x else y), [], o.looksAt all, [], m⟩ := by
  intro ρ tm' H' a w hlen ht hcs hm ha hi K Q
  right
  have hg' : guardB all tm' o.guard = some true := by
    rw [← hg]; exact guard_local fun d hd => ht d hd
  refine ⟨guard_wanted ha hall hg', fun hK => ?_⟩
  have hr : ∀ {z : Operand}, z ∈ o.op.operands → rd tm' z = rd tm z := fun hz => rd_local (fun t h => ht t (List.mem_append_left _ h)) hz
  have e1 : rd tm' cnd = rd tm cnd := hr (by rw [hop]; simp [Op.operands])
  have e2 : rd tm' x = rd tm x := hr (by rw [hop]; simp [Op.operands])
  have e3 : rd tm' y = rd tm y := hr (by rw [hop]; simp [Op.operands])
  have hcv := relI_bool (rd_rel ha cnd) (by rw [e1]; exact hb)
  have hex : (execOp a.eval o).run P w = .ok (.value (if b then a.eval x else a.eval y)) w := by
    simp [execOp, hop, hcv, asBool]
  unfold Oper.wp
  rw [hex, Oper.upon_value]
  refine hK ρ _ w (Le.refl _) (VK.refl _ _) ?_ hi
  cases b with
  | true => simp only [if_true]; rw [← e2]; exact rd_rel ha x
  | false => simp only [Bool.false_eq_true, if_false]; rw [← e3]; exact rd_rel ha y

theorem act_call {o : Oper} {tm : TM} {H : Heap} {m : Nat} {c : Call} {f : FuncId} {r : IV} {σ : List Nat} {W : List (Nat × Chunk)} (hall : ∀ (j : Nat) (q : Oper), all[j]? = some q → operOk n q = true)
    (hg : guardB all tm o.guard = some true) (hop : o.op = .call c) (hcal : c.callee = .value (.func f)) (hf : CallOK P X m f (c.args.toList.map (rd tm)) H σ r W) :
    ActOK P X n all o tm H ⟨o.dst, r, W, o.looksAt all, σ, m⟩ := by
  intro ρ tm' H' a w hlen ht hcs hm ha hi K Q
  right
  have hg' : guardB all tm' o.guard = some true := by
    rw [← hg]; exact guard_local fun d hd => ht d hd
  refine ⟨guard_wanted ha hall hg', fun hK => ?_⟩
  have e : c.args.toList.map (rd tm) = c.args.toList.map (rd tm') := List.map_congr_left fun x hx => (rd_local (o := o.op) (fun t h => ht t (List.mem_append_left _ h)) (by rw [hop]; simp [Op.operands, Call.operands]; right; simpa using hx)).symm
  have hargs := relA_list ha c.args.toList
  rw [← e] at hargs
  have hent := hf.1
  have hex : (execOp a.eval o).run P w = .ok (.enter f (c.args.map a.eval)) w := by
    unfold enters at hent
    split at hent
    · rename_i fn hfn
      simp only [Bool.and_eq_true, Bool.not_eq_true', Option.isSome_iff_exists] at hent
      obtain ⟨⟨body, hbody⟩, hname⟩ := hent
      have hn : ¬ fn.name = "runtime.NumGoroutine" := by simpa using hname
      simp [execOp, hop, resolve, hcal, Act.eval, Deferred.ofValue, invoke, callFunc, hfn, hn, hbody]
    · cases hent
  unfold Oper.wp
  rw [hex, Oper.upon_enter]
  have e2 : (List.map a.eval c.args.toList).toArray = c.args.map a.eval := by apply Array.ext'; simp only [Array.toList_map]
  have hc := hf.2.2 ρ H' w _ hcs hm hargs hi
  rw [e2] at hc
  refine hc.mono ?_
  rintro _ w' ⟨v, ρ', rfl, hpre, hvk, hrel, hinv⟩
  exact hK ρ' v w' hpre hvk hrel hinv

theorem act_gen {o : Oper} {tm : TM} {H : Heap} {m : Nat} {v : IV} {σ : List Nat} {W : List (Nat × Chunk)} (hall : ∀ (j : Nat) (q : Oper), all[j]? = some q → operOk n q = true)
    (hg : guardB all tm o.guard = some true) (hf : GenOK P X o tm H σ v W) : ActOK P X n all o tm H ⟨o.dst, v, W, o.looksAt all, σ, m⟩ := by
  intro ρ tm' H' a w hlen ht hcs hm ha hi K Q
  right
  have hg' : guardB all tm' o.guard = some true := by
    rw [← hg]; exact guard_local fun d hd => ht d hd
  refine ⟨guard_wanted ha hall hg', fun hK => ?_⟩
  obtain ⟨x, w', hrun, hrel, hinv⟩ := hf.2 n ρ tm' H' a w hlen (fun x hx => rd_local (fun t h => ht t (List.mem_append_left _ h)) hx) hcs ha hi
  unfold Oper.wp
  rcases hrun with hrun | ⟨hrun, rfl⟩
  · rw [hrun, Oper.upon_value]; exact hK ρ x w' (Le.refl _) (VK.refl _ _) hrel hinv
  · rw [hrun, Oper.upon_skip]; exact hK ρ undef w' (Le.refl _) (VK.refl _ _) hrel hinv
theorem act_clo {o : Oper} {tm : TM} {H : Heap} {m : Nat} {c : Call} {tc ch : Nat} {f : FuncId} {first cap : List IV} {r : IV} {σ : List Nat} {W : List (Nat × Chunk)} (hall : ∀ (j : Nat) (q : Oper), all[j]? = some q → operOk n q = true)
    (hg : guardB all tm o.guard = some true) (hop : o.op = .call c) (hcal : c.callee = .value (.tmp tc)) (htc : get tm tc = .s (.ref ch)) (hch : H[ch]? = some (.clo (.func f) first cap))
    (hf : CallOK P X m f (first ++ (c.args.toList.map (rd tm) ++ cap)) H σ r W) :
    ActOK P X n all o tm H ⟨o.dst, r, W, o.looksAt all, ch :: σ, m⟩ := by
  intro ρ tm' H' a w hlen ht hcs hm ha hi K Q
  right
  have hg' : guardB all tm' o.guard = some true := by
    rw [← hg]; exact guard_local fun d hd => ht d hd
  refine ⟨guard_wanted ha hall hg', fun hK => ?_⟩
  have e : c.args.toList.map (rd tm) = c.args.toList.map (rd tm') := List.map_congr_left fun x hx => (rd_local (o := o.op) (fun t h => ht t (List.mem_append_left _ h)) (by rw [hop]; simp [Op.operands, Call.operands]; right; simpa using hx)).symm
  have e0 : rd tm' (.tmp tc) = rd tm (.tmp tc) := rd_local (o := o.op) (fun t h => ht t (List.mem_append_left _ h)) (by rw [hop]; simp [Op.operands, Call.operands, hcal])
  have hargs := relA_list ha c.args.toList
  rw [← e] at hargs
  have hr := rd_rel ha (.tmp tc)
  rw [e0] at hr
  simp only [rd, htc] at hr
  have hch' : H'[ch]? = some (.clo (.func f) first cap) := by rw [hcs ch (by simp)]; exact hch
  obtain ⟨l, hl, f', c', rfl, hff, hcap⟩ := hi.sat ch _ hch'
  have hv : a.eval (.tmp tc) = .func (.func f) f'.toArray c'.toArray := by
    rcases hr with ⟨b', h⟩ | ⟨h, _⟩
    · rw [hl] at h; cases h
    · rw [hl, Option.some.injEq, Pl.val.injEq] at h; exact h.symm
  unfold Oper.wp
  rw [clo_run hop hcal hv hf.1, Oper.upon_enter]
  have e2 : (List.map a.eval c.args.toList).toArray = c.args.map a.eval := by apply Array.ext'; simp only [Array.toList_map]
  have hc := hf.2.2 ρ H' w _ (fun c hc => hcs c (List.mem_cons_of_mem _ hc)) hm (relA_append (relA_of_relT hff) (relA_append hargs (relA_of_relT hcap))) hi
  have e3 : (f' ++ (List.map a.eval c.args.toList ++ c')).toArray = f'.toArray ++ c.args.map a.eval ++ c'.toArray := by rw [← e2]; simp
  rw [e3] at hc
  refine hc.mono ?_
  rintro _ w' ⟨v, ρ', rfl, hpre, hvk, hrel, hinv⟩
  exact hK ρ' v w' hpre hvk hrel hinv

theorem act_cloF {o : Oper} {tm : TM} {H : Heap} {m : Nat} {c : Call} {tc : Nat} {f : FuncId} {fs cs : Array Value} {r : IV} {σ : List Nat} {W : List (Nat × Chunk)} (hall : ∀ (j : Nat) (q : Oper), all[j]? = some q → operOk n q = true)
    (hg : guardB all tm o.guard = some true) (hop : o.op = .call c) (hcal : c.callee = .value (.tmp tc)) (htc : get tm tc = .s (.raw (.func (.func f) fs cs))) (hz : fs.size = 0 ∧ cs.size = 0)
    (hf : CallOK P X m f (c.args.toList.map (rd tm)) H σ r W) :
    ActOK P X n all o tm H ⟨o.dst, r, W, o.looksAt all, σ, m⟩ := by
  intro ρ tm' H' a w hlen ht hcs hm ha hi K Q
  right
  have hg' : guardB all tm' o.guard = some true := by
    rw [← hg]; exact guard_local fun d hd => ht d hd
  refine ⟨guard_wanted ha hall hg', fun hK => ?_⟩
  have e : c.args.toList.map (rd tm) = c.args.toList.map (rd tm') := List.map_congr_left fun x hx => (rd_local (o := o.op) (fun t h => ht t (List.mem_append_left _ h)) (by rw [hop]; simp [Op.operands, Call.operands]; right; simpa using hx)).symm
  have e0 : rd tm' (.tmp tc) = rd tm (.tmp tc) := rd_local (o := o.op) (fun t h => ht t (List.mem_append_left _ h)) (by rw [hop]; simp [Op.operands, Call.operands, hcal])
  have hargs := relA_list ha c.args.toList
  rw [← e] at hargs
  have hr := rd_rel ha (.tmp tc)
  rw [e0] at hr
  simp only [rd, htc] at hr
  have hv : a.eval (.tmp tc) = .func (.func f) #[] #[] := by
    rw [show a.eval (.tmp tc) = .func (.func f) fs cs from hr.1, Array.eq_empty_of_size_eq_zero hz.1, Array.eq_empty_of_size_eq_zero hz.2]
  unfold Oper.wp
  rw [clo_run hop hcal hv hf.1, Oper.upon_enter]
  have e2 : (List.map a.eval c.args.toList).toArray = c.args.map a.eval := by apply Array.ext'; simp only [Array.toList_map]
  have hc := hf.2.2 ρ H' w _ hcs hm hargs hi
  have e3 : (List.map a.eval c.args.toList).toArray = #[] ++ c.args.map a.eval ++ #[] := by rw [← e2]; simp
  rw [e3] at hc
  refine hc.mono ?_
  rintro _ w' ⟨v, ρ', rfl, hpre, hvk, hrel, hinv⟩
  exact hK ρ' v w' hpre hvk hrel hinv

/-- What the walk in the order of the text leaves: an action for each operation. -/
theorem evD_acts {K : KD} (hall : ∀ (j : Nat) (q : Oper), all[j]? = some q → operOk n q = true) : ∀ (os : List Oper) (m : Nat) (acc : List Inf) (tm : TM) (H : Heap),
    (∀ k : Nat, m ≤ k → k < H.length → H[k]? = some .gone) → evD P X all K os m acc tm H →
    ∃ (ds : List DA) (m' : Nat), ds.length = os.length ∧ K m' ((ds.map infOf).reverse ++ acc) (runT tm ds) (runH H ds) ∧ m ≤ m' ∧
      ∀ (i : Nat) (o : Oper) (d : DA), os[i]? = some o → ds[i]? = some d → d.dst = o.dst ∧ d.rt = o.looksAt all ∧ ActOK P X n all o (runT tm (ds.take i)) (runH H (ds.take i)) d ∧
        (∀ k ∈ d.W.map (·.1), d.m ≤ k → k ∈ d.rc) ∧ m ≤ d.m ∧ (∀ k ∈ d.W.map (·.1), k < nextM d.m d.W ∧ k < H.length) ∧
        (∀ (j : Nat) (dj : DA), j < i → ds[j]? = some dj → nextM dj.m dj.W ≤ d.m) ∧ d.m ≤ m'
  | [], m, acc, tm, H, _, h => ⟨[], m, rfl, by simpa [evD, runT, runH] using h, Nat.le_refl _, fun i o d h => by simp at h⟩
  | o :: os, m, acc, tm, H, hgone, h => by
    -- one action, then the rest
    have one : ∀ (d : DA), d.dst = o.dst → d.rt = o.looksAt all → d.m = m → ActOK P X n all o tm H d → (∀ k ∈ d.W.map (·.1), d.m ≤ k → k ∈ d.rc) → (∀ k ∈ d.W.map (·.1), m ≤ k ∨ ∃ ch, H[k]? = some ch ∧ ch ≠ .gone) →
        (m ∈ d.W.map (·.1) → m < H.length ∨ True) → evD P X all K os (nextM m d.W) (infOf d :: acc) (put tm d.dst d.v) (upd H d.W) →
        (∀ k ∈ d.W.map (·.1), k < H.length) →
        ∃ (ds : List DA) (m' : Nat), ds.length = (o :: os).length ∧ K m' ((ds.map infOf).reverse ++ acc) (runT tm ds) (runH H ds) ∧ m ≤ m' ∧
      ∀ (i : Nat) (o' : Oper) (d : DA), (o :: os)[i]? = some o' → ds[i]? = some d → d.dst = o'.dst ∧ d.rt = o'.looksAt all ∧ ActOK P X n all o' (runT tm (ds.take i)) (runH H (ds.take i)) d ∧
        (∀ k ∈ d.W.map (·.1), d.m ≤ k → k ∈ d.rc) ∧ m ≤ d.m ∧ (∀ k ∈ d.W.map (·.1), k < nextM d.m d.W ∧ k < H.length) ∧
        (∀ (j : Nat) (dj : DA), j < i → ds[j]? = some dj → nextM dj.m dj.W ≤ d.m) ∧ d.m ≤ m' := by
      intro d h1 h2 h3 h4 h5 h6 _ h7 h8
      have hl := upd_len h8
      have hm1 : m ≤ nextM m d.W := nextM_le _ _
      have hgone' : ∀ k : Nat, nextM m d.W ≤ k → k < (upd H d.W).length → (upd H d.W)[k]? = some .gone := by
        intro k hk hk2
        rw [hl] at hk2
        have hnot : k ∉ d.W.map (·.1) := fun hin => by
          have := nextM_lt d.W m k hin
          omega
        rw [upd_get h8, ov_out (by simpa using hnot)]
        exact hgone k (by omega) hk2
      obtain ⟨ds, m', hlen, hK, hmm, hds⟩ := evD_acts hall os (nextM m d.W) (infOf d :: acc) _ _ hgone' h7
      refine ⟨d :: ds, m', by simp [hlen], by simpa [runT, runH] using hK, by omega, fun i o' e hi he => ?_⟩
      cases i with
      | zero =>
        simp at hi he; subst hi; subst he
        refine ⟨h1, h2, h4, h5, by omega, fun k hk => ?_, fun j _ hj => by omega, by omega⟩
        have hk2 := h8 k hk
        rw [h3]
        exact ⟨nextM_lt d.W m k hk, hk2⟩
      | succ i =>
        simp at hi he
        obtain ⟨a1, a2, a3, a4, a5, a6, a7, a8⟩ := hds i o' e hi he
        refine ⟨a1, a2, a3, a4, by omega, fun k hk => ?_, fun j dj hj hdj => ?_, a8⟩
        · have h := a6 k hk
          exact ⟨h.1, by omega⟩
        · cases j with
          | zero =>
            simp at hdj; subst hdj
            rw [h3]; exact a5
          | succ j => exact a7 j dj (by omega) (by simpa using hdj)
    simp only [evD, gd] at h
    split at h
    · rename_i b hg
      cases b with
      | false =>
        rw [gdb_false] at h
        exact one ⟨o.dst, .t [], [], o.looksAt all, [], m⟩ rfl rfl rfl (act_skip hall hg) (fun k h => by simp at h) (fun k hk => by simp at hk) (fun _ => .inr trivial) (by simpa [nextM, infOf, upd, junkD] using h) (fun k hk => by simp at hk)
      | true =>
        rw [gdb_true] at h
        have step : stepD (stepE P m o.op tm H) (evD P X all K os) m acc o tm H → ∃ (ds : List DA) (m' : Nat), ds.length = (o :: os).length ∧ K m' ((ds.map infOf).reverse ++ acc) (runT tm ds) (runH H ds) ∧ m ≤ m' ∧
      ∀ (i : Nat) (o' : Oper) (d : DA), (o :: os)[i]? = some o' → ds[i]? = some d → d.dst = o'.dst ∧ d.rt = o'.looksAt all ∧ ActOK P X n all o' (runT tm (ds.take i)) (runH H (ds.take i)) d ∧
        (∀ k ∈ d.W.map (·.1), d.m ≤ k → k ∈ d.rc) ∧ m ≤ d.m ∧ (∀ k ∈ d.W.map (·.1), k < nextM d.m d.W ∧ k < H.length) ∧
        (∀ (j : Nat) (dj : DA), j < i → ds[j]? = some dj → nextM dj.m dj.W ≤ d.m) ∧ d.m ≤ m' := by
          intro h
          unfold stepD at h
          split at h
          · rename_i c v W hs
            obtain ⟨hc, hlt, hk⟩ := h
            refine one ⟨o.dst, v, W, o.looksAt all, (drawI m o tm W).1, m⟩ rfl rfl rfl (act_step hall hg hs hc) (fun k hin hmk => ?_) (fun k hk => (stepE_W hs k hk).imp (fun h => Nat.le_of_eq h.symm) fun ⟨sz, els, he⟩ => ⟨_, he, by simp⟩) (fun _ => .inr trivial) hk (fun k hk => ?_)
            · have hkm : k = m := by
                rcases stepE_W hs k hin with h | ⟨sz, els, he⟩
                · exact h
                · have := hgone k hmk (List.getElem?_eq_some_iff.1 he).1
                  rw [he] at this; cases this
              subst hkm
              simp only [drawI]; rw [if_pos hin]; simp
            · rcases stepE_W hs k hk with rfl | ⟨sz, els, he⟩
              · exact hlt hk
              · exact (List.getElem?_eq_some_iff.1 he).1
          · exact h.elim
        have gen : genD P X o tm H (retD (evD P X all K os) m acc o.dst tm H) → ∃ (ds : List DA) (m' : Nat), ds.length = (o :: os).length ∧ K m' ((ds.map infOf).reverse ++ acc) (runT tm ds) (runH H ds) ∧ m ≤ m' ∧
      ∀ (i : Nat) (o' : Oper) (d : DA), (o :: os)[i]? = some o' → ds[i]? = some d → d.dst = o'.dst ∧ d.rt = o'.looksAt all ∧ ActOK P X n all o' (runT tm (ds.take i)) (runH H (ds.take i)) d ∧
        (∀ k ∈ d.W.map (·.1), d.m ≤ k → k ∈ d.rc) ∧ m ≤ d.m ∧ (∀ k ∈ d.W.map (·.1), k < nextM d.m d.W ∧ k < H.length) ∧
        (∀ (j : Nat) (dj : DA), j < i → ds[j]? = some dj → nextM dj.m dj.W ≤ d.m) ∧ d.m ≤ m' := by
          rintro ⟨σ, v, W, hf, hk⟩
          have hlt : ∀ k ∈ W.map (·.1), k < H.length := fun k hk => let ⟨_, he, _⟩ := (hf.1 k hk).2; (List.getElem?_eq_some_iff.1 he).1
          refine one ⟨o.dst, v, W, o.looksAt all, σ, m⟩ rfl rfl rfl (act_gen hall hg hf) (fun k h _ => (hf.1 k h).1) (fun k hk => .inr (hf.1 k hk).2) (fun _ => .inr trivial) hk hlt
        unfold opD at h
        split at h
        · rename_i c hop
          split at h
          · rename_i f hcal
            obtain ⟨σ, r, W, hf, hk⟩ := h
            have hlt : ∀ k ∈ W.map (·.1), k < H.length := fun k hk => by
              rcases (hf.2.1 k hk).2 with h | ⟨_, he, _⟩
              · exact h.2
              · exact (List.getElem?_eq_some_iff.1 he).1
            exact one ⟨o.dst, r, W, o.looksAt all, σ, m⟩ rfl rfl rfl (act_call hall hg hop hcal hf) (fun k h _ => (hf.2.1 k h).1) (fun k hk => (hf.2.1 k hk).2.imp (fun h => h.1) id) (fun _ => .inr trivial) hk hlt
          · rename_i tc hcal
            unfold cloD at h
            split at h
            · rename_i f fs cs htc
              split at h
              · rename_i hz
                obtain ⟨σ, r, W, hf, hk⟩ := h
                have hlt : ∀ k ∈ W.map (·.1), k < H.length := fun k hk => by
                  rcases (hf.2.1 k hk).2 with h | ⟨_, he, _⟩
                  · exact h.2
                  · exact (List.getElem?_eq_some_iff.1 he).1
                exact one ⟨o.dst, r, W, o.looksAt all, σ, m⟩ rfl rfl rfl (act_cloF hall hg hop hcal htc hz hf) (fun k h _ => (hf.2.1 k h).1) (fun k hk => (hf.2.1 k hk).2.imp (fun h => h.1) id) (fun _ => .inr trivial) hk hlt
              · exact h.elim
            · rename_i ch htc
              split at h
              · rename_i f first cap hch
                obtain ⟨σ, r, W, hf, hk⟩ := h
                have hlt : ∀ k ∈ W.map (·.1), k < H.length := fun k hk => by
                  rcases (hf.2.1 k hk).2 with h | ⟨_, he, _⟩
                  · exact h.2
                  · exact (List.getElem?_eq_some_iff.1 he).1
                exact one ⟨o.dst, r, W, o.looksAt all, ch :: σ, m⟩ rfl rfl rfl (act_clo hall hg hop hcal htc hch hf) (fun k h _ => List.mem_cons_of_mem _ (hf.2.1 k h).1) (fun k hk => (hf.2.1 k hk).2.imp (fun h => h.1) id) (fun _ => .inr trivial) hk hlt
              · exact h.elim
            · exact h.elim
          · unfold stepDG at h
            split at h
            · rename_i c v W hs
              exact step (by unfold stepD; rw [hs]; exact h)
            · exact gen h
          · exact step h
        · rename_i cnd x y hop
          simp only [gd] at h
          split at h
          · rename_i b hb
            refine one ⟨o.dst, rd tm (if b then x else y), [], o.looksAt all, [], m⟩ rfl rfl rfl (act_pick hall hg hop hb) (fun k h => by simp at h) (fun k hk => by simp at hk) (fun _ => .inr trivial) ?_ (fun k hk => by simp at hk)
            cases b with
            | true => rw [gdb_true] at h; simpa [nextM, infOf, upd, putD] using h
            | false => rw [gdb_false] at h; simpa [nextM, infOf, upd, putD] using h
          · exact h.elim
        · exact gen h
        · exact gen h
        · exact gen h
        · exact step h
    · exact h.elim

/-! ### the check, read -/
theorem disj_spec {a b : List Nat} (h : disj a b = true) {x : Nat} (hx : x ∈ a) : x ∉ b := by
  unfold disj at h
  simp only [List.all_eq_true, Bool.not_eq_true', List.contains_eq_mem, decide_eq_false_iff_not] at h
  exact h x hx

theorem rowOk_spec {anc : List Nat} {y : Oper} {b : Inf} : ∀ {xs : List Oper} {as : List Inf} {i k : Nat} {x : Oper} {a : Inf}, rowOk all anc y b i xs as = true → xs[k]? = some x → as[k]? = some a → i + k ∈ anc ∨ apartB all x y a b = true
  | x :: xs, a :: as, i, 0, x', a', h, hx, ha => by
    simp at hx ha; subst hx; subst ha
    simp only [rowOk, Bool.and_eq_true, Bool.or_eq_true, List.contains_eq_mem, decide_eq_true_eq] at h
    exact h.1
  | x :: xs, a :: as, i, k + 1, x', a', h, hx, ha => by
    simp only [rowOk, Bool.and_eq_true] at h
    have := rowOk_spec h.2 (k := k) (by simpa using hx) (by simpa using ha)
    rw [show i + 1 + k = i + (k + 1) by omega] at this; exact this
  | [], _, _, _, _, _, _, h, _ => by simp at h
  | _ :: _, [], _, _, _, _, _, _, h => by simp at h

theorem apartAll_spec {tab : List (List Nat)} {os : List Oper} {infs : List Inf} : ∀ {js : List Nat}, apartAll all tab os infs js = true → ∀ {j : Nat}, j ∈ js → ∀ {y : Oper} {b : Inf}, os[j]? = some y → infs[j]? = some b →
    ∀ {k : Nat} {x : Oper} {a : Inf}, k < j → os[k]? = some x → infs[k]? = some a → k ∈ tab.getD j [] ∨ apartB all x y a b = true
  | j0 :: js, h, j, hj, y, b, hy, hb, k, x, a, hk, hx, ha => by
    simp only [apartAll, Bool.and_eq_true] at h
    rcases List.mem_cons.1 hj with rfl | hj
    · have h1 := h.1
      rw [hy, hb] at h1
      have := rowOk_spec h1 (k := k) (by rw [List.getElem?_take_of_lt hk]; exact hx) (by rw [List.getElem?_take_of_lt hk]; exact ha)
      rwa [Nat.zero_add] at this
    · exact apartAll_spec h.2 hj hy hb hk hx ha
  | [], _, _, h, _, _, _, _, _, _, _, _, _, _ => by cases h

theorem backOk_spec : ∀ {os : List Oper} {i k : Nat} {o : Oper}, backOk i os = true → os[k]? = some o → ∀ d ∈ depsOf o, d < i + k
  | o :: os, i, 0, o', h, ho, d, hd => by
    simp at ho; subst ho
    simp only [backOk, Bool.and_eq_true, List.all_eq_true, decide_eq_true_eq] at h
    exact h.1 d hd
  | o :: os, i, k + 1, o', h, ho, d, hd => by
    simp only [backOk, Bool.and_eq_true] at h
    have := backOk_spec h.2 (k := k) (by simpa using ho) d hd
    omega
  | [], _, _, _, _, h, _, _ => by simp at h

/-- A set of operations that holds, with each, those it hangs on, holds all of its table's row. -/
theorem ancTab_spec (D : Nat → Prop) : ∀ {os : List Oper} {tab : List (List Nat)}, (∀ (k : Nat) (o : Oper), os[k]? = some o → D (tab.length + k) → ∀ d ∈ depsOf o, D d) →
    (∀ (j : Nat), j < tab.length → D j → ∀ i ∈ tab.getD j [], D i) → ∀ (j : Nat), j < tab.length + os.length → D j → ∀ i ∈ (ancTab tab os).getD j [], D i
  | [], tab, _, ht, j, hj, hD, i, hi => ht j (by simpa using hj) hD i hi
  | o :: os, tab, hos, ht, j, hj, hD, i, hi => by
    rw [ancTab] at hi
    refine ancTab_spec D (os := os) (tab := tab ++ [ancs tab o]) (fun k o' hk hDk => ?_) (fun j' hj' hDj i' hi' => ?_) j (by simp at hj ⊢; omega) hD i hi
    · exact hos (k + 1) o' (by simpa using hk) (by simp at hDk; rw [show tab.length + (k + 1) = tab.length + 1 + k by omega]; exact hDk)
    · by_cases e : j' < tab.length
      · rw [List.getD, List.getElem?_append_left e] at hi'
        exact ht j' e hDj i' hi'
      · have e2 : j' = tab.length := by simp at hj'; omega
        subst e2
        simp only [List.getD, List.getElem?_append_right (Nat.le_refl _), Nat.sub_self, List.getElem?_cons_zero, Option.getD_some, ancs] at hi'
        have hd := hos 0 o (by simp) (by simpa using hDj)
        rw [List.mem_eraseDups] at hi'
        rcases List.mem_append.1 hi' with h | h
        · exact hd i' h
        · obtain ⟨d, hdm, hid⟩ := List.mem_flatMap.1 h
          by_cases hdl : d < tab.length
          · exact ht d hdl (hd d hdm) i' hid
          · rw [List.getElem?_eq_none (Nat.le_of_not_lt hdl)] at hid; simp at hid

/-! ### every order comes to the same -/
def wT (d : DA) : List (Nat × IV) := match d.dst with | some x => [(x, d.v)] | none => []
def wH (d : DA) : List (Nat × Option Chunk) := d.W.map fun p => (p.1, some p.2)

theorem keys_wT {d : DA} : (wT d).map (·.1) = d.dst.toList := by unfold wT; cases d.dst <;> rfl
theorem keys_wH {d : DA} : (wH d).map (·.1) = d.W.map (·.1) := by unfold wH; simp

theorem get_runT : ∀ (ds : List DA) (tm : TM) (i : Nat) (t : Nat), get (runT tm ds) t = FS (fun _ => true) i (ds.map wT) (get tm) t
  | [], _, _, _ => rfl
  | d :: ds, tm, i, t => by
    rw [runT, get_runT ds _ (i + 1) t, List.map_cons, FS, if_pos rfl]
    have : get (put tm d.dst d.v) = ov (wT d) (get tm) := funext fun t => get_put
    rw [this]

theorem get_runH : ∀ (ds : List DA) (H : Heap) (i : Nat), (∀ d ∈ ds, ∀ k ∈ d.W.map (·.1), k < H.length) → (runH H ds).length = H.length ∧ ∀ c : Nat, (runH H ds)[c]? = FS (fun _ => true) i (ds.map wH) (fun c => H[c]?) c
  | [], _, _, _ => ⟨rfl, fun _ => rfl⟩
  | d :: ds, H, i, h => by
    have hd := h d (by simp)
    have hl := upd_len hd
    obtain ⟨h1, h2⟩ := get_runH ds (upd H d.W) (i + 1) (fun e he k hk => by rw [hl]; exact h e (by simp [he]) k hk)
    refine ⟨by rw [runH, h1, hl], fun c => ?_⟩
    rw [runH, h2, List.map_cons, FS, if_pos rfl]
    have : (fun c : Nat => (upd H d.W)[c]?) = ov (wH d) (fun c => H[c]?) := funext fun c => upd_get hd c
    rw [this]

theorem FS_take {κ ν : Type} [DecidableEq κ] {k : κ} : ∀ (as : List (List (κ × ν))) (i p : Nat) (f : κ → ν), FS (fun _ => true) i (as.take p) f k = FS (fun j => decide (j < i + p)) i as f k
  | [], i, p, f => by simp [FS]
  | a :: as, i, 0, f => by
    simp only [List.take_zero, FS]
    have e : ∀ (as : List (List (κ × ν))) (i' : Nat) (f : κ → ν), i ≤ i' → FS (fun j => decide (j < i + 0)) i' as f k = f k := by
      intro as
      induction as with
      | nil => intro i' f _; rfl
      | cons a as ih => intro i' f h; rw [FS, if_neg (by simp; omega)]; exact ih _ _ (by omega)
    rw [if_neg (by simp)]
    exact (e as (i + 1) f (by omega)).symm
  | a :: as, i, p + 1, f => by
    rw [List.take_succ_cons, FS, FS, if_pos rfl, if_pos (by simp), FS_take as (i + 1) p]
    rw [show i + 1 + p = i + (p + 1) by omega]

theorem filter_lt {α : Type} {p q : α → Bool} : ∀ {l : List α}, (∀ x ∈ l, q x = true → p x = true) → ∀ {x : α}, x ∈ l → p x = true → q x = false → (l.filter q).length < (l.filter p).length
  | [], _, _, h, _, _ => by cases h
  | y :: l, h, x, hx, hp, hq => by
    have hle : ∀ (l : List α), (∀ x ∈ l, q x = true → p x = true) → (l.filter q).length ≤ (l.filter p).length := by
      intro l
      induction l with
      | nil => intro _; simp
      | cons z l ih =>
        intro h
        have := ih fun x hx => h x (by simp [hx])
        simp only [List.filter_cons]
        cases hqz : q z with
        | true => rw [h z (by simp) hqz]; simpa using this
        | false => cases hpz : p z <;> simp <;> omega
    rcases List.mem_cons.1 hx with rfl | hx
    · simp only [List.filter_cons, hp, hq, if_true, Bool.false_eq_true, if_false, List.length_cons]
      have := hle l fun z hz => h z (by simp [hz])
      omega
    · have := filter_lt (l := l) (fun z hz => h z (by simp [hz])) hx hp hq
      simp only [List.filter_cons]
      cases hqy : q y with
      | true => rw [h y (by simp) hqy]; simpa using this
      | false => cases hpy : p y <;> simp <;> omega

theorem apartB_spec {x y : Oper} {a b : Inf} (h : apartB all x y a b = true) : (∀ t, x.dst = some t → t ∉ y.looksAt all) ∧ (∀ t, x.dst = some t → y.dst ≠ some t) ∧ (∀ t, y.dst = some t → t ∉ x.looksAt all) ∧
    (∀ c ∈ a.2, c ∉ b.1) ∧ (∀ c ∈ a.2, c ∉ b.2) ∧ (∀ c ∈ b.2, c ∉ a.1) := by
  unfold apartB at h
  simp only [Bool.and_eq_true] at h
  obtain ⟨⟨⟨⟨⟨h1, h2⟩, h3⟩, h4⟩, h5⟩, h6⟩ := h
  refine ⟨fun t ht => disj_spec h1 (by rw [ht]; simp), fun t ht e => ?_, fun t ht => disj_spec h3 (by rw [ht]; simp), fun c hc => disj_spec h4 hc, fun c hc => disj_spec h5 hc, fun c hc => disj_spec h6 hc⟩
  exact disj_spec h2 (x := t) (by rw [ht]; simp) (by rw [e]; simp)

theorem Inv.pad {X : Ctx} {ρ : Ren} {H : Heap} {w : World} (h : Inv X ρ H w) : ∀ k, Inv X (ρ ++ List.replicate k .void) (H ++ List.replicate k .gone) w
  | 0 => by simpa using h
  | k + 1 => by
    have ih := h.pad k
    have := ih.push (w' := w) .void .gone rfl rfl rfl (Nat.le_refl _) (fun _ _ => rfl) (fun _ _ h => by cases h) trivial (fun h => by cases h) (fun _ _ h => by cases h)
    rw [List.append_assoc, List.append_assoc, ← List.replicate_succ', ← List.replicate_succ'] at this
    exact this

theorem RelA.same {ρ : Ren} {tm tm' : TM} {a : Act} (h : RelA X n ρ tm a) (e : ∀ t, get tm' t = get tm t) : RelA X n ρ tm' a := ⟨h.size, h.defers, fun t => by rw [e t]; exact h.rel t⟩

/-- A region that draws its order, walked in the order of the text. -/
theorem drawK_of {id : Nat} {K : TM → Heap → Prop} {tm : TM} {H : Heap} (pad : Nat) (hmix : P.follows .mixedOrders = true) (hok : all.toList.all (operOk n) = true)
    (h : evD P X all (drawFin all K) all.toList H.length [] tm (H ++ List.replicate pad .gone)) : drawK P n X id all K tm H := by
  have hall : ∀ (j : Nat) (q : Oper), all[j]? = some q → operOk n q = true := fun j q hj => by
    simp only [List.all_eq_true] at hok
    exact hok q (by simpa using Array.mem_of_getElem? hj)
  generalize hHp : H ++ List.replicate pad .gone = Hp at h
  have hHl : Hp.length = H.length + pad := by rw [← hHp]; simp
  obtain ⟨ds, m', hlen, ⟨hdraw, hm', hK⟩, _, hds⟩ := evD_acts hall all.toList H.length [] tm Hp (fun k h1 h2 => by
    rw [← hHp, List.getElem?_append_right h1, List.getElem?_replicate, if_pos (by omega)]) h
  rw [List.append_nil, List.reverse_reverse] at hdraw
  have hlen' : ds.length = all.size := by simpa using hlen
  unfold drawOk at hdraw
  simp only [Bool.and_eq_true] at hdraw
  obtain ⟨hback, hapart⟩ := hdraw
  have fact := fun (i : Nat) (o : Oper) (d : DA) (ho : all[i]? = some o) => hds i o d (by simpa using ho)
  have keyslt : ∀ d ∈ ds, ∀ k ∈ d.W.map (·.1), k < Hp.length := by
    intro d hd k hk
    obtain ⟨i, hi⟩ := List.mem_iff_getElem?.1 hd
    have hilt := (List.getElem?_eq_some_iff.1 hi).1
    obtain ⟨_, _, _, _, _, h6, _⟩ := fact i (all[i]'(by omega)) d (by simp) hi
    have hrl := (get_runH ds Hp 0)
    exact (h6 k hk).2
  -- the state behind some of the operations
  let TF : (Nat → Bool) → Nat → IV := fun fl => FS fl 0 (ds.map wT) (get tm)
  let HF : (Nat → Bool) → Nat → Option Chunk := fun fl => FS fl 0 (ds.map wH) fun c => Hp[c]?
  have infoAt : ∀ {i : Nat} {d : DA}, ds[i]? = some d → (ds.map infOf)[i]? = some (infOf d) := fun h => by simp [h]
  have lt_of : ∀ {i : Nat} {d : DA}, ds[i]? = some d → i < all.size := fun h => by have := (List.getElem?_eq_some_iff.1 h).1; omega
  have opAt : ∀ (i : Nat), i < all.size → ∃ o d, all[i]? = some o ∧ ds[i]? = some d := fun i h => ⟨all[i], ds[i]'(by omega), by simp [h], by simp⟩
  -- two operations, neither of which always runs ahead of the other
  have indep : ∀ {i j : Nat} {x y : Oper} {dx dy : DA}, i < j → all[i]? = some x → all[j]? = some y → ds[i]? = some dx → ds[j]? = some dy → i ∉ (ancTab [] all.toList).getD j [] →
      apartB all x y (infOf dx) (infOf dy) = true := fun hij hx hy hdx hdy hn =>
    (apartAll_spec hapart (j := _) (by simp; exact lt_of hdy) (by simpa using hy) (infoAt hdy) hij (by simpa using hx) (infoAt hdx)).resolve_left hn
  have main : ∀ (fuel : Nat) (listed : Array Bool) (a : Act) (w : World), listed.size = all.size → ((List.range all.size).filter fun i => !listed.getD i true).length ≤ fuel →
      (∀ (i : Nat) (o : Oper), all[i]? = some o → listed.getD i false = true → ∀ d ∈ depsOf o, listed.getD d false = true) →
      ∀ (ρ0 : Ren), (∃ ρ tm' H', (∀ t, get tm' t = TF (fun i => listed.getD i false) t) ∧ H'.length = Hp.length ∧ (∀ c : Nat, H'[c]? = HF (fun i => listed.getD i false) c) ∧ RelA X n ρ tm' a ∧ Inv X ρ H' w ∧ Le ρ0 ρ ∧
        (∀ (i : Nat) (d : DA), ds[i]? = some d → listed.getD i false = false → ∀ k ∈ d.W.map (·.1), d.m ≤ k → ρ[k]? = some .void)) →
      wpAny P .any all (LQ n X ρ0 (seqQ K fun _ _ _ => False)) fuel listed a w := by
    intro fuel
    have fin : ∀ (listed : Array Bool) (a : Act) (w : World), listed.size = all.size → Region.ready .any all listed = [] → 
      ∀ (ρ0 : Ren), (∃ ρ tm' H', (∀ t, get tm' t = TF (fun i => listed.getD i false) t) ∧ H'.length = Hp.length ∧ (∀ c : Nat, H'[c]? = HF (fun i => listed.getD i false) c) ∧ RelA X n ρ tm' a ∧ Inv X ρ H' w ∧ Le ρ0 ρ ∧
        (∀ (i : Nat) (d : DA), ds[i]? = some d → listed.getD i false = false → ∀ k ∈ d.W.map (·.1), d.m ≤ k → ρ[k]? = some .void)) → LQ n X ρ0 (seqQ K fun _ _ _ => False) .normal a w := by
      intro listed a w hsz hready ρ0 ⟨ρ, tm', H', ht, hl, hc, ha, hi, hle, _⟩
      -- all are done
      have alld : ∀ i, i < all.size → listed.getD i false = true := by
        intro i
        induction i using Nat.strongRecOn with
        | _ i ih =>
          intro hi'
          cases hb : listed.getD i false with
          | true => rfl
          | false =>
            exfalso
            obtain ⟨o, d, ho, _⟩ := opAt i hi'
            have : i ∈ Region.ready .any all listed := by
              rw [mem_ready]
              refine ⟨?_, o, ho, fun e he hbind => ?_⟩
              · have hlt : i < listed.size := by omega
                simp only [Array.getD_eq_getD_getElem?, Array.getElem?_eq_getElem hlt, Option.getD_some] at hb ⊢; exact hb
              · have hd : e.on ∈ depsOf o := List.mem_map.2 ⟨e, List.mem_filter.2 ⟨by simpa using he, hbind⟩, rfl⟩
                have := backOk_spec hback (k := i) (by simpa using ho) _ hd
                exact ih e.on (by omega) (by omega)
            rw [hready] at this; cases this
      have eT : ∀ t, get (runT tm ds) t = get tm' t := fun t => by
        rw [ht, get_runT ds tm 0]
        exact FS_agree rfl fun j ws hj hne => by
          exfalso; apply hne
          have hjl : j < all.size := by have := (List.getElem?_eq_some_iff.1 hj).1; simp at this; omega
          show true = listed.getD (0 + j) false
          rw [Nat.zero_add]; exact (alld j hjl).symm
      have eH : runH Hp ds = H' := by
        apply List.ext_getElem?
        intro c
        rw [hc, (get_runH ds Hp 0 keyslt).2]
        exact FS_agree rfl fun j ws hj hne => by
          exfalso; apply hne
          have hjl : j < all.size := by have := (List.getElem?_eq_some_iff.1 hj).1; simp at this; omega
          show true = listed.getD (0 + j) false
          rw [Nat.zero_add]; exact (alld j hjl).symm
      refine .inl ⟨ρ, runT tm ds, runH Hp ds, hK, hle.toN _, ha.same eT, by rw [eH]; exact hi⟩
    induction fuel with
    | zero =>
      intro listed a w hsz hcnt hcl ρ0 hst
      have hr : Region.ready .any all listed = [] := by
        rw [List.eq_nil_iff_forall_not_mem]
        intro i hi
        rw [mem_ready] at hi
        obtain ⟨h0, o, ho, _⟩ := hi
        have : i ∈ (List.range all.size).filter fun i => !listed.getD i true := by
          rw [List.mem_filter]; exact ⟨by simp; exact (Array.getElem?_eq_some_iff.1 ho).1, by simp only [h0]; rfl⟩
        rw [List.eq_nil_of_length_eq_zero (Nat.le_zero.1 hcnt)] at this; cases this
      exact ⟨hr, fin listed a w hsz hr ρ0 hst⟩
    | succ fuel ih =>
      intro listed a w hsz hcnt hcl ρ0 hst
      refine ⟨fun hr => fin listed a w hsz hr ρ0 hst, fun i hi => ?_⟩
      rw [mem_ready] at hi
      obtain ⟨h0, o, ho, hdeps⟩ := hi
      have hil : i < all.size := (Array.getElem?_eq_some_iff.1 ho).1
      obtain ⟨o', d, ho', hd⟩ := opAt i hil
      rw [ho] at ho'; cases ho'
      obtain ⟨f1, f2, f3, f4, f5, f6, f7, _⟩ := fact i o d ho hd
      obtain ⟨ρ, tm', H', ht, hHl', hc, ha, hi, hle, hvoid⟩ := hst
      have hfi : listed.getD i false = false := by
        have hlt : i < listed.size := by omega
        simp only [Array.getD_eq_getD_getElem?, Array.getElem?_eq_getElem hlt, Option.getD_some] at h0 ⊢; exact h0
      have hdl : ∀ k ∈ depsOf o, listed.getD k false = true := fun k hk => by
        obtain ⟨e, he, rfl⟩ := List.mem_map.1 hk
        obtain ⟨he1, he2⟩ := List.mem_filter.1 he
        exact hdeps e (by simpa using he1) he2
      -- not done, and ahead in the text: it does not always run ahead of i
      have before : ∀ {j : Nat}, j < i → listed.getD j false = false → j ∉ (ancTab [] all.toList).getD i [] := by
        intro j hj hfj hin
        have := ancTab_spec (fun k => listed.getD k false = true ∨ k = i) (os := all.toList) (tab := []) (fun k q hk hD dd hdd => by
          simp only [List.length_nil, Nat.zero_add] at hD
          rcases hD with hD | hD
          · exact .inl (hcl k q (by simpa using hk) hD dd hdd)
          · have hq : all[k]? = some q := by simpa using hk
            rw [hD, ho] at hq
            cases hq
            exact .inl (hdl dd hdd)) (fun j hj => by simp at hj) i (by simp; exact hil) (.inr rfl) j hin
        rcases this with h | h
        · rw [hfj] at h; cases h
        · omega
      have behind : ∀ {j : Nat}, j < all.size → listed.getD j false = true → i ∉ (ancTab [] all.toList).getD j [] := by
        intro j hj hfj hin
        have := ancTab_spec (fun k => listed.getD k false = true) (os := all.toList) (tab := []) (fun k q hk hD dd hdd => hcl k q (by simpa using hk) (by simpa using hD) dd hdd) (fun j hj => by simp at hj) j (by simp; exact hj) hfj i hin
        rw [hfi] at this; cases this
      have hreads : ∀ t ∈ d.rt, get tm' t = get (runT tm (ds.take i)) t := by
        intro t htr
        rw [ht, get_runT _ tm 0, List.map_take, FS_take]
        refine FS_agree rfl fun j ws hj hne => ?_
        obtain ⟨dj, hdj, rfl⟩ : ∃ dj, ds[j]? = some dj ∧ wT dj = ws := by simpa [List.getElem?_map] using hj
        have hjl := lt_of hdj
        obtain ⟨oj, _, hoj, _⟩ := opAt j hjl
        obtain ⟨g1, _⟩ := fact j oj dj hoj hdj
        rw [keys_wT, g1]
        intro hmem
        simp only [Nat.zero_add] at hne
        have hdst : oj.dst = some t := by simpa using hmem
        rw [f2] at htr
        rcases Nat.lt_trichotomy j i with hlt | rfl | hgt
        · have hfj : listed.getD j false = false := by cases h : listed.getD j false with | false => rfl | true => rw [h] at hne; simp [hlt] at hne
          exact (apartB_spec (indep hlt hoj ho hdj hd (before hlt hfj))).1 t hdst htr
        · rw [hfi] at hne; simp at hne
        · have hfj : listed.getD j false = true := by cases h : listed.getD j false with | true => rfl | false => rw [h] at hne; simp at hne; omega
          exact (apartB_spec (indep hgt ho hoj hd hdj (behind hjl hfj))).2.2.1 t hdst htr
      have keyst : ∀ e ∈ ds.take i, ∀ k ∈ e.W.map (·.1), k < Hp.length := fun e he => keyslt e (List.mem_of_mem_take he)
      have hcread : ∀ c ∈ d.rc, H'[c]? = (runH Hp (ds.take i))[c]? := by
        intro c hcr
        rw [hc, (get_runH _ Hp 0 keyst).2, List.map_take, FS_take]
        refine FS_agree rfl fun j ws hj hne => ?_
        obtain ⟨dj, hdj, rfl⟩ : ∃ dj, ds[j]? = some dj ∧ wH dj = ws := by simpa [List.getElem?_map] using hj
        have hjl := lt_of hdj
        obtain ⟨oj, _, hoj, _⟩ := opAt j hjl
        rw [keys_wH]
        intro hmem
        simp only [Nat.zero_add] at hne
        rcases Nat.lt_trichotomy j i with hlt | rfl | hgt
        · have hfj : listed.getD j false = false := by cases h : listed.getD j false with | false => rfl | true => rw [h] at hne; simp [hlt] at hne
          exact (apartB_spec (indep hlt hoj ho hdj hd (before hlt hfj))).2.2.2.1 c hmem hcr
        · rw [hfi] at hne; simp at hne
        · have hfj : listed.getD j false = true := by cases h : listed.getD j false with | true => rfl | false => rw [h] at hne; simp at hne; omega
          exact (apartB_spec (indep hgt ho hoj hd hdj (behind hjl hfj))).2.2.2.2.2 c hmem hcr
      have hnew : ∀ kk ∈ d.W.map (·.1), d.m ≤ kk → H'[kk]? = some .gone ∧ ρ[kk]? = some .void := by
        intro kk hin hkk
        refine ⟨?_, hvoid i d hd hfi kk hin hkk⟩
        rw [hcread kk (f4 kk hin hkk), (get_runH _ Hp 0 keyst).2]
        have hlt2 := keyslt d (List.mem_of_getElem? hd) kk hin
        have : FS (fun _ => true) 0 ((ds.take i).map wH) (fun c => Hp[c]?) kk = FS (fun _ => false) 0 ((ds.take i).map wH) (fun c => Hp[c]?) kk := FS_agree rfl fun j ws hj _ => by
          obtain ⟨dj, hdj, rfl⟩ : ∃ dj, (ds.take i)[j]? = some dj ∧ wH dj = ws := by rw [List.getElem?_map, Option.map_eq_some_iff] at hj; exact hj
          have hji : j < i := by have := (List.getElem?_eq_some_iff.1 hdj).1; simp at this; omega
          rw [List.getElem?_take_of_lt hji] at hdj
          rw [keys_wH]
          intro hmem
          obtain ⟨oj, _, hoj, _⟩ := opAt j (lt_of hdj)
          obtain ⟨_, _, _, _, _, g6, _⟩ := fact j oj dj hoj hdj
          have h7 := f7 j dj hji hdj
          have hk := (g6 _ hmem).1
          omega
        rw [this]
        have e2 : ∀ (as : List (List (Nat × Option Chunk))) (i : Nat) (f : Nat → Option Chunk), FS (fun _ => false) i as f kk = f kk := by
          intro as
          induction as with
          | nil => intro i f; rfl
          | cons a as ih => intro i f; rw [FS]; exact ih _ _
        rw [e2]
        show Hp[kk]? = _
        rw [← hHp, List.getElem?_append_right (Nat.le_trans f5 hkk), List.getElem?_replicate, if_pos (by omega)]
      -- the state behind the step
      have after : ∀ (ρ' : Ren) (x : Value) (w' : World), Le ρ ρ' → VK ρ ρ' d.W → relI ρ' d.v x → Inv X ρ' (upd H' d.W) w' → wpAny P .any all (LQ n X ρ0 (seqQ K fun _ _ _ => False)) fuel (listed.setIfInBounds i true) (a.put o.dst x) w' := by
        intro ρ' x w' hpre hvk hr hinv
        have hset : ∀ j, (listed.setIfInBounds i true).getD j false = if j = i then true else listed.getD j false := by
          intro j
          by_cases e : j = i
          · subst e; rw [if_pos rfl]
            have : j < listed.size := by omega
            simp [this]
          · rw [if_neg e]; exact getD_set_ne false (Ne.symm e)
        have hkl : ∀ k ∈ d.W.map (·.1), k < H'.length := by rw [hHl']; exact keyslt d (List.mem_of_getElem? hd)
        have laterT : ∀ {j : Nat} {dj : DA}, i < j → ds[j]? = some dj → listed.getD j false = true → ∀ t ∈ (wT d).map (·.1), t ∉ (wT dj).map (·.1) := by
          intro j dj hij hdj hfj t ht1 ht2
          obtain ⟨oj, _, hoj, _⟩ := opAt j (lt_of hdj)
          obtain ⟨g1, _⟩ := fact j oj dj hoj hdj
          rw [keys_wT, f1] at ht1
          rw [keys_wT, g1] at ht2
          exact (apartB_spec (indep hij ho hoj hd hdj (behind (lt_of hdj) hfj))).2.1 t (by simpa using ht1) (by simpa using ht2)
        have laterH : ∀ {j : Nat} {dj : DA}, i < j → ds[j]? = some dj → listed.getD j false = true → ∀ c ∈ (wH d).map (·.1), c ∉ (wH dj).map (·.1) := by
          intro j dj hij hdj hfj c hc1 hc2
          obtain ⟨oj, _, hoj, _⟩ := opAt j (lt_of hdj)
          rw [keys_wH] at hc1 hc2
          exact (apartB_spec (indep hij ho hoj hd hdj (behind (lt_of hdj) hfj))).2.2.2.2.1 c hc1 hc2
        refine ih _ _ _ (by simp [hsz]) ?_ ?_ ρ0 ⟨ρ', put tm' d.dst d.v, upd H' d.W, fun t => ?_, by rw [upd_len hkl, hHl'], fun c => ?_, ?_, hinv, hle.trans hpre, ?_⟩
        · have := filter_lt (l := List.range all.size) (p := fun i => !listed.getD i true) (q := fun j => !(listed.setIfInBounds i true).getD j true) (fun j hj hq => by
            by_cases e : j = i
            · subst e
              have : j < listed.size := by omega
              simp [this] at hq
            · rw [getD_set_ne true (Ne.symm e)] at hq; exact hq) (x := i) (by simp; exact hil) (by simp only [h0]; rfl) (by
              have : i < listed.size := by omega
              simp [this])
          omega
        · intro j q hq hj dd hdd
          rw [hset] at hj ⊢
          by_cases e2 : dd = i
          · rw [if_pos e2]
          · rw [if_neg e2]
            by_cases e : j = i
            · subst e; rw [ho] at hq; cases hq; exact hdl dd hdd
            · rw [if_neg e] at hj; exact hcl j q hq hj dd hdd
        · rw [get_put]
          show ov (wT d) (get tm') t = _
          by_cases hk : t ∈ (wT d).map (·.1)
          · refine Eq.symm (FS_put (i0 := i) (j0 := i) hk (by simp only [hset]; simp) (by simp [hd]) (by omega) fun j ws hj hij hfl => ?_)
            obtain ⟨dj, hdj, rfl⟩ : ∃ dj, ds[j]? = some dj ∧ wT dj = ws := by simpa [List.getElem?_map] using hj
            simp only [Nat.zero_add, hset] at hfl hij
            rw [if_neg (by omega)] at hfl
            exact laterT hij hdj hfl t hk
          · rw [ov_out hk, ht]
            refine FS_agree rfl fun j ws hj hne => ?_
            simp only [Nat.zero_add, hset] at hne
            by_cases e : j = i
            · subst e
              have : wT d = ws := by simpa [List.getElem?_map, hd] using hj
              rw [← this]; exact hk
            · rw [if_neg e] at hne; exact absurd rfl hne
        · rw [upd_get hkl]
          show ov (wH d) _ c = _
          by_cases hk : c ∈ (wH d).map (·.1)
          · refine Eq.symm (FS_put (i0 := i) (j0 := i) hk (by simp only [hset]; simp) (by simp [hd]) (by omega) fun j ws hj hij hfl => ?_)
            obtain ⟨dj, hdj, rfl⟩ : ∃ dj, ds[j]? = some dj ∧ wH dj = ws := by simpa [List.getElem?_map] using hj
            simp only [Nat.zero_add, hset] at hfl hij
            rw [if_neg (by omega)] at hfl
            exact laterH hij hdj hfl c hk
          · rw [ov_out hk]
            show H'[c]? = _
            rw [hc]
            refine FS_agree rfl fun j ws hj hne => ?_
            simp only [Nat.zero_add, hset] at hne
            by_cases e : j = i
            · subst e
              have : wH d = ws := by simpa [List.getElem?_map, hd] using hj
              rw [← this]; exact hk
            · rw [if_neg e] at hne; exact absurd rfl hne
        · rw [f1]; exact ha.put hpre (operOk_dst (hall i o ho)) hr
        · intro j dj hdj hfj kk hin hkk
          rw [hset] at hfj
          by_cases e : j = i
          · rw [if_pos e] at hfj; cases hfj
          · rw [if_neg e] at hfj
            refine hvk kk (hvoid j dj hdj hfj kk hin hkk) fun hmem => ?_
            obtain ⟨oj, _, hoj, _⟩ := opAt j (lt_of hdj)
            obtain ⟨_, _, _, g4, _, _, g7, _⟩ := fact j oj dj hoj hdj
            rcases Nat.lt_or_gt_of_ne e with hlt | hgt
            · exact (apartB_spec (indep hlt hoj ho hdj hd (before hlt hfj))).2.2.2.2.2 _ hmem (g4 kk hin hkk)
            · have h7 := g7 i d hgt hd
              have hk := (f6 _ hmem).1
              omega
      unfold wpOp
      rw [ho]
      simp only
      rcases f3 ρ tm' H' a w (by rw [hHl', (get_runH _ Hp 0 keyst).1]) hreads hcread hnew ha hi (wpAny P .any all (LQ n X ρ0 (seqQ K fun _ _ _ => False)) fuel (listed.setIfInBounds i true)) (LQ n X ρ0 (seqQ K fun _ _ _ => False)) with ⟨hw, hv, hW⟩ | ⟨hw, hrun⟩
      · rw [hw]
        simp only [Bool.false_eq_true, if_false]
        exact after ρ undef w (Le.refl _) (VK.refl _ _) (by rw [hv]; exact rel_undef _) (by rw [hW]; exact hi)
      · rw [hw]
        simp only [if_true]
        exact .inl (hrun after)
  intro ρ a w ha hi
  refine wpR_region_any hmix (fun j q hj => operOk_und (hall j q hj)) noOut ?_
  have hi0 := (hi.pad pad).drew
  rw [hHp] at hi0
  have hle : Le ρ (ρ ++ List.replicate pad .void) := Le.app _ _
  refine main all.size (Array.replicate all.size false) a _ (by simp) (by
    refine Nat.le_trans (List.length_filter_le _ _) (by simp)) (fun i o ho hl => by
    simp only [Array.getD_eq_getD_getElem?, Array.getElem?_replicate] at hl
    split at hl <;> simp at hl) ρ ⟨ρ ++ List.replicate pad .void, tm, Hp, fun t => ?_, rfl, fun c => ?_, ha.pre hle, hi0, hle, fun i d hd hf kk hin hkk => ?_⟩
  · have e : ∀ (as : List (List (Nat × IV))) (i : Nat) (f : Nat → IV), FS (fun i => (Array.replicate all.size false).getD i false) i as f t = f t := by
      intro as
      induction as with
      | nil => intro i f; rfl
      | cons a as ih =>
        intro i f
        rw [FS, if_neg]
        · exact ih _ _
        · simp only [Array.getD_eq_getD_getElem?, Array.getElem?_replicate]; split <;> simp
    exact (e _ 0 _).symm
  · have e : ∀ (as : List (List (Nat × Option Chunk))) (i : Nat) (f : Nat → Option Chunk), FS (fun i => (Array.replicate all.size false).getD i false) i as f c = f c := by
      intro as
      induction as with
      | nil => intro i f; rfl
      | cons a as ih =>
        intro i f
        rw [FS, if_neg]
        · exact ih _ _
        · simp only [Array.getD_eq_getD_getElem?, Array.getElem?_replicate]; split <;> simp
    exact (e _ 0 _).symm
  · obtain ⟨o, _, ho, _⟩ := opAt i (lt_of hd)
    obtain ⟨_, _, _, _, f5, _⟩ := fact i o d ho hd
    have := keyslt d (List.mem_of_getElem? hd) kk hin
    rw [List.getElem?_append_right (by rw [hi.len]; exact Nat.le_trans f5 hkk), List.getElem?_replicate, if_pos (by rw [hi.len]; omega)]
end
end Go.Ev

/- From a law's ideal call to its row: the arguments as the row hands them, typed; what is left behind the call. -/
namespace Go.Ev
open Go.RowKit Go.ChangeShapes Go.WideShapes Go.ChangeAt

def LeafOK : Leaf → SV → Prop
  | .int k, x => ∃ n, x = .raw (.int k n) ∧ k.min ≤ n ∧ n ≤ k.max
  | .bool, x => ∃ b, x = .raw (.bool b)
  | .string, x => ∃ s : ByteArray, x = .raw (.string s) ∧ s.size ≤ 9223372036854775807
def TypedL : List Leaf → List SV → Prop
  | [], [] => True
  | l :: ls, x :: xs => LeafOK l x ∧ TypedL ls xs
  | _, _ => False

theorem TypedL.append : ∀ {l1 l2 : List Leaf} {x1 x2 : List SV}, TypedL l1 x1 → TypedL l2 x2 → TypedL (l1 ++ l2) (x1 ++ x2)
  | [], _, [], _, _, h => h
  | _ :: _, _, _ :: _, _, h, h2 => ⟨h.1, h.2.append h2⟩
  | [], _, _ :: _, _, h, _ => h.elim
  | _ :: _, _, [], _, h, _ => h.elim
theorem TypedL.len : ∀ {l : List Leaf} {x : List SV}, TypedL l x → x.length = l.length
  | [], [], _ => rfl
  | _ :: _, _ :: _, h => by simp [h.2.len]
  | [], _ :: _, h => h.elim
  | _ :: _, [], h => h.elim

section
variable {H : Type} {enc : TypeId × Value → H} {P : Program} {W : World} {base : Nat} {spare : Nat → Bool} {held : Bool}

theorem wf_bounds {k : IntKind} {n : Int} (h : (Lit.int k n).wf = true) : k.min ≤ n ∧ n ≤ k.max := by
  simpa [Lit.wf] using h

/-- What reads as data of a type without pointers: its cells, typed. -/
theorem trod_items {e : TypeId} {l : List Leaf} {fuel : Nat} (ih : ∀ (cs : List Value) (r : DataW H × List MemPlace), DataW.trod enc P W base spare held fuel e cs = some r → ∃ xs, relL [] xs cs ∧ TypedL l xs ∧ r.2 = []) (hl : 0 < l.length ∨ l = []) :
    ∀ (n k : Nat) (cs : List Value) (rs : List (DataW H × List MemPlace)), cs.length = (k + n) * l.length → (List.range' k n).mapM (fun i => DataW.trod enc P W base spare held fuel e ((cs.drop (i * l.length)).take l.length)) = some rs →
      ∃ xs, relL [] xs (cs.drop (k * l.length)) ∧ TypedL (List.replicate n l).flatten xs ∧ rs.flatMap (·.2) = []
  | 0, k, cs, rs, hcs, h => by
    simp at h; subst h
    refine ⟨[], ?_, trivial, rfl⟩
    rw [List.drop_eq_nil_of_le (by rw [hcs]; simp)]; trivial
  | n + 1, k, cs, rs, hcs, h => by
    rw [List.range'_succ, List.mapM_cons] at h
    simp only [bind, Option.bind_eq_some_iff, pure, Option.some.injEq] at h
    obtain ⟨r, hr, rs', hrs, rfl⟩ := h
    obtain ⟨x1, h1, h2, h3⟩ := ih _ _ hr
    obtain ⟨x2, h4, h5, h6⟩ := trod_items ih hl n (k + 1) cs rs' (by rw [hcs]; congr 1; omega) hrs
    refine ⟨x1 ++ x2, ?_, ?_, by simp [h3, h6]⟩
    · have e : cs.drop (k * l.length) = (cs.drop (k * l.length)).take l.length ++ cs.drop ((k + 1) * l.length) := by
        rw [Nat.add_mul, Nat.one_mul, ← List.drop_drop, List.take_append_drop]
      rw [e]; exact h1.append h4
    · rw [List.replicate_succ, List.flatten_cons]; exact h2.append h5

theorem trod_leaves : ∀ (d : Nat), (∀ (t : TypeId) (ls : List Leaf), leavesOf P d t = some ls → ∀ (fuel : Nat) (cs : List Value) (r : DataW H × List MemPlace), DataW.trod enc P W base spare held fuel t cs = some r →
      ∃ xs, relL [] xs cs ∧ TypedL ls xs ∧ r.2 = []) ∧
    (∀ (off : Nat) (fs : List Field) (ls : List Leaf), leavesFields P d off fs = some ls → ∀ (fuel : Nat) (cs : List Value) (rs : List (DataW H × List MemPlace)), cs.length = off + ls.length →
      fs.mapM (fun f => DataW.trod enc P W base spare held fuel f.type ((cs.drop f.offset).take (P.cellsOf f.type))) = some rs → ∃ xs, relL [] xs (cs.drop off) ∧ TypedL ls xs ∧ rs.flatMap (·.2) = [])
  | 0 => ⟨fun t ls h => by simp [leavesOf] at h, fun off fs ls h => by simp [leavesFields] at h⟩
  | d + 1 => by
    obtain ⟨ih1, ih2⟩ := trod_leaves d
    constructor
    · intro t ls h fuel cs r hr
      cases fuel with
      | zero => simp [DataW.trod] at hr
      | succ fuel =>
        unfold leavesOf at h
        unfold DataW.trod at hr
        split at h
        · rename_i k hu
          cases h
          rw [hu] at hr
          split at hr <;> first
            | (rename_i e; cases e; done)
            | (rename_i k1 k2 n e
               cases e
               split at hr
               · rename_i hk
                 cases hr
                 obtain ⟨rfl, hwf⟩ := hk
                 exact ⟨[.raw (.int _ n)], ⟨⟨rfl, rfl⟩, trivial⟩, ⟨⟨n, rfl, wf_bounds hwf⟩, trivial⟩, rfl⟩
               · cases hr)
            | (cases hr; done)
            | (simp_all; done)
        · rename_i hu
          cases h
          rw [hu] at hr
          split at hr <;> first
            | (rename_i b e; cases hr; exact ⟨[.raw (.bool b)], ⟨⟨rfl, rfl⟩, trivial⟩, ⟨⟨b, rfl⟩, trivial⟩, rfl⟩)
            | (rename_i e; cases e; done)
            | (cases hr; done)
            | (simp_all; done)
        · rename_i hu
          cases h
          rw [hu] at hr
          split at hr <;> first
            | (rename_i e; cases e; done)
            | (rename_i s e
               split at hr
               · rename_i hs
                 cases hr
                 exact ⟨[.raw (.string s)], ⟨⟨rfl, rfl⟩, trivial⟩, ⟨⟨s, rfl, hs⟩, trivial⟩, rfl⟩
               · cases hr)
            | (cases hr; done)
            | (simp_all; done)
        · rename_i n e hu
          split at h
          · rename_i l hl
            split at h
            · rename_i hsz
              cases h
              rw [hu] at hr
              have hce := cellsOf_of hsz.1
              have hct := cellsOf_of hsz.2
              simp only at hr
              split at hr
              · rename_i hlen
                simp only [Option.map_eq_some_iff] at hr
                obtain ⟨rs, hrs, rfl⟩ := hr
                rw [hce, List.range_eq_range'] at hrs
                obtain ⟨xs, h1, h2, h3⟩ := trod_items (fun cs r h => ih1 e l hl fuel cs r h) (by cases l <;> simp) n 0 cs rs (by rw [hlen, hct]; simp) hrs
                exact ⟨xs, by simpa using h1, h2, h3⟩
              · cases hr
            · cases h
          · cases h
        · rename_i fs hu
          split at h
          · cases h
          · split at h
            · rename_i ls' hls
              split at h
              · rename_i hsz
                cases h
                rw [hu] at hr
                have hct := cellsOf_of hsz
                simp only at hr
                split at hr
                · rename_i hlen
                  simp only [Option.map_eq_some_iff] at hr
                  obtain ⟨rs, hrs, rfl⟩ := hr
                  obtain ⟨xs, h1, h2, h3⟩ := ih2 0 fs.toList _ hls fuel cs rs (by rw [hlen, hct]; simp) hrs
                  exact ⟨xs, by simpa using h1, h2, h3⟩
                · cases hr
              · cases h
            · cases h
        · cases h
    · intro off fs ls h fuel cs rs hcs hrs
      cases fs with
      | nil =>
        simp [leavesFields] at h hrs; subst h; subst hrs
        exact ⟨[], by rw [List.drop_eq_nil_of_le (by simp at hcs; omega)]; trivial, trivial, rfl⟩
      | cons f fs =>
        unfold leavesFields at h
        simp only at h
        split at h
        · rename_i hfo
          split at h
          · rename_i l hl
            split at h
            · rename_i hsz
              split at h
              · rename_i l2 hl2
                cases h
                rw [List.mapM_cons] at hrs
                simp only [bind, Option.bind_eq_some_iff, pure, Option.some.injEq] at hrs
                obtain ⟨r, hr, rs', hrs', rfl⟩ := hrs
                rw [hfo.2, cellsOf_of hsz] at hr
                obtain ⟨x1, h1, h2, h3⟩ := ih1 f.type l hl fuel _ r hr
                obtain ⟨x2, h4, h5, h6⟩ := ih2 (off + l.length) fs l2 hl2 fuel cs rs' (by rw [hcs]; simp; omega) hrs'
                refine ⟨x1 ++ x2, ?_, h2.append h5, by simp [h3, h6]⟩
                have e : cs.drop off = (cs.drop off).take l.length ++ cs.drop (off + l.length) := by
                  rw [← List.drop_drop, List.take_append_drop]
                rw [e]; exact h1.append h4
              · cases h
            · cases h
          · cases h
        · cases h

/-- An argument of a type without pointers. -/
theorem arg_scal {t : TypeId} {ls : List Leaf} {ag : Bool} {v : Value} {d : DataW H} {p : List MemPlace} {b0 : Nat} (hl : leavesOf P 60 t = some ls) (hag : aggT P t = some ag) (hok : Value.okWide P W .any b0 t v)
    (h : DataW.Trod enc P W base spare held t v d p) : ∃ xs, TypedL ls xs ∧ (∀ ρ, relI ρ (ldIV ag xs) v) ∧ p = [] := by
  obtain ⟨fuel, hf⟩ := h
  obtain ⟨xs, h1, h2, h3⟩ := (trod_leaves 60).1 t ls hl fuel _ _ hf
  refine ⟨xs, h2, fun ρ => ?_, h3⟩
  have hraw : ∀ (ls : List Leaf) (xs : List SV), TypedL ls xs → rawL xs = true := by
    intro ls
    induction ls with
    | nil => intro xs h; cases xs with | nil => rfl | cons _ _ => exact h.elim
    | cons l ls ih =>
      intro xs h
      cases xs with
      | nil => exact h.elim
      | cons x xs =>
        simp only [rawL, ih xs h.2, Bool.and_true]
        cases l with
        | int k => obtain ⟨n, rfl, _⟩ := h.1; rfl
        | bool => obtain ⟨b, rfl⟩ := h.1; rfl
        | string => obtain ⟨b, rfl, _⟩ := h.1; rfl
  have hr := rawL_rel (ρ' := ρ) (hraw ls xs h2) h1
  cases ag with
  | true =>
    have : ∃ cs, v = .agg cs := by
      unfold aggT at hag
      unfold Value.okWide at hok
      split at hag
      · rename_i hu; rw [hu] at hok; obtain ⟨cs, hv, _⟩ := hok; exact ⟨cs, hv⟩
      · rename_i hu; rw [hu] at hok; obtain ⟨cs, hv, _⟩ := hok; exact ⟨cs, hv⟩
      · cases hag
      · cases hag
    obtain ⟨cs, rfl⟩ := this
    exact ⟨cs.toList, by simp, by simpa [Value.cells] using hr⟩
  | false =>
    obtain ⟨ag', hag', h1'⟩ := aggT_leaf hl
    rw [hag] at hag'; cases hag'
    have hlen := h2.len
    rw [h1' rfl] at hlen
    obtain ⟨x, rfl⟩ := List.length_eq_one_iff.1 hlen
    have hvl := hr.len
    have hone : ∃ u, v.cells.toList = [u] := by
      obtain ⟨u, hu⟩ := List.length_eq_one_iff.1 hvl; exact ⟨u, hu⟩
    obtain ⟨u, hu⟩ := hone
    rw [hu] at hr
    -- a value of a type that is no aggregate is its own cell
    have hv : v = u := by
      cases v with
      | agg cs =>
        exfalso
        unfold aggT at hag
        unfold Value.okWide at hok
        split at hag
        · cases hag
        · cases hag
        · rename_i d2 hne1 hne2 hu2
          rw [hu2] at hok
          cases d2 <;> first | (exact (hne1 _ rfl).elim) | (exact (hne2 _ _ rfl).elim) | (simp [Cell.okWide, hu2, Cell.ok] at hok; done) | (simp only [Cell.okWide, hu2, Cell.ok] at hok)
        · cases hag
      | _ => simpa [Value.cells] using hu
    rw [hv]; exact hr.1

theorem trodAll_below (hl : laidOutB P = true) : ∀ {ts : List TypeId} {vs : List Value} {ds : List (DataW H)} {ps : List MemPlace} {W W' : World}, (ts.all fun t => P.readableRec t && decide (t < P.types.size)) = true →
    DataW.TrodAll enc P W 0 (fun _ => true) true ts vs ds ps → Below W.heap.size W W' → (∀ x ∈ ps, x.block < W.heap.size) → DataW.TrodAll enc P W' 0 (fun b => decide (b < W.heap.size)) true ts vs ds ps
  | [], [], [], _, _, _, _, h, _, _ => h
  | t :: ts, v :: vs, d :: ds, ps, W, W', hr, h, hb, hlt => by
    obtain ⟨p, q, h1, h2, rfl⟩ := h
    simp only [List.all_cons, Bool.and_eq_true, decide_eq_true_eq] at hr
    exact ⟨p, q, Below.trod hl hr.1.1 hr.1.2 h1 hb fun x hx => hlt x (List.mem_append_left _ hx), trodAll_below hl hr.2 h2 hb fun x hx => hlt x (List.mem_append_right _ hx), rfl⟩
  | [], _ :: _, _, _, _, _, _, h, _, _ => h.elim
  | [], [], _ :: _, _, _, _, _, h, _, _ => h.elim
  | _ :: _, [], _, _, _, _, _, h, _, _ => h.elim
  | _ :: _, _ :: _, [], _, _, _, _, h, _, _ => h.elim

theorem trodAll_len : ∀ {ts : List TypeId} {vs : List Value} {ds : List (DataW H)} {ps : List MemPlace}, DataW.TrodAll enc P W base spare held ts vs ds ps → ds.length = ts.length
  | [], [], [], _, _ => rfl
  | t :: ts, v :: vs, d :: ds, ps, h => by obtain ⟨p, q, _, h2, _⟩ := h; simp [trodAll_len h2]
  | [], _ :: _, _, _, h => h.elim
  | [], [], _ :: _, _, h => h.elim
  | _ :: _, [], _, _, h => h.elim
  | _ :: _, _ :: _, [], _, h => h.elim
end

/-- A law's row, but for its call. -/
theorem law_lifted {H : Type} {enc : TypeId × Value → H} {C : Checked} {os : Os} {f : FuncId} {fn : Func} {s : ChangeSpec} {bt : TypeId} (own : ownKnob C.prog.godebug = none) (started : os.Started)
    (noInit : C.prog.inits.idxOf? f = none) (hfn : C.prog.funcs[f]? = some fn)
    (witness : ∃ (w : World) (tape : Tape) (i : Input), w.os = os ∧ (w.forCall tape i).Shaped C.prog ∧ i.vars = [] ∧ Input.okWide C.prog (w.forCall tape i) .any w.heap.size f i ∧
      s.pre6 enc C.prog fn [] false (w.forCall tape i).memory i.args ∧ ({} : Assume).holds C.prog (lone (Frame.enter C.prog f i.args .normal) [] (w.forCall tape i)))
    (hbt : fn.resultTypes = #[bt]) (hbool : C.prog.underlying bt = some .bool) (hl : laidOutB C.prog = true) (hvars : s.vars = [])
    (hpar : (fn.params.toList.all fun t => C.prog.readableRec t && decide (t < C.prog.types.size)) = true)
    (hspec : ∀ ds : List (DataW H), ds.length = fn.params.size → s.fn H ds = { results := [.lit (.bool true)], args := ds })
    (hcall : ∀ (W : World) (base : Nat) (args : Array Value) (ds : List (DataW H)) (p : List MemPlace), DataW.TrodAll enc C.prog W 0 (fun _ => true) true fn.params.toList args.toList ds p →
      (∀ (j : Nat) t v, fn.params[j]? = some t → args[j]? = some v → Value.okWide C.prog W .any base t v) → Calls C.prog f args W fun e W' => e = .returned (.bool true) ∧ Below W.heap.size W W') :
    ReturnsInHanded {} C os f .any (s.pre6 enc C.prog fn [] false) (s.post enc C.prog fn false true false false) := by
  refine returnsInHanded_of_change own started noInit hfn witness ?_
  intro W base args ds gs before hval hW _ _
  have hW' := hW
  obtain ⟨p, q, hA, hV, rfl, hfz, hnd⟩ := hW
  rw [hvars] at hV
  have hgs : gs = [] ∧ q = [] := by
    cases gs with
    | nil => exact ⟨rfl, hV⟩
    | cons _ _ => exact hV.elim
  obtain ⟨rfl, rfl⟩ := hgs
  refine (hcall W base args ds p hA hval).mono ?_
  rintro e W' ⟨rfl, hb⟩
  have hlt := hW'.lt
  rw [List.append_nil] at hlt
  have hsp := hspec ds (by rw [trodAll_len hA]; simp)
  refine ⟨_, rfl, ds, [], p ++ [], [], p, [], hW', ?_, ?_, ?_, hb.frame _, fun h => by cases h⟩
  · rw [List.append_nil, hsp, hbt]
    exact trodAll_mk1 (shut_bool hbool true)
  · rw [List.append_nil, hsp]
    exact trodAll_below hl hpar hA hb hlt
  · rw [hvars, List.append_nil, hsp]; rfl
end Go.Ev

/- Rules for regions that draw, for arguments, for calls. -/
namespace Go.Ev
def isAl (o : Oper) : Nat :=
  match o.op with
  | .alloc _ | .box _ _ | .buildSlice _ _ _ | .makeSlice _ _ _ | .makeMap _ _ | .convert _ _ _ => 1
  | .call c => match c.callee with | .builtin .append => 1 | _ => 0
  | _ => 0
def nAl : List Oper → Nat
  | [] => 0
  | o :: os => isAl o + nAl os
section
variable {P : Program} {n : Nat} {X : Ctx} {all ops : Array Oper} {os : List Oper} {o : Oper} {K : TM → Heap → Prop} {k : KD} {tm : TM} {H : Heap} {m : Nat} {acc : List Inf} {b : Bool} {c : Prop} {v : IV} {d : Option Nat} {x y : Operand}
theorem drawK_auto {id : Nat} (hmix : P.follows .mixedOrders = true) (hok : all.toList.all (operOk n) = true)
    (h : evD P X all (drawFin all K) all.toList H.length [] tm (H ++ List.replicate (nAl all.toList) .gone)) : drawK P n X id all K tm H := drawK_of _ hmix hok h
theorem d_nil : evD P X all k [] m acc tm H = k m acc tm H := rfl
theorem d_cons : evD P X all k (o :: os) m acc tm H = gd (guardB all tm o.guard) (opD P X o (evD P X all k os) m acc) (junkD (evD P X all k os) m acc o.dst) tm H := rfl
theorem d_op (t : Nat) (p : String) (af : Array Edge) (g : Option (Nat × Bool)) (op : Op) : opD P X ⟨d, op, t, p, af, g⟩ k m acc tm H = match op with
  | .call c => match c.callee with
    | .value (.func f) => callD P X m f (c.args.toList.map (rd tm)) H (retD k m acc d tm H)
    | .value (.tmp t) => cloD P X m (get tm t) (c.args.toList.map (rd tm)) H (retD k m acc d tm H)
    | .builtin _ => stepDG (stepE P m op tm H) (genD P X ⟨d, op, t, p, af, g⟩ tm H (retD k m acc d tm H)) k m acc ⟨d, op, t, p, af, g⟩ tm H
    | _ => stepD (stepE P m op tm H) k m acc ⟨d, op, t, p, af, g⟩ tm H
  | .pick c x y => gd (boolOf (rd tm c)) (putD k m acc d x) (putD k m acc d y) tm H
  | .lookup _ _ _ _ => genD P X ⟨d, op, t, p, af, g⟩ tm H (retD k m acc d tm H)
  | .mapUpdate _ _ _ _ => genD P X ⟨d, op, t, p, af, g⟩ tm H (retD k m acc d tm H)
  | .insert _ _ _ _ => genD P X ⟨d, op, t, p, af, g⟩ tm H (retD k m acc d tm H)
  | op => stepD (stepE P m op tm H) k m acc ⟨d, op, t, p, af, g⟩ tm H := by cases op <;> rfl
theorem d_step {W : List (Nat × Chunk)} : stepD (some (c, v, W)) k m acc o tm H = (c ∧ (m ∈ W.map (·.1) → m < H.length) ∧ k (nextM m W) (drawI m o tm W :: acc) (put tm o.dst v) (upd H W)) := rfl
theorem d_stepG {W : List (Nat × Chunk)} {g : Prop} : stepDG (some (c, v, W)) g k m acc o tm H = (c ∧ (m ∈ W.map (·.1) → m < H.length) ∧ k (nextM m W) (drawI m o tm W :: acc) (put tm o.dst v) (upd H W)) := rfl
theorem d_stepN {g : Prop} : stepDG none g k m acc o tm H = g := rfl
theorem d_clo {ch : Nat} {args : List IV} {kd : List Nat → IV → List (Nat × Chunk) → Prop} : cloD P X m (.s (.ref ch)) args H kd = match H[ch]? with
    | some (.clo (.func f) first cap) => callD P X m f (first ++ (args ++ cap)) H fun σ r W => kd (ch :: σ) r W
    | _ => False := rfl
theorem d_cloF {f : FuncId} {args : List IV} {kd : List Nat → IV → List (Nat × Chunk) → Prop} : cloD P X m (.s (.raw (.func (.func f) #[] #[]))) args H kd = callD P X m f args H kd := by simp [cloD]
theorem d_ret (σ : List Nat) (r : IV) (W : List (Nat × Chunk)) : retD k m acc d tm H σ r W = k (nextM m W) ((σ, W.map (·.1)) :: acc) (put tm d r) (upd H W) := rfl
theorem d_put : putD k m acc d x tm H = k m (([], []) :: acc) (put tm d (rd tm x)) H := rfl
theorem d_junk : junkD k m acc d tm H = k m (([], []) :: acc) (put tm d (.t [])) H := rfl
theorem d_inf {W : List (Nat × Chunk)} : drawI m o tm W = (if m ∈ W.map (·.1) then m :: cR o.op tm else cR o.op tm, W.map (·.1)) := rfl
theorem d_fin : drawFin all K m acc tm H = (drawOk all acc.reverse = true ∧ m ≤ H.length ∧ K tm H) := rfl
theorem callD_of {f : FuncId} {args : List IV} {r : IV} {k : List Nat → IV → List (Nat × Chunk) → Prop} (h : Fun P f args r) (ha : rawT args = true) (hr : rawI r = true) (hk : k [] r []) : callD P X m f args H k :=
  ⟨[], r, [], callOK_funR (by rw [pullT_raw ha]; exact h.toR ha) hr, hk⟩
theorem callD_read {f : FuncId} {args args' : List IV} {r : IV} {H0 : Heap} {k : List Nat → IV → List (Nat × Chunk) → Prop} (σ : List Nat) (h : FunR P f H0 args' r) (hH : pullH σ H = H0) (ha : args.map (pullI σ) = args') (hr : rawI r = true) (hk : k σ r []) : callD P X m f args H k :=
  ⟨σ, r, [], callOK_funR (by rw [hH, ha]; exact h) hr, hk⟩
/-- A call that leaves new chunks: they take the next places. -/
theorem callD_new {f : FuncId} {args args' : List IV} {r : IV} {Hr Hw Hw' Nw : Heap} {k : List Nat → IV → List (Nat × Chunk) → Prop} (σr σw : List Nat) (h : FunW P f Hr Hw args' fun r' Hn => r' = r ∧ ∃ G, Hn = Hw' ++ Nw ++ G) (hH : pullHW σr σw H = Hr ++ Hw) (hlr : Hr.length = σr.length) (hlw : Hw'.length = σw.length)
    (hnd : (σr ++ σw).Nodup) (hin : ∀ c ∈ σr ++ σw, c < m ∧ ∃ ch, H[c]? = some ch ∧ ch ≠ .gone) (ha : args.map (pullI (σr ++ σw)) = args') (hm : m + Nw.length ≤ H.length)
    (hk : k (σr ++ σw ++ List.range' m Nw.length) (pushI (σr ++ σw ++ List.range' m Nw.length) r) ((σw ++ List.range' m Nw.length).zip ((Hw' ++ Nw).map (pushC (σr ++ σw ++ List.range' m Nw.length))))) : callD P X m f args H k :=
  ⟨_, _, _, callOK_funWn σr σw h hH hlr hlw hnd hin ha hm, hk⟩
theorem FunW_eq {f : FuncId} {Hr Hw : Heap} {args : List IV} {r : IV} {Hn : Heap} (h : FunW P f Hr Hw args fun r' H' => r' = r ∧ H' = Hn) : FunW P f Hr Hw args fun r' H' => r' = r ∧ ∃ G, H' = Hn ++ G := fun X =>
  callK_mono (h X) fun _ _ ⟨Hn', h1, h2, h3, h4⟩ => ⟨Hn', h1, h2, h3, [], by rw [h4, List.append_nil]⟩

theorem ty_int {k : IntKind} {ls : List Leaf} {xs : List SV} (h : TypedL (.int k :: ls) xs) : ∃ n ys, xs = .raw (.int k n) :: ys ∧ k.min ≤ n ∧ n ≤ k.max ∧ TypedL ls ys := by
  cases xs with
  | nil => exact h.elim
  | cons x xs => obtain ⟨⟨n, rfl, h1, h2⟩, h⟩ := h; exact ⟨n, xs, rfl, h1, h2, h⟩
theorem ty_nil {xs : List SV} (h : TypedL [] xs) : xs = [] := by
  cases xs with
  | nil => rfl
  | cons x xs => exact h.elim
end
end Go.Ev

/- A law that takes plain data alone: its call, from its contract. -/
namespace Go.Ev
open Go.RowKit Go.ChangeShapes Go.WideShapes
section
variable {P : Program} {W : World} {base b0 : Nat} {H : Type} {enc : TypeId × Value → H} {spare : Nat → Bool} {held : Bool}
theorem ds_2 {α : Type} {n : Nat} {ds : List α} (h : ds.length = n) (hn : n = 2 := by rfl) : ∃ a b, ds = [a, b] := by
  subst hn
  match ds, h with
  | [a, b], _ => exact ⟨a, b, rfl⟩
/-! #### how guards are split -/
section
variable {A B : TM → Heap → Prop} {tm : TM} {H : Heap}
theorem callK_id {P : Program} {X : Ctx} {f : FuncId} {args : List IV} {k : IV → Heap → Prop} (h : callK P X f args k H) : callK P X f args k H := h
theorem callD_id {P : Program} {X : Ctx} {m : Nat} {f : FuncId} {args : List IV} {k : List Nat → IV → List (Nat × Chunk) → Prop} (h : callD P X m f args H k) : callD P X m f args H k := h
theorem drawK_id {P : Program} {n : Nat} {X : Ctx} {id : Nat} {ops : Array Oper} {K : TM → Heap → Prop} (h : drawK P n X id ops K tm H) : drawK P n X id ops K tm H := h
theorem draw_fin {all : Array Oper} {acc : List Inf} {c : Prop} (h1 : drawOk all acc = true) (h2 : c) : drawOk all acc = true ∧ c := ⟨h1, h2⟩
theorem draw_id {all : Array Oper} {acc : List Inf} (h1 : drawOk all acc = true) : drawOk all acc = true := h1
theorem g_not {b : Bool} : gdb (!b) A B tm H = gdb b B A tm H := by cases b <;> simp [gdb]
theorem g_and {a b : Bool} : gdb (a && b) A B tm H = gdb a (gdb b A B) B tm H := by cases a <;> cases b <;> simp [gdb]
theorem g_eq {α : Type} [BEq α] [LawfulBEq α] {a b : α} (h1 : a = b → A tm H) (h2 : (a == b) = false → B tm H) : gdb (a == b) A B tm H :=
  gdb_split (fun h => h1 (by simpa using h)) h2
end
end
end Go.Ev

/- Loops: unrolled, or by a relation. -/
namespace Go.Ev
/-! #### small numbers are their own -/
theorem wl_u8_0 : IntKind.u8.wrap 0 = 0 := rfl
theorem wl_u8_1 : IntKind.u8.wrap 1 = 1 := rfl
theorem wl_u8_2 : IntKind.u8.wrap 2 = 2 := rfl
theorem wl_u8_3 : IntKind.u8.wrap 3 = 3 := rfl
theorem wl_u8_4 : IntKind.u8.wrap 4 = 4 := rfl
theorem wl_u8_5 : IntKind.u8.wrap 5 = 5 := rfl
theorem wl_u8_6 : IntKind.u8.wrap 6 = 6 := rfl
theorem wl_u8_7 : IntKind.u8.wrap 7 = 7 := rfl
theorem wl_u8_8 : IntKind.u8.wrap 8 = 8 := rfl
theorem wl_u8_9 : IntKind.u8.wrap 9 = 9 := rfl
theorem wl_u8_10 : IntKind.u8.wrap 10 = 10 := rfl
theorem wl_u8_11 : IntKind.u8.wrap 11 = 11 := rfl
theorem wl_u8_12 : IntKind.u8.wrap 12 = 12 := rfl
theorem wl_u8_13 : IntKind.u8.wrap 13 = 13 := rfl
theorem wl_u8_14 : IntKind.u8.wrap 14 = 14 := rfl
theorem wl_u8_15 : IntKind.u8.wrap 15 = 15 := rfl
theorem wl_u8_16 : IntKind.u8.wrap 16 = 16 := rfl
theorem wl_u16_0 : IntKind.u16.wrap 0 = 0 := rfl
theorem wl_u16_1 : IntKind.u16.wrap 1 = 1 := rfl
theorem wl_u16_2 : IntKind.u16.wrap 2 = 2 := rfl
theorem wl_u16_3 : IntKind.u16.wrap 3 = 3 := rfl
theorem wl_u16_4 : IntKind.u16.wrap 4 = 4 := rfl
theorem wl_u16_5 : IntKind.u16.wrap 5 = 5 := rfl
theorem wl_u16_6 : IntKind.u16.wrap 6 = 6 := rfl
theorem wl_u16_7 : IntKind.u16.wrap 7 = 7 := rfl
theorem wl_u16_8 : IntKind.u16.wrap 8 = 8 := rfl
theorem wl_u16_9 : IntKind.u16.wrap 9 = 9 := rfl
theorem wl_u16_10 : IntKind.u16.wrap 10 = 10 := rfl
theorem wl_u16_11 : IntKind.u16.wrap 11 = 11 := rfl
theorem wl_u16_12 : IntKind.u16.wrap 12 = 12 := rfl
theorem wl_u16_13 : IntKind.u16.wrap 13 = 13 := rfl
theorem wl_u16_14 : IntKind.u16.wrap 14 = 14 := rfl
theorem wl_u16_15 : IntKind.u16.wrap 15 = 15 := rfl
theorem wl_u16_16 : IntKind.u16.wrap 16 = 16 := rfl
theorem wl_u32_0 : IntKind.u32.wrap 0 = 0 := rfl
theorem wl_u32_1 : IntKind.u32.wrap 1 = 1 := rfl
theorem wl_u32_2 : IntKind.u32.wrap 2 = 2 := rfl
theorem wl_u32_3 : IntKind.u32.wrap 3 = 3 := rfl
theorem wl_u32_4 : IntKind.u32.wrap 4 = 4 := rfl
theorem wl_u32_5 : IntKind.u32.wrap 5 = 5 := rfl
theorem wl_u32_6 : IntKind.u32.wrap 6 = 6 := rfl
theorem wl_u32_7 : IntKind.u32.wrap 7 = 7 := rfl
theorem wl_u32_8 : IntKind.u32.wrap 8 = 8 := rfl
theorem wl_u32_9 : IntKind.u32.wrap 9 = 9 := rfl
theorem wl_u32_10 : IntKind.u32.wrap 10 = 10 := rfl
theorem wl_u32_11 : IntKind.u32.wrap 11 = 11 := rfl
theorem wl_u32_12 : IntKind.u32.wrap 12 = 12 := rfl
theorem wl_u32_13 : IntKind.u32.wrap 13 = 13 := rfl
theorem wl_u32_14 : IntKind.u32.wrap 14 = 14 := rfl
theorem wl_u32_15 : IntKind.u32.wrap 15 = 15 := rfl
theorem wl_u32_16 : IntKind.u32.wrap 16 = 16 := rfl
theorem wl_u64_0 : IntKind.u64.wrap 0 = 0 := rfl
theorem wl_u64_1 : IntKind.u64.wrap 1 = 1 := rfl
theorem wl_u64_2 : IntKind.u64.wrap 2 = 2 := rfl
theorem wl_u64_3 : IntKind.u64.wrap 3 = 3 := rfl
theorem wl_u64_4 : IntKind.u64.wrap 4 = 4 := rfl
theorem wl_u64_5 : IntKind.u64.wrap 5 = 5 := rfl
theorem wl_u64_6 : IntKind.u64.wrap 6 = 6 := rfl
theorem wl_u64_7 : IntKind.u64.wrap 7 = 7 := rfl
theorem wl_u64_8 : IntKind.u64.wrap 8 = 8 := rfl
theorem wl_u64_9 : IntKind.u64.wrap 9 = 9 := rfl
theorem wl_u64_10 : IntKind.u64.wrap 10 = 10 := rfl
theorem wl_u64_11 : IntKind.u64.wrap 11 = 11 := rfl
theorem wl_u64_12 : IntKind.u64.wrap 12 = 12 := rfl
theorem wl_u64_13 : IntKind.u64.wrap 13 = 13 := rfl
theorem wl_u64_14 : IntKind.u64.wrap 14 = 14 := rfl
theorem wl_u64_15 : IntKind.u64.wrap 15 = 15 := rfl
theorem wl_u64_16 : IntKind.u64.wrap 16 = 16 := rfl
theorem wl_i32_0 : IntKind.i32.wrap 0 = 0 := rfl
theorem wl_i32_1 : IntKind.i32.wrap 1 = 1 := rfl
theorem wl_i32_2 : IntKind.i32.wrap 2 = 2 := rfl
theorem wl_i32_3 : IntKind.i32.wrap 3 = 3 := rfl
theorem wl_i32_4 : IntKind.i32.wrap 4 = 4 := rfl
theorem wl_i32_5 : IntKind.i32.wrap 5 = 5 := rfl
theorem wl_i32_6 : IntKind.i32.wrap 6 = 6 := rfl
theorem wl_i32_7 : IntKind.i32.wrap 7 = 7 := rfl
theorem wl_i32_8 : IntKind.i32.wrap 8 = 8 := rfl
theorem wl_i32_9 : IntKind.i32.wrap 9 = 9 := rfl
theorem wl_i32_10 : IntKind.i32.wrap 10 = 10 := rfl
theorem wl_i32_11 : IntKind.i32.wrap 11 = 11 := rfl
theorem wl_i32_12 : IntKind.i32.wrap 12 = 12 := rfl
theorem wl_i32_13 : IntKind.i32.wrap 13 = 13 := rfl
theorem wl_i32_14 : IntKind.i32.wrap 14 = 14 := rfl
theorem wl_i32_15 : IntKind.i32.wrap 15 = 15 := rfl
theorem wl_i32_16 : IntKind.i32.wrap 16 = 16 := rfl
theorem wl_i64_0 : IntKind.i64.wrap 0 = 0 := rfl
theorem wl_i64_1 : IntKind.i64.wrap 1 = 1 := rfl
theorem wl_i64_2 : IntKind.i64.wrap 2 = 2 := rfl
theorem wl_i64_3 : IntKind.i64.wrap 3 = 3 := rfl
theorem wl_i64_4 : IntKind.i64.wrap 4 = 4 := rfl
theorem wl_i64_5 : IntKind.i64.wrap 5 = 5 := rfl
theorem wl_i64_6 : IntKind.i64.wrap 6 = 6 := rfl
theorem wl_i64_7 : IntKind.i64.wrap 7 = 7 := rfl
theorem wl_i64_8 : IntKind.i64.wrap 8 = 8 := rfl
theorem wl_i64_9 : IntKind.i64.wrap 9 = 9 := rfl
theorem wl_i64_10 : IntKind.i64.wrap 10 = 10 := rfl
theorem wl_i64_11 : IntKind.i64.wrap 11 = 11 := rfl
theorem wl_i64_12 : IntKind.i64.wrap 12 = 12 := rfl
theorem wl_i64_13 : IntKind.i64.wrap 13 = 13 := rfl
theorem wl_i64_14 : IntKind.i64.wrap 14 = 14 := rfl
theorem wl_i64_15 : IntKind.i64.wrap 15 = 15 := rfl
theorem wl_i64_16 : IntKind.i64.wrap 16 = 16 := rfl
theorem WLS : (IntKind.u8.wrap 0 = 0) ∧ (IntKind.u8.wrap 1 = 1) ∧ (IntKind.u8.wrap 2 = 2) ∧ (IntKind.u8.wrap 3 = 3) ∧ (IntKind.u8.wrap 4 = 4) ∧ (IntKind.u8.wrap 5 = 5) ∧ (IntKind.u8.wrap 6 = 6) ∧ (IntKind.u8.wrap 7 = 7) ∧ (IntKind.u8.wrap 8 = 8) ∧ (IntKind.u8.wrap 9 = 9) ∧ (IntKind.u8.wrap 10 = 10) ∧ (IntKind.u8.wrap 11 = 11) ∧ (IntKind.u8.wrap 12 = 12) ∧ (IntKind.u8.wrap 13 = 13) ∧ (IntKind.u8.wrap 14 = 14) ∧ (IntKind.u8.wrap 15 = 15) ∧ (IntKind.u8.wrap 16 = 16) ∧ (IntKind.u16.wrap 0 = 0) ∧ (IntKind.u16.wrap 1 = 1) ∧ (IntKind.u16.wrap 2 = 2) ∧ (IntKind.u16.wrap 3 = 3) ∧ (IntKind.u16.wrap 4 = 4) ∧ (IntKind.u16.wrap 5 = 5) ∧ (IntKind.u16.wrap 6 = 6) ∧ (IntKind.u16.wrap 7 = 7) ∧ (IntKind.u16.wrap 8 = 8) ∧ (IntKind.u16.wrap 9 = 9) ∧ (IntKind.u16.wrap 10 = 10) ∧ (IntKind.u16.wrap 11 = 11) ∧ (IntKind.u16.wrap 12 = 12) ∧ (IntKind.u16.wrap 13 = 13) ∧ (IntKind.u16.wrap 14 = 14) ∧ (IntKind.u16.wrap 15 = 15) ∧ (IntKind.u16.wrap 16 = 16) ∧ (IntKind.u32.wrap 0 = 0) ∧ (IntKind.u32.wrap 1 = 1) ∧ (IntKind.u32.wrap 2 = 2) ∧ (IntKind.u32.wrap 3 = 3) ∧ (IntKind.u32.wrap 4 = 4) ∧ (IntKind.u32.wrap 5 = 5) ∧ (IntKind.u32.wrap 6 = 6) ∧ (IntKind.u32.wrap 7 = 7) ∧ (IntKind.u32.wrap 8 = 8) ∧ (IntKind.u32.wrap 9 = 9) ∧ (IntKind.u32.wrap 10 = 10) ∧ (IntKind.u32.wrap 11 = 11) ∧ (IntKind.u32.wrap 12 = 12) ∧ (IntKind.u32.wrap 13 = 13) ∧ (IntKind.u32.wrap 14 = 14) ∧ (IntKind.u32.wrap 15 = 15) ∧ (IntKind.u32.wrap 16 = 16) ∧ (IntKind.u64.wrap 0 = 0) ∧ (IntKind.u64.wrap 1 = 1) ∧ (IntKind.u64.wrap 2 = 2) ∧ (IntKind.u64.wrap 3 = 3) ∧ (IntKind.u64.wrap 4 = 4) ∧ (IntKind.u64.wrap 5 = 5) ∧ (IntKind.u64.wrap 6 = 6) ∧ (IntKind.u64.wrap 7 = 7) ∧ (IntKind.u64.wrap 8 = 8) ∧ (IntKind.u64.wrap 9 = 9) ∧ (IntKind.u64.wrap 10 = 10) ∧ (IntKind.u64.wrap 11 = 11) ∧ (IntKind.u64.wrap 12 = 12) ∧ (IntKind.u64.wrap 13 = 13) ∧ (IntKind.u64.wrap 14 = 14) ∧ (IntKind.u64.wrap 15 = 15) ∧ (IntKind.u64.wrap 16 = 16) ∧ (IntKind.i32.wrap 0 = 0) ∧ (IntKind.i32.wrap 1 = 1) ∧ (IntKind.i32.wrap 2 = 2) ∧ (IntKind.i32.wrap 3 = 3) ∧ (IntKind.i32.wrap 4 = 4) ∧ (IntKind.i32.wrap 5 = 5) ∧ (IntKind.i32.wrap 6 = 6) ∧ (IntKind.i32.wrap 7 = 7) ∧ (IntKind.i32.wrap 8 = 8) ∧ (IntKind.i32.wrap 9 = 9) ∧ (IntKind.i32.wrap 10 = 10) ∧ (IntKind.i32.wrap 11 = 11) ∧ (IntKind.i32.wrap 12 = 12) ∧ (IntKind.i32.wrap 13 = 13) ∧ (IntKind.i32.wrap 14 = 14) ∧ (IntKind.i32.wrap 15 = 15) ∧ (IntKind.i32.wrap 16 = 16) ∧ (IntKind.i64.wrap 0 = 0) ∧ (IntKind.i64.wrap 1 = 1) ∧ (IntKind.i64.wrap 2 = 2) ∧ (IntKind.i64.wrap 3 = 3) ∧ (IntKind.i64.wrap 4 = 4) ∧ (IntKind.i64.wrap 5 = 5) ∧ (IntKind.i64.wrap 6 = 6) ∧ (IntKind.i64.wrap 7 = 7) ∧ (IntKind.i64.wrap 8 = 8) ∧ (IntKind.i64.wrap 9 = 9) ∧ (IntKind.i64.wrap 10 = 10) ∧ (IntKind.i64.wrap 11 = 11) ∧ (IntKind.i64.wrap 12 = 12) ∧ (IntKind.i64.wrap 13 = 13) ∧ (IntKind.i64.wrap 14 = 14) ∧ (IntKind.i64.wrap 15 = 15) ∧ (IntKind.i64.wrap 16 = 16) :=
  ⟨wl_u8_0, wl_u8_1, wl_u8_2, wl_u8_3, wl_u8_4, wl_u8_5, wl_u8_6, wl_u8_7, wl_u8_8, wl_u8_9, wl_u8_10, wl_u8_11, wl_u8_12, wl_u8_13, wl_u8_14, wl_u8_15, wl_u8_16, wl_u16_0, wl_u16_1, wl_u16_2, wl_u16_3, wl_u16_4, wl_u16_5, wl_u16_6, wl_u16_7, wl_u16_8, wl_u16_9, wl_u16_10, wl_u16_11, wl_u16_12, wl_u16_13, wl_u16_14, wl_u16_15, wl_u16_16, wl_u32_0, wl_u32_1, wl_u32_2, wl_u32_3, wl_u32_4, wl_u32_5, wl_u32_6, wl_u32_7, wl_u32_8, wl_u32_9, wl_u32_10, wl_u32_11, wl_u32_12, wl_u32_13, wl_u32_14, wl_u32_15, wl_u32_16, wl_u64_0, wl_u64_1, wl_u64_2, wl_u64_3, wl_u64_4, wl_u64_5, wl_u64_6, wl_u64_7, wl_u64_8, wl_u64_9, wl_u64_10, wl_u64_11, wl_u64_12, wl_u64_13, wl_u64_14, wl_u64_15, wl_u64_16, wl_i32_0, wl_i32_1, wl_i32_2, wl_i32_3, wl_i32_4, wl_i32_5, wl_i32_6, wl_i32_7, wl_i32_8, wl_i32_9, wl_i32_10, wl_i32_11, wl_i32_12, wl_i32_13, wl_i32_14, wl_i32_15, wl_i32_16, wl_i64_0, wl_i64_1, wl_i64_2, wl_i64_3, wl_i64_4, wl_i64_5, wl_i64_6, wl_i64_7, wl_i64_8, wl_i64_9, wl_i64_10, wl_i64_11, wl_i64_12, wl_i64_13, wl_i64_14, wl_i64_15, wl_i64_16⟩
section
variable {P : Program} {n : Nat} {X : Ctx} {c : Code} {Q : Exit → TM → Heap → Prop} {tm : TM} {H : Heap}
def loopN (P : Program) (n : Nat) (X : Ctx) (c : Code) (Q : Exit → TM → Heap → Prop) : Nat → TM → Heap → Prop
  | 0 => fun _ _ => False
  | k + 1 => ev P n X c (seqQ (loopN P n X c Q k) Q)
theorem e_loopN {k : Nat} : loopN P n X c Q (k + 1) tm H = ev P n X c (seqQ (loopN P n X c Q k) Q) tm H := rfl
theorem loopK_n (k : Nat) (hok : codeOk n c = true) (h : loopN P n X c Q k tm H) : loopK P n X c Q tm H := by
  refine IW_loop (fun m tm H => loopN P n X c Q m tm H) k h fun m tm H hI => ?_
  cases m with
  | zero => exact hI.elim
  | succ m =>
    refine IW_mono (ev_sound c hok _ _ _ hI) fun e tm H q => ?_
    cases e with
    | normal => exact ⟨m, by omega, q⟩
    | _ => exact q
theorem g_eqn {A B : TM → Heap → Prop} {a : Int} {m : Nat} {inst : OfNat Int m} (h1 : a = @OfNat.ofNat Int m inst → A tm H) (h2 : (a == @OfNat.ofNat Int m inst) = false → B tm H) : gdb (a == @OfNat.ofNat Int m inst) A B tm H :=
  gdb_split (fun h => h1 (by simpa using h)) h2
theorem loopK_id (h : loopK P n X c Q tm H) : loopK P n X c Q tm H := h
end
end Go.Ev

/- A law's argument that is a slice of plain data: a chunk to be read. -/
namespace Go.Ev
open Go.RowKit Go.ChangeShapes Go.WideShapes Go.ChangeAt
section
variable {H : Type} {enc : TypeId × Value → H} {P : Program} {W : World}

theorem add_none {a : Addr} (h : a.spot = none) (n : Nat) : a.add n = ⟨a.block, a.off + n, none⟩ := by
  obtain ⟨b, o, s⟩ := a
  simp only at h; subst h; simp [Addr.add]

theorem TypedL.raw : ∀ {ls : List Leaf} {xs : List SV}, TypedL ls xs → rawL xs = true
  | [], [], _ => rfl
  | l :: ls, x :: xs, h => by
    simp only [rawL, h.2.raw, Bool.and_true]
    cases l with
    | int k => obtain ⟨n, rfl, _⟩ := h.1; rfl
    | bool => obtain ⟨b, rfl⟩ := h.1; rfl
    | string => obtain ⟨b, rfl, _⟩ := h.1; rfl
  | [], _ :: _, h => h.elim
  | _ :: _, [], h => h.elim

theorem arg_slice {T e : TypeId} {ls : List Leaf} {v : Value} {d : DataW H} {p : List MemPlace} {b0 : Nat} (ht : P.underlying T = some (.slice e)) (hl : leavesOf P 60 e = some ls) (hsz : szT P e = some ls.length)
    (hpos : 0 < ls.length) (hok : Value.okWide P W .any b0 T v) (h : DataW.Trod enc P W 0 (fun _ => true) true T v d p) :
    ∃ (els : List (List SV)) (pl : Pl), (∀ row ∈ els, TypedL ls row) ∧ (∀ (ρ : Ren) (c : Nat), ρ[c]? = some pl → relS ρ (.slice c 0 els.length) v) ∧ (∀ ρ : Ren, SatC ρ W pl (.rows false ls.length els)) ∧ (∀ b u, pl ≠ .obj b u) := by
  obtain ⟨fuel, hf⟩ := h
  have hce : P.cellsOf e = ls.length := cellsOf_of hsz
  unfold Value.okWide at hok
  rw [ht] at hok
  simp only at hok
  unfold Cell.okWide at hok
  rw [ht] at hok
  cases v with
  | slice a len cap =>
    simp only at hok
    unfold Cell.ok at hok
    rw [ht] at hok
    have hcs : (Value.slice a len cap).cells.toList = [.slice a len cap] := by simp [Value.cells]
    rw [hcs] at hf
    rcases DataW.trod_slice ht hf with ⟨h1, _⟩ | ⟨a', len', cap', elems, rest, n, _, h1, _, hb, hlc, _, hlen, hel, hsp, _⟩
    · simp only [List.cons.injEq, Value.slice.injEq, and_true] at h1
      obtain ⟨rfl, rfl, rfl⟩ := h1
      exact ⟨[], .nowhere, (fun _ h => by cases h), fun ρ c hc => .inl ⟨hc, rfl, rfl, rfl⟩, fun ρ => .inl ⟨rfl, rfl⟩, fun b u h => by cases h⟩
    · simp only [List.cons.injEq, Value.slice.injEq, and_true] at h1
      obtain ⟨rfl, rfl, rfl⟩ := h1
      simp only at hok
      obtain ⟨_, _, _, hspot, row, csz, hshape, _⟩ := hok
      have hblk : ∃ cells TT lo hi, W.heap[a'.block]? = some (.cells cells TT (lo, hi)) := by
        unfold World.shape? at hshape
        split at hshape
        · rename_i c el fr hh; exact ⟨c, el, fr.1, fr.2, hh⟩
        · cases hshape
      obtain ⟨cells, TT, lo, hi, hheap⟩ := hblk
      have hrest := hsp rfl
      have each : ∀ i, i < cap → ∃ xs : List SV, TypedL ls xs ∧ ∀ (o : Nat) (x : SV), xs[o]? = some x → ∃ v, cells[a'.off + i * ls.length + o]? = some v ∧ relS [] x v := by
        intro i hi'
        have hb' : ∃ y, (W.cells? 0 (a'.add (i * P.cellsOf e)) (P.cellsOf e)).bind (DataW.trod enc P W 0 (fun _ => true) true n e) = some y := by
          by_cases hil : i < len
          · rw [hel i hil]; exact ⟨_, List.getElem?_eq_getElem (by omega)⟩
          · have := hrest.2 (i - len) (by omega)
            rw [show len + (i - len) = i by omega] at this
            rw [this]; exact ⟨_, List.getElem?_eq_getElem (by omega)⟩
        obtain ⟨y, hy⟩ := hb'
        rw [Option.bind_eq_some_iff] at hy
        obtain ⟨cs', hcs', hy'⟩ := hy
        obtain ⟨xs, hr, hty, _⟩ := (trod_leaves 60).1 e ls hl n cs' y hy'
        obtain ⟨_, hcl, hcell⟩ := World.cells?_some hcs'
        refine ⟨xs, hty, fun o x hx => ?_⟩
        obtain ⟨v, hv, hrel⟩ := hr.get hx
        have ho : o < P.cellsOf e := by rw [← hcl]; exact (List.getElem?_eq_some_iff.1 hv).1
        have := hcell o ho
        rw [hv, add_none hspot, add_none rfl, hce] at this
        refine ⟨v, ?_, hrel⟩
        simpa [World.cell?, hheap] using this
      let f : Nat → List SV := fun i => if h : i < cap then Classical.choose (each i h) else []
      have hf' : ∀ i, i < cap → TypedL ls (f i) ∧ ∀ (o : Nat) (x : SV), (f i)[o]? = some x → ∃ v, cells[a'.off + i * ls.length + o]? = some v ∧ relS [] x v := by
        intro i h
        simp only [f, dif_pos h]
        exact Classical.choose_spec (each i h)
      have helsg : ∀ (i : Nat) (row : List SV), ((List.range len).map f)[i]? = some row → i < len ∧ row = f i := by
        intro i row hrow
        rw [List.getElem?_map] at hrow
        cases hr : (List.range len)[i]? with
        | none => rw [hr] at hrow; cases hrow
        | some j =>
          obtain ⟨hlt, hj⟩ := List.getElem?_eq_some_iff.1 hr
          simp at hlt hj; subst hj
          rw [hr] at hrow; simp at hrow; exact ⟨hlt, hrow.symm⟩
      have hty : ∀ row ∈ (List.range len).map f, TypedL ls row := by
        intro row hrow
        obtain ⟨i, hi', rfl⟩ := List.mem_map.1 hrow
        exact (hf' i (by simp at hi'; omega)).1
      have hrows : ∀ ρ : Ren, rowsAt ρ cells a'.off ls.length ((List.range len).map f) := by
        intro ρ i row hrow
        obtain ⟨hlt, rfl⟩ := helsg i row hrow
        obtain ⟨h1, h2⟩ := hf' i (by omega)
        refine ⟨h1.len, fun o x hx => ?_⟩
        obtain ⟨v, hv, hs⟩ := h2 o x hx
        refine ⟨v, hv, rawS_rel ?_ hs⟩
        have hraw := h1.raw
        have : ∀ (l : List SV), rawL l = true → ∀ x ∈ l, rawS x = true := by
          intro l
          induction l with
          | nil => intro _ x h; cases h
          | cons y l ih =>
            intro h x hx
            simp only [rawL, Bool.and_eq_true] at h
            rcases List.mem_cons.1 hx with rfl | hx
            · exact h.1
            · exact ih h.2 x hx
        exact this _ hraw x (List.mem_of_getElem? hx)
      have hspot' : a' = ⟨a'.block, a'.off, none⟩ := by
        obtain ⟨b, o, s⟩ := a'
        simp only at hspot; subst hspot; rfl
      by_cases hcap : cap = 0
      · subst hcap
        have hl0 : len = 0 := by omega
        subst hl0
        refine ⟨[], .mem a'.block 0 ls.length 0, (fun _ h => by cases h), fun ρ c hc => .inr (.inr ⟨a'.block, 0, ls.length, 0, a'.off, hc, rfl, by rw [hspot']⟩), fun ρ => .inr ⟨a'.block, 0, 0, cells, TT, lo, hi, rfl, hheap, hpos, Nat.le_refl _, by simp, (fun h => by cases h), (fun h => by cases h), fun i row h => by simp at h⟩, fun b u h => by cases h⟩
      · refine ⟨(List.range len).map f, .mem a'.block a'.off ls.length cap, hty, fun ρ c hc => .inr (.inl ⟨a'.block, a'.off, ls.length, cap, cap, hc, ?_, by simpa using hlc, by simp⟩),
          fun ρ => .inr ⟨a'.block, a'.off, cap, cells, TT, lo, hi, rfl, hheap, hpos, by simpa using hlc, ?_, (fun h => by cases h), (fun h => by cases h), hrows ρ⟩, fun b u h => by cases h⟩
        · rw [hspot']; simp
        · obtain ⟨h1, h2⟩ := hf' (cap - 1) (by omega)
          obtain ⟨x, hx⟩ : ∃ x, (f (cap - 1))[ls.length - 1]? = some x := ⟨_, List.getElem?_eq_getElem (by rw [h1.len]; omega)⟩
          obtain ⟨v, hv, _⟩ := h2 _ x hx
          have hlt := (Array.getElem?_eq_some_iff.1 hv).1
          have : cap * ls.length = (cap - 1) * ls.length + ls.length := by
            conv => lhs; rw [show cap = (cap - 1) + 1 by omega, Nat.add_mul, Nat.one_mul]
          omega
  | _ => first | exact hok.elim | (simp only at hok; unfold Cell.ok at hok; rw [ht] at hok; exact hok.elim)

/-! #### arguments of a law: plain data, or slices of plain data -/
inductive AK where
  | scal (ls : List Leaf) (ag : Bool)
  | sl (e : TypeId) (ls : List Leaf)

def TypedB : Nat → List (TypeId × AK) → List IV → Heap → Prop
  | _, [], [], [] => True
  | k, (_, .scal ls ag) :: L, v :: vs, H => (∃ xs, TypedL ls xs ∧ v = ldIV ag xs) ∧ TypedB k L vs H
  | k, (_, .sl _ ls) :: L, v :: vs, ch :: H => (∃ els : List (List SV), (∀ row ∈ els, TypedL ls row) ∧ v = .s (.slice k 0 els.length) ∧ ch = .rows false ls.length els) ∧ TypedB (k + 1) L vs H
  | _, _, _, _ => False

def okB (P : Program) : TypeId × AK → Prop
  | (t, .scal ls ag) => leavesOf P 60 t = some ls ∧ aggT P t = some ag
  | (t, .sl e ls) => P.underlying t = some (.slice e) ∧ leavesOf P 60 e = some ls ∧ szT P e = some ls.length ∧ 0 < ls.length

theorem args_gen {b0 : Nat} : ∀ (L : List (TypeId × AK)) (k : Nat) {ts : List TypeId} {vs : List Value} {ds : List (DataW H)} {p : List MemPlace}, ts = L.map (·.1) → (∀ e ∈ L, okB P e) →
    DataW.TrodAll enc P W 0 (fun _ => true) true ts vs ds p → (∀ (j : Nat) t v, ts[j]? = some t → vs[j]? = some v → Value.okWide P W .any b0 t v) →
    ∃ (ivs : List IV) (H0 : Heap) (pls : List Pl), TypedB k L ivs H0 ∧ pls.length = H0.length ∧ (∀ ρ : Ren, (∀ (i : Nat) (pl : Pl), pls[i]? = some pl → ρ[k + i]? = some pl) → relA ρ ivs vs) ∧
      (∀ (i : Nat) (ch : Chunk), H0[i]? = some ch → ∃ pl sz els, pls[i]? = some pl ∧ ch = .rows false sz els ∧ (∀ ρ : Ren, SatC ρ W pl ch) ∧ ∀ b u, pl ≠ .obj b u)
  | [], k, ts, vs, ds, p, e, _, h, _ => by
    subst e
    cases vs with
    | nil => exact ⟨[], [], [], trivial, rfl, fun _ _ => trivial, fun i ch h => by simp at h⟩
    | cons _ _ => cases ds <;> exact h.elim
  | ⟨t, kd⟩ :: L, k, ts, vs, ds, p, e, hL, h, hv => by
    subst e
    cases vs with
    | nil => cases ds <;> exact h.elim
    | cons v vs =>
      cases ds with
      | nil => exact h.elim
      | cons d ds =>
        obtain ⟨p1, p2, h1, h2, _⟩ := h
        have hvs : ∀ (j : Nat) t v, (L.map (·.1))[j]? = some t → vs[j]? = some v → Value.okWide P W .any b0 t v := fun j t v h1 h2 => hv (j + 1) t v (by simpa using h1) (by simpa using h2)
        have hL' := fun e he => hL e (List.mem_cons_of_mem _ he)
        have h0 := hL _ List.mem_cons_self
        cases kd with
        | scal ls ag =>
          obtain ⟨hl, ha⟩ := h0
          obtain ⟨xs, hx, hr, _⟩ := arg_scal hl ha (hv 0 t v rfl rfl) h1
          obtain ⟨ivs, H0, pls, ht, hlen, hrs, hsat⟩ := args_gen L k rfl hL' h2 hvs
          exact ⟨_ :: ivs, H0, pls, ⟨⟨xs, hx, rfl⟩, ht⟩, hlen, fun ρ hρ => ⟨hr ρ, hrs ρ hρ⟩, hsat⟩
        | sl e ls =>
          obtain ⟨hu, hl, hsz, hpos⟩ := h0
          obtain ⟨els, pl, hty, hrel, hs, ho⟩ := arg_slice hu hl hsz hpos (hv 0 t v rfl rfl) h1
          obtain ⟨ivs, H0, pls, ht, hlen, hrs, hsat⟩ := args_gen L (k + 1) rfl hL' h2 hvs
          refine ⟨.s (.slice k 0 els.length) :: ivs, .rows false ls.length els :: H0, pl :: pls, ⟨⟨els, hty, rfl, rfl⟩, ht⟩, by simp [hlen], fun ρ hρ => ⟨?_, hrs ρ fun i q hq => ?_⟩, fun i ch hi => ?_⟩
          · exact hrel ρ k (by simpa using hρ 0 pl rfl)
          · have := hρ (i + 1) q (by simpa using hq)
            rwa [show k + (i + 1) = k + 1 + i by omega] at this
          · cases i with
            | zero => simp at hi; subst hi; exact ⟨pl, _, _, rfl, rfl, hs, ho⟩
            | succ i => exact hsat i ch (by simpa using hi)

theorem hcall_gen {f : FuncId} {fn : Func} (L : List (TypeId × AK)) (hts : fn.params.toList = L.map (·.1)) (hL : ∀ e ∈ L, okB P e)
    (hf : ∀ ivs H0, TypedB 0 L ivs H0 → FunR P f H0 ivs (.s (.raw (.bool true)))) (W : World) (base : Nat) (args : Array Value) (ds : List (DataW H)) (p : List MemPlace)
    (h : DataW.TrodAll enc P W 0 (fun _ => true) true fn.params.toList args.toList ds p) (hv : ∀ (j : Nat) t v, fn.params[j]? = some t → args[j]? = some v → Value.okWide P W .any base t v) :
    Calls P f args W fun e W' => e = .returned (.bool true) ∧ Below W.heap.size W W' := by
  obtain ⟨ivs, H0, pls, ht, hlen, hr, hsat⟩ := args_gen L 0 hts hL h (fun j t v h1 h2 => hv j t v (by simpa using h1) (by simpa using h2))
  have hro : ∀ (c : Nat) (ch : Chunk), H0[c]? = some ch → ch.owned = false := fun c ch hc => by
    obtain ⟨_, _, _, _, rfl, _⟩ := hsat c ch hc; rfl
  have hi : Inv (ctx0 W) pls H0 W := by
    refine ⟨rfl, rfl, rfl, Nat.le_refl _, Nat.le_refl _, fun _ _ _ => rfl, hlen, ?_, ?_, ?_, ?_, ?_⟩
    · intro c b u hc
      have hlt : c < H0.length := by rw [← hlen]; exact (List.getElem?_eq_some_iff.1 hc).1
      obtain ⟨pl, _, _, hpl, _, _, ho⟩ := hsat c _ (List.getElem?_eq_getElem hlt)
      rw [hc] at hpl; cases hpl
      exact absurd rfl (ho b u)
    · intro c ch hc
      obtain ⟨pl, _, _, hpl, _, hs, _⟩ := hsat c ch hc
      exact ⟨pl, hpl, hs _⟩
    · intro c ch l b hc ho; rw [hro c ch hc] at ho; cases ho
    · intro c sz els l b hc hl hb
      obtain ⟨pl, _, _, hpl, _, hs, _⟩ := hsat c _ hc
      rw [hl] at hpl; cases hpl
      refine ⟨?_, fun h => h⟩
      rcases hs [] with ⟨rfl, _⟩ | ⟨b', base, lim, cells, T, lo, hi, rfl, h2, _⟩
      · cases hb
      · simp only [Pl.blk, Option.some.injEq] at hb
        subst hb
        exact (Array.getElem?_eq_some_iff.1 h2).1
    · intro c d ch dh l m b _ hc _ ho; rw [hro c ch hc] at ho; cases ho
  refine ((hf ivs H0 ht).2 W pls args.toList hi (hr pls fun i pl h => by simpa using h)).mono ?_
  rintro e w' ⟨v, rfl, hv, hb⟩
  exact ⟨by rw [show v = .bool true from hv.1], hb.toBelow⟩
theorem b_sl {k : Nat} {t e : TypeId} {ls : List Leaf} {L : List (TypeId × AK)} {ivs : List IV} {H0 : Heap} (h : TypedB k ((t, .sl e ls) :: L) ivs H0) :
    ∃ els ivs' H', (∀ row ∈ els, TypedL ls row) ∧ ivs = .s (.slice k 0 els.length) :: ivs' ∧ H0 = .rows false ls.length els :: H' ∧ TypedB (k + 1) L ivs' H' := by
  cases ivs with
  | nil => simp [TypedB] at h
  | cons v vs => cases H0 with
    | nil => simp [TypedB] at h
    | cons ch H' =>
      simp only [TypedB] at h
      obtain ⟨⟨els, h1, rfl, rfl⟩, h2⟩ := h
      exact ⟨els, vs, H', h1, rfl, rfl, h2⟩
theorem b_nil {k : Nat} {ivs : List IV} {H0 : Heap} (h : TypedB k [] ivs H0) : ivs = [] ∧ H0 = [] := by
  cases ivs <;> cases H0 <;> simp [TypedB] at h ⊢
end
end Go.Ev

/- A heap with a known beginning and an unknown rest: how it is read and written. -/
namespace Go.Ev
section
variable {α : Type} {H G l : Heap} {ch x y : Chunk} {k : Nat}
end
end Go.Ev

/- Strings: small laws. -/
namespace Go.Ev
theorem strEq_self (s : ByteArray) : strEq s s = true := by simp [strEq]
theorem wr_i64 {n : Int} (h1 : -9223372036854775808 ≤ n) (h2 : n ≤ 9223372036854775807) : IntKind.i64.wrap n = n := by
  have : IntKind.i64.wrap n = if n % 18446744073709551616 ≥ 9223372036854775808 then n % 18446744073709551616 - 18446744073709551616 else n % 18446744073709551616 := by simp [IntKind.wrap, IntKind.signed, IntKind.bits]
  rw [this]; split <;> omega
end Go.Ev

/- The rules of the evaluator and the plain lemmas that go with them, in two names. -/
namespace Go.Ev
abbrev RS_ := And.intro @e_nil (And.intro @e_cons (And.intro @e_gd (And.intro @e_gdt (And.intro @e_gdf (And.intro @e_g0 (And.intro @e_g1 (And.intro @e_op (And.intro @e_step (And.intro @e_stepG (And.intro @e_stepN (And.intro @e_clo (And.intro @e_cloF (And.intro @e_ret (And.intro @e_put (And.intro @e_junk (And.intro @e_skip (And.intro @e_reg (And.intro @e_draw (And.intro @e_seq (And.intro @e_cond (And.intro @e_block (And.intro @e_exit (And.intro @e_r (And.intro @e_label (And.intro @e_loop (And.intro @q_sn (And.intro @q_sr (And.intro @q_se (And.intro @q_bn (And.intro @q_br (And.intro @q_be (And.intro @q_rr (And.intro @q_rn (And.intro @e_res0 (And.intro @e_res1 (And.intro @e_res2 (And.intro @e_b (And.intro @d_nil (And.intro @d_cons (And.intro @d_op (And.intro @d_step (And.intro @d_stepG (And.intro @d_stepN (And.intro @d_clo (And.intro @d_cloF (And.intro @d_ret (And.intro @d_put (And.intro @d_junk (And.intro @d_inf (And.intro @d_fin (And.intro @g_not (@g_and))))))))))))))))))))))))))))))))))))))))))))))))))))
abbrev ST_ := And.intro @List.length_cons.{0} (And.intro @List.length_nil.{0} (And.intro @List.length_append.{0} (And.intro @List.length_replicate.{0} (And.intro @List.length_set.{0} (And.intro @Nat.zero_add (And.intro @Nat.add_zero (And.intro @not_false_eq_true (And.intro @not_true_eq_false (And.intro @true_and (And.intro @and_true (And.intro @and_false (And.intro @false_and (And.intro @and_self (And.intro @List.nil_append.{0} (And.intro @List.cons_append.{0} (And.intro @List.append_nil.{0} (And.intro @List.getElem?_cons_zero.{0} (And.intro @List.getElem?_cons_succ.{0} (And.intro @List.drop_succ_cons.{0} (And.intro @List.drop_zero.{0} (And.intro @List.take_succ_cons.{0} (And.intro @List.take_zero.{0} (And.intro @List.set_cons_zero.{0} (And.intro @List.set_cons_succ.{0} (And.intro @List.getElem?_toArray.{0} (And.intro @Option.bind_some.{0, 0} (And.intro @Bool.false_eq_true (And.intro @Nat.add_one_ne_zero (And.intro @Nat.succ_ne_self (And.intro @List.map_cons.{0, 0} (And.intro @List.map_nil.{0, 0} (And.intro @Bool.not_true (And.intro @Bool.not_false (And.intro @List.replicate_succ.{0} (And.intro @List.replicate_zero.{0} (And.intro @List.mem_cons.{0} (And.intro @List.not_mem_nil.{0} (And.intro @or_false (And.intro @false_or (And.intro @or_true (And.intro @true_or (And.intro @false_implies (And.intro @true_implies (And.intro @Int.cast_ofNat_Int (And.intro @beq_self_eq_true.{0} (And.intro @Bool.true_and (And.intro @Bool.false_and (And.intro @Bool.and_true (And.intro @Bool.and_false (And.intro @Bool.true_or (And.intro @Bool.false_or (And.intro @Bool.or_true (And.intro @Bool.or_false (And.intro @Nat.zero_min (And.intro @Nat.min_zero (And.intro @Nat.min_self (And.intro @List.flatMap_cons.{0, 0} (And.intro @List.flatMap_nil.{0, 0} (And.intro @Int.toNat_natCast (And.intro @strEq_self (And.intro @Bool.not_eq_true' (And.intro @decide_true (@decide_false)))))))))))))))))))))))))))))))))))))))))))))))))))))))))))))))
end Go.Ev
