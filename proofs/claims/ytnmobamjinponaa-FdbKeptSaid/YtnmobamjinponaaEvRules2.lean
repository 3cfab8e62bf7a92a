/- Rules for regions that draw, for arguments, for calls. -/
import Derived.Test.YtnmobamjinponaaEvLaw
namespace Go.Ev
def isAl (o : Oper) : Nat :=
  match o.op with
  | .alloc _ | .box _ _ | .buildSlice _ _ _ | .makeSlice _ _ _ | .makeMap _ _ | .convert _ _ _ => 1
  | .call c => match c.callee with | .builtin .append => 1 | _ => 0
  | _ => 0
def nAl : List Oper → Nat
  | [] => 0
  | o :: os => isAl o + nAl os
section
variable {P : Program} {n : Nat} {X : Ctx} {all ops : Array Oper} {os : List Oper} {o : Oper} {K : TM → Heap → Prop} {k : KD} {tm : TM} {H : Heap} {m : Nat} {acc : List Inf} {b : Bool} {c : Prop} {v : IV} {d : Option Nat} {x y : Operand}
theorem drawK_auto {id : Nat} (hmix : P.follows .mixedOrders = true) (hok : all.toList.all (operOk n) = true)
    (h : evD P X all (drawFin all K) all.toList H.length [] tm (H ++ List.replicate (nAl all.toList) .gone)) : drawK P n X id all K tm H := drawK_of _ hmix hok h
theorem d_nil : evD P X all k [] m acc tm H = k m acc tm H := rfl
theorem d_cons : evD P X all k (o :: os) m acc tm H = gd (guardB all tm o.guard) (opD P X o (evD P X all k os) m acc) (junkD (evD P X all k os) m acc o.dst) tm H := rfl
theorem d_op (t : Nat) (p : String) (af : Array Edge) (g : Option (Nat × Bool)) (op : Op) : opD P X ⟨d, op, t, p, af, g⟩ k m acc tm H = match op with
  | .call c => match c.callee with
    | .value (.func f) => callD P X f (c.args.toList.map (rd tm)) H (retD k m acc d tm H)
    | .value (.tmp t) => cloD P X (get tm t) (c.args.toList.map (rd tm)) H (retD k m acc d tm H)
    | .builtin _ => stepDG (stepE P m op tm H) (genD P X ⟨d, op, t, p, af, g⟩ tm H (retD k m acc d tm H)) k m acc ⟨d, op, t, p, af, g⟩ tm H
    | _ => stepD (stepE P m op tm H) k m acc ⟨d, op, t, p, af, g⟩ tm H
  | .pick c x y => gd (boolOf (rd tm c)) (putD k m acc d x) (putD k m acc d y) tm H
  | .lookup _ _ _ _ => genD P X ⟨d, op, t, p, af, g⟩ tm H (retD k m acc d tm H)
  | .mapUpdate _ _ _ _ => genD P X ⟨d, op, t, p, af, g⟩ tm H (retD k m acc d tm H)
  | .insert _ _ _ _ => genD P X ⟨d, op, t, p, af, g⟩ tm H (retD k m acc d tm H)
  | op => stepD (stepE P m op tm H) k m acc ⟨d, op, t, p, af, g⟩ tm H := by cases op <;> rfl
theorem d_step {W : List (Nat × Chunk)} : stepD (some (c, v, W)) k m acc o tm H = (c ∧ (m ∈ W.map (·.1) → m < H.length) ∧ k (nextM m W) (drawI m o tm W :: acc) (put tm o.dst v) (upd H W)) := rfl
theorem d_stepG {W : List (Nat × Chunk)} {g : Prop} : stepDG (some (c, v, W)) g k m acc o tm H = (c ∧ (m ∈ W.map (·.1) → m < H.length) ∧ k (nextM m W) (drawI m o tm W :: acc) (put tm o.dst v) (upd H W)) := rfl
theorem d_stepN {g : Prop} : stepDG none g k m acc o tm H = g := rfl
theorem d_clo {ch : Nat} {args : List IV} {kd : List Nat → IV → List (Nat × Chunk) → Prop} : cloD P X (.s (.ref ch)) args H kd = match H[ch]? with
    | some (.clo (.func f) first cap) => callD P X f (first ++ (args ++ cap)) H fun σ r W => kd (ch :: σ) r W
    | _ => False := rfl
theorem d_cloF {f : FuncId} {args : List IV} {kd : List Nat → IV → List (Nat × Chunk) → Prop} : cloD P X (.s (.raw (.func (.func f) #[] #[]))) args H kd = callD P X f args H kd := by simp [cloD]
theorem d_ret (σ : List Nat) (r : IV) (W : List (Nat × Chunk)) : retD k m acc d tm H σ r W = k m ((σ, W.map (·.1)) :: acc) (put tm d r) (upd H W) := rfl
theorem d_put : putD k m acc d x tm H = k m (([], []) :: acc) (put tm d (rd tm x)) H := rfl
theorem d_junk : junkD k m acc d tm H = k m (([], []) :: acc) (put tm d (.t [])) H := rfl
theorem d_inf {W : List (Nat × Chunk)} : drawI m o tm W = (if m ∈ W.map (·.1) then m :: cR o.op tm else cR o.op tm, W.map (·.1)) := rfl
theorem d_fin : drawFin all K m acc tm H = (drawOk all acc.reverse = true ∧ m ≤ H.length ∧ K tm H) := rfl
theorem callD_of {f : FuncId} {args : List IV} {r : IV} {k : List Nat → IV → List (Nat × Chunk) → Prop} (h : Fun P f args r) (ha : rawT args = true) (hr : rawI r = true) (hk : k [] r []) : callD P X f args H k :=
  ⟨[], r, [], callOK_funR (by rw [pullT_raw ha]; exact h.toR ha) hr, hk⟩
theorem callD_read {f : FuncId} {args args' : List IV} {r : IV} {H0 : Heap} {k : List Nat → IV → List (Nat × Chunk) → Prop} (σ : List Nat) (h : FunR P f H0 args' r) (hH : pullH σ H = H0) (ha : args.map (pullI σ) = args') (hr : rawI r = true) (hk : k σ r []) : callD P X f args H k :=
  ⟨σ, r, [], callOK_funR (by rw [hH, ha]; exact h) hr, hk⟩
theorem callD_write {f : FuncId} {args args' : List IV} {r : IV} {Hr Hw Hw' : Heap} {k : List Nat → IV → List (Nat × Chunk) → Prop} (σr σw : List Nat) (h : FunW P f Hr Hw args' fun r' Hn => r' = r ∧ ∃ G, Hn = Hw' ++ G) (hH : pullHW σr σw H = Hr ++ Hw) (hlr : Hr.length = σr.length) (hlw : Hw'.length = σw.length)
    (hnd : (σr ++ σw).Nodup) (hin : ∀ c ∈ σr ++ σw, ∃ ch, H[c]? = some ch ∧ ch ≠ .gone) (hw : ∀ c ∈ σw, ∃ sz els, H[c]? = some (.rows true sz els)) (ha : args.map (pullI (σr ++ σw)) = args')
    (hk : k (σr ++ σw) (pushI (σr ++ σw) r) (σw.zip (Hw'.map (pushC (σr ++ σw))))) : callD P X f args H k :=
  ⟨_, _, _, callOK_funW σr σw h hH hlr hlw hnd hin hw ha, hk⟩

theorem ty_bool {ls : List Leaf} {xs : List SV} (h : TypedL (.bool :: ls) xs) : ∃ b ys, xs = .raw (.bool b) :: ys ∧ TypedL ls ys := by
  cases xs with
  | nil => exact h.elim
  | cons x xs => obtain ⟨⟨b, rfl⟩, h⟩ := h; exact ⟨b, xs, rfl, h⟩
theorem ty_int {k : IntKind} {ls : List Leaf} {xs : List SV} (h : TypedL (.int k :: ls) xs) : ∃ n ys, xs = .raw (.int k n) :: ys ∧ k.min ≤ n ∧ n ≤ k.max ∧ TypedL ls ys := by
  cases xs with
  | nil => exact h.elim
  | cons x xs => obtain ⟨⟨n, rfl, h1, h2⟩, h⟩ := h; exact ⟨n, xs, rfl, h1, h2, h⟩
theorem ty_str {ls : List Leaf} {xs : List SV} (h : TypedL (.string :: ls) xs) : ∃ s ys, xs = .raw (.string s) :: ys ∧ s.size ≤ 9223372036854775807 ∧ TypedL ls ys := by
  cases xs with
  | nil => exact h.elim
  | cons x xs => obtain ⟨⟨s, rfl, h1⟩, h⟩ := h; exact ⟨s, xs, rfl, h1, h⟩
theorem ty_nil {xs : List SV} (h : TypedL [] xs) : xs = [] := by
  cases xs with
  | nil => rfl
  | cons x xs => exact h.elim
end
end Go.Ev
