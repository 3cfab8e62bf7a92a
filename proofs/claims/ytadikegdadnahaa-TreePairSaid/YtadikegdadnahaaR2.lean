/- A part of the proof: contracts of the functions that the statement reaches. -/
import Derived.Test.YtadikegdadnahaaR1
namespace Go.Ev
open Go.Proofs
set_option maxRecDepth 100000
set_option linter.unusedSimpArgs false
set_option linter.unusedVariables false
set_option maxHeartbeats 4000000
structure PT where
  (on heard : Bool) (v : V4) (cost id : Int)
def encP (p : PT) : List SV := [.raw (.bool p.on), .raw (.bool p.heard), .raw (.int .u64 p.v.r), .raw (.int .u32 p.v.c), .raw (.int .u64 p.v.b), .raw (.int .u16 p.v.p), .raw (.int .u32 p.cost), .raw (.int .u16 p.id)]
def encA (p : PT) : List SV := [.raw (.bool p.on), .raw (.bool p.heard), .raw (.int .u64 p.v.r), .raw (.int .u64 p.v.b), .raw (.int .u32 p.v.c), .raw (.int .u32 p.cost), .raw (.int .u16 p.v.p), .raw (.int .u16 p.id)]
structure WY where
  (v : V4) (n id : Int)
def encW (w : WY) : List SV := [.raw (.int .u64 w.v.r), .raw (.int .u32 w.v.c), .raw (.int .u64 w.v.b), .raw (.int .u16 w.v.p), .raw (.int .i64 w.n), .raw (.int .u16 w.id)]
def wayB (v w : V4) (i j : Int) : Bool := if v = w then decide (i < j) else betV v w
theorem eq_v4 (v w : V4) : (v.r == w.r && (v.c == w.c && (v.b == w.b && v.p == w.p))) = decide (v = w) := by
  cases v; cases w; simp [Bool.decide_and, V4.mk.injEq]; rfl
def isWay (self : Int) (p : PT) : Bool := p.on && (p.heard && !(p.v.b == self))
def wayV (p : PT) : V4 := plusV p.v p.cost
def stepW (self : Int) (b : WY) (i : Nat) (p : PT) : WY :=
  if isWay self p then (if b.n == 0 then ⟨wayV p, (i : Int) + 1, p.id⟩ else if wayB (wayV p) b.v p.id b.id then ⟨wayV p, (i : Int) + 1, p.id⟩ else b) else b
def bestW (self : Int) (ps : List PT) : Nat → WY
  | 0 => ⟨⟨0, 0, 0, 0⟩, 0, 0⟩
  | i + 1 => match ps[i]? with
    | some p => stepW self (bestW self ps i) i p
    | none => bestW self ps i
theorem pull_P (σ : List Nat) (p : PT) : (encP p).map (pullS σ) = encP p := rfl
theorem pull_A (σ : List Nat) (p : PT) : (encA p).map (pullS σ) = encA p := rfl
theorem pull_V (σ : List Nat) (p : V4) : (encV p).map (pullS σ) = encV p := rfl
theorem f69 (v w : WY) : Fun Try.prog 65 [.a (encW v), .a (encW w)] (.s (.raw (.bool (wayB v.v w.v v.id w.id)))) := by
  refine fun_of rfl fun X => ?_
  refine callK_inline (rs := [.tmp 4]) (n := 20) Try.func65 rfl rfl rfl (by kernel_rfl) (by kernel_rfl) (by simp only [List.length_cons, List.length_nil]; decide) ?_
  have he := eq_v4 v.v w.v
  by_cases h : v.v = w.v
  · have hd : decide (v.v = w.v) = true := decide_eq_true h
    repeat' first
      | with_reducible rfl
      | simp only [encW, he, hd, wayB, h, RS_, FB_, mapC, pushC, segR, ST_, seval, ne_eq, bne, forall_const, implies_true, TY_, WLS]
      | with_reducible refine gdb_split (fun h => ?_) (fun h => ?_)
      | (with_reducible refine drawK_id ?_); refine drawK_auto hmix (by kernel_rfl) ?_
      | (with_reducible refine draw_fin ?_ ?_); · kernel_rfl
      | (with_reducible refine draw_id ?_); kernel_rfl
      | (with_reducible refine callK_id (f := 66) ?_); refine callK_fun (f15 v.v w.v) rfl rfl ?_
      | (with_reducible refine And.intro ?_ ?_; · omega)
  · have hd : decide (v.v = w.v) = false := decide_eq_false h
    repeat' first
      | with_reducible rfl
      | simp only [encW, he, hd, wayB, h, RS_, FB_, mapC, pushC, segR, ST_, seval, ne_eq, bne, forall_const, implies_true, TY_, WLS]
      | with_reducible refine gdb_split (fun h => ?_) (fun h => ?_)
      | (with_reducible refine drawK_id ?_); refine drawK_auto hmix (by kernel_rfl) ?_
      | (with_reducible refine draw_fin ?_ ?_); · kernel_rfl
      | (with_reducible refine draw_id ?_); kernel_rfl
      | (with_reducible refine callK_id (f := 66) ?_); refine callK_fun (f15 v.v w.v) rfl rfl ?_
      | (with_reducible refine And.intro ?_ ?_; · omega)
end Go.Ev
