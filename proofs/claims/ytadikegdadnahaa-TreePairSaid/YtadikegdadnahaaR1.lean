/- A part of the proof: contracts of the functions that the statement reaches. -/
import Derived.Test.YtadikegdadnahaaTysC
namespace Go.Ev
open Go.Proofs
set_option maxRecDepth 100000
set_option linter.unusedSimpArgs false
set_option linter.unusedVariables false
set_option maxHeartbeats 4000000
def cmpI (a b : Int) : Int := if a < b then -1 else if b < a then 1 else 0
theorem cmp1 {a b : Int} (h : decide (a < b) = true) : cmpI a b = -1 := by simp only [decide_eq_true_eq] at h; simp [cmpI, h]
theorem cmp2 {a b : Int} (h1 : decide (a < b) = false) (h2 : decide (b < a) = true) : cmpI a b = 1 := by simp only [decide_eq_true_eq, decide_eq_false_iff_not] at h1 h2; simp [cmpI, h1, h2]
theorem cmp3 {a b : Int} (h1 : decide (a < b) = false) (h2 : decide (b < a) = false) : cmpI a b = 0 := by simp only [decide_eq_false_iff_not] at h1 h2; simp [cmpI, h1, h2]
structure V4 where
  (r c b p : Int)
  deriving DecidableEq
def encV (v : V4) : List SV := [.raw (.int .u64 v.r), .raw (.int .u32 v.c), .raw (.int .u64 v.b), .raw (.int .u16 v.p)]
theorem f48 (a b : Int) : Fun Try.prog 71 [.s (.raw (.int .u64 a)), .s (.raw (.int .u64 b))] (.s (.raw (.int .i64 (cmpI a b)))) := by
  refine fun_of rfl fun X => ?_
  refine callK_inline (rs := [.tmp 4]) (n := 20) Try.func71 rfl rfl rfl (by kernel_rfl) (by kernel_rfl) (by simp only [List.length_cons, List.length_nil]; decide) ?_
  repeat' first
    | with_reducible rfl
    | simp only [*, cmp1, cmp2, cmp3, RS_, FB_, mapC, pushC, segR, ST_, seval, ne_eq, bne, forall_const, implies_true, TY_, WLS]
    | with_reducible refine g_eq (fun h => ?_) (fun h => ?_)
    | with_reducible refine gdb_split (fun h => ?_) (fun h => ?_)
    | (with_reducible refine drawK_id ?_); refine drawK_auto hmix (by kernel_rfl) ?_
    | (with_reducible refine draw_fin ?_ ?_); · kernel_rfl
    | (with_reducible refine draw_id ?_); kernel_rfl
    | (with_reducible refine callK_id (f := 74) ?_); refine callK_inline (rs := [.tmp 2]) (n := 6) Try.func74 rfl rfl rfl (by kernel_rfl) (by kernel_rfl) (by simp only [List.length_cons, List.length_nil]; decide) ?_
    | (with_reducible refine And.intro ?_ ?_; · omega)
theorem f49 (a b : Int) : Fun Try.prog 72 [.s (.raw (.int .u32 a)), .s (.raw (.int .u32 b))] (.s (.raw (.int .i64 (cmpI a b)))) := by
  refine fun_of rfl fun X => ?_
  refine callK_inline (rs := [.tmp 4]) (n := 20) Try.func72 rfl rfl rfl (by kernel_rfl) (by kernel_rfl) (by simp only [List.length_cons, List.length_nil]; decide) ?_
  repeat' first
    | with_reducible rfl
    | simp only [*, cmp1, cmp2, cmp3, RS_, FB_, mapC, pushC, segR, ST_, seval, ne_eq, bne, forall_const, implies_true, TY_, WLS]
    | with_reducible refine g_eq (fun h => ?_) (fun h => ?_)
    | with_reducible refine gdb_split (fun h => ?_) (fun h => ?_)
    | (with_reducible refine drawK_id ?_); refine drawK_auto hmix (by kernel_rfl) ?_
    | (with_reducible refine draw_fin ?_ ?_); · kernel_rfl
    | (with_reducible refine draw_id ?_); kernel_rfl
    | (with_reducible refine callK_id (f := 75) ?_); refine callK_inline (rs := [.tmp 2]) (n := 6) Try.func75 rfl rfl rfl (by kernel_rfl) (by kernel_rfl) (by simp only [List.length_cons, List.length_nil]; decide) ?_
    | (with_reducible refine And.intro ?_ ?_; · omega)
theorem f50 (a b : Int) : Fun Try.prog 73 [.s (.raw (.int .u16 a)), .s (.raw (.int .u16 b))] (.s (.raw (.int .i64 (cmpI a b)))) := by
  refine fun_of rfl fun X => ?_
  refine callK_inline (rs := [.tmp 4]) (n := 20) Try.func73 rfl rfl rfl (by kernel_rfl) (by kernel_rfl) (by simp only [List.length_cons, List.length_nil]; decide) ?_
  repeat' first
    | with_reducible rfl
    | simp only [*, cmp1, cmp2, cmp3, RS_, FB_, mapC, pushC, segR, ST_, seval, ne_eq, bne, forall_const, implies_true, TY_, WLS]
    | with_reducible refine g_eq (fun h => ?_) (fun h => ?_)
    | with_reducible refine gdb_split (fun h => ?_) (fun h => ?_)
    | (with_reducible refine drawK_id ?_); refine drawK_auto hmix (by kernel_rfl) ?_
    | (with_reducible refine draw_fin ?_ ?_); · kernel_rfl
    | (with_reducible refine draw_id ?_); kernel_rfl
    | (with_reducible refine callK_id (f := 76) ?_); refine callK_inline (rs := [.tmp 2]) (n := 6) Try.func76 rfl rfl rfl (by kernel_rfl) (by kernel_rfl) (by simp only [List.length_cons, List.length_nil]; decide) ?_
    | (with_reducible refine And.intro ?_ ?_; · omega)
def orI (a b c d : Int) : Int := if a == 0 then if b == 0 then if c == 0 then d else c else b else a
theorem f47 (a b c d : Int) : FunR Try.prog 70 [.rows false 1 [[.raw (.int .i64 a)], [.raw (.int .i64 b)], [.raw (.int .i64 c)], [.raw (.int .i64 d)]]] [.s (.slice 0 0 4)] (.s (.raw (.int .i64 (orI a b c d)))) := by
  refine funR_of rfl fun X => ?_
  refine callK_inline (rs := [.tmp 2]) (n := 18) Try.func70 rfl rfl rfl (by kernel_rfl) (by kernel_rfl) (by simp only [List.length_cons, List.length_nil]; decide) ?_
  repeat' first
    | with_reducible rfl
    | simp only [*, orI, e_loopN, RS_, FB_, mapC, pushC, segR, ST_, seval, ne_eq, bne, forall_const, implies_true, TY_, WLS]
    | with_reducible refine g_eq (fun h => ?_) (fun h => ?_)
    | with_reducible refine gdb_split (fun h => ?_) (fun h => ?_)
    | (with_reducible refine drawK_id ?_); refine drawK_auto hmix (by kernel_rfl) ?_
    | (with_reducible refine draw_fin ?_ ?_); · kernel_rfl
    | (with_reducible refine draw_id ?_); kernel_rfl
    | (with_reducible refine loopK_id ?_); refine loopK_n 6 (by kernel_rfl) ?_
    | (with_reducible refine And.intro ?_ ?_; · omega)
def betV (v w : V4) : Bool := decide (orI (cmpI v.r w.r) (cmpI v.c w.c) (cmpI v.b w.b) (cmpI v.p w.p) < 0)
theorem f15 (v w : V4) : Fun Try.prog 66 [.a (encV v), .a (encV w)] (.s (.raw (.bool (betV v w)))) := by
  refine fun_of rfl fun X => ?_
  refine callK_inline (rs := [.tmp 4]) (n := 28) Try.func66 rfl rfl rfl (by kernel_rfl) (by kernel_rfl) (by simp only [List.length_cons, List.length_nil]; decide) ?_
  repeat' first
    | with_reducible rfl
    | simp only [*, betV, encV, RS_, FB_, mapC, pushC, segR, ST_, seval, ne_eq, bne, forall_const, implies_true, TY_, WLS]
    | with_reducible refine g_eq (fun h => ?_) (fun h => ?_)
    | with_reducible refine gdb_split (fun h => ?_) (fun h => ?_)
    | (with_reducible refine drawK_id ?_); refine drawK_auto hmix (by kernel_rfl) ?_
    | (with_reducible refine draw_fin ?_ ?_); · kernel_rfl
    | (with_reducible refine draw_id ?_); kernel_rfl
    | (with_reducible refine callD_id (f := 71) ?_); refine callD_of (f48 _ _) rfl rfl ?_
    | (with_reducible refine callD_id (f := 72) ?_); refine callD_of (f49 _ _) rfl rfl ?_
    | (with_reducible refine callD_id (f := 73) ?_); refine callD_of (f50 _ _) rfl rfl ?_
    | (with_reducible refine callD_id (f := 70) ?_); refine callD_read [2] (f47 _ _ _ _) rfl rfl rfl ?_
    | (with_reducible refine And.intro ?_ ?_; · omega)
def plusI (a c : Int) : Int := IntKind.u32.wrap (if 4294967295 < IntKind.u64.wrap (IntKind.u64.wrap a + IntKind.u64.wrap c) then 4294967295 else IntKind.u64.wrap (IntKind.u64.wrap a + IntKind.u64.wrap c))
def plusV (v : V4) (c : Int) : V4 := ⟨v.r, plusI v.c c, v.b, v.p⟩
theorem f68 (v : V4) (c : Int) : Fun Try.prog 64 [.a (encV v), .s (.raw (.int .u32 c))] (.a (encV (plusV v c))) := by
  refine fun_of rfl fun X => ?_
  refine callK_inline (rs := [.cell 4 65]) (n := 15) Try.func64 rfl rfl rfl (by kernel_rfl) (by kernel_rfl) (by simp only [List.length_cons, List.length_nil]; decide) ?_
  repeat' first
    | with_reducible rfl
    | simp only [*, plusI, plusV, encV, RS_, FB_, mapC, pushC, segR, ST_, seval, ne_eq, bne, forall_const, implies_true, TY_, WLS]
    | with_reducible refine g_eq (fun h => ?_) (fun h => ?_)
    | with_reducible refine gdb_split (fun h => ?_) (fun h => ?_)
    | (with_reducible refine drawK_id ?_); refine drawK_auto hmix (by kernel_rfl) ?_
    | (with_reducible refine draw_fin ?_ ?_); · kernel_rfl
    | (with_reducible refine draw_id ?_); kernel_rfl
    | (with_reducible refine And.intro ?_ ?_; · omega)
theorem or_lt {a b c d : Int} : orI a b c d < 0 ↔ a < 0 ∨ a = 0 ∧ (b < 0 ∨ b = 0 ∧ (c < 0 ∨ c = 0 ∧ d < 0)) := by
  simp only [orI, beq_iff_eq]
  repeat' split
  all_goals omega
theorem cmp_lt {a b : Int} : cmpI a b < 0 ↔ a < b := by simp only [cmpI]; repeat' split <;> omega
theorem cmp_eq {a b : Int} : cmpI a b = 0 ↔ a = b := by simp only [cmpI]; repeat' split <;> omega
theorem bet_iff {v w : V4} : betV v w = true ↔ v.r < w.r ∨ v.r = w.r ∧ (v.c < w.c ∨ v.c = w.c ∧ (v.b < w.b ∨ v.b = w.b ∧ v.p < w.p)) := by
  simp only [betV, decide_eq_true_eq, or_lt, cmp_lt, cmp_eq]
end Go.Ev
