/- A part of the proof: contracts of the functions that the statement reaches. -/
import Derived.Test.YtadikegdadnahaaT2
namespace Go.Ev
open Go.Proofs
set_option maxRecDepth 100000
set_option linter.unusedSimpArgs false
set_option linter.unusedVariables false
set_option maxHeartbeats 4000000
theorem c_Assume (p : PE) (r : Int) (v : V4) (c : CF) : Fun Try.prog 57 [.a (encPE p), .s (.raw (.int .i64 r)), .a (encV v), .a (encCF c)] (.t [.a (encPE (asP p r v c)), .s (.raw (.bool (asA p r v))), .s (.raw (.bool (asO p r v c)))]) := by
  refine fun_of rfl fun X => ?_
  refine callK_inline (rs := [.cell 8 67, .tmp 9, .tmp 10]) (n := 47) Try.func57 rfl rfl rfl (by kernel_rfl) (by kernel_rfl) (by simp only [List.length_cons, List.length_nil]; decide) ?_
  repeat' first
    | with_reducible rfl
    | simp only [*, asP, asA, asO, openedP, encPE, encCF, encV, Bool.or_true, Bool.or_false, Bool.true_or, Bool.false_or, RS_, FB_, mapC, pushC, segR, ST_, seval, ne_eq, bne, forall_const, implies_true, TY_, WLS]
    | with_reducible refine g_eq (fun h => ?_) (fun h => ?_)
    | with_reducible refine gdb_split (fun h => ?_) (fun h => ?_)
    | (with_reducible refine drawK_id ?_); refine drawK_auto hmix (by kernel_rfl) ?_
    | (with_reducible refine draw_fin ?_ ?_); · kernel_rfl
    | (with_reducible refine draw_id ?_); kernel_rfl
    | (with_reducible refine callD_id (f := 61) ?_); refine callD_of (c_opened') rfl rfl ?_
    | (with_reducible refine callK_id (f := 68) ?_); refine callK_fun (c_desig') rfl rfl ?_
    | (with_reducible refine And.intro ?_ ?_; · omega)
theorem c_Hear (p : PE) (v : V4) (n : Int) (c : CF) : Fun Try.prog 50 [.a (encPE p), .a (encV v), .s (.raw (.int .i64 n)), .a (encCF c)] (.t [.a (encPE (hearP p v n c)), .s (.raw (.int .i64 (hearW p v n c)))]) := by
  refine fun_of rfl fun X => ?_
  refine callK_inline (rs := [.cell 8 67, .tmp 9]) (n := 64) Try.func50 rfl rfl rfl (by kernel_rfl) (by kernel_rfl) (by simp only [List.length_cons, List.length_nil]; decide) ?_
  repeat' first
    | with_reducible rfl
    | simp only [*, hearP, hearW, encPE, encCF, encV, eq_v5, eq_v4', RS_, FB_, mapC, pushC, segR, ST_, seval, ne_eq, bne, forall_const, implies_true, TY_, WLS]
    | with_reducible refine g_eq (fun h => ?_) (fun h => ?_)
    | with_reducible refine gdb_split (fun h => ?_) (fun h => ?_)
    | (with_reducible refine drawK_id ?_); refine drawK_auto hmix (by kernel_rfl) ?_
    | (with_reducible refine draw_fin ?_ ?_); · kernel_rfl
    | (with_reducible refine draw_id ?_); kernel_rfl
    | (with_reducible refine callK_id (f := 14) ?_); refine callK_fun (c_On') rfl rfl ?_
    | (with_reducible refine callK_id (f := 67) ?_); refine callK_fun (c_anew') rfl rfl ?_
    | (with_reducible refine callK_id (f := 66) ?_); refine callK_fun (c_Better') rfl rfl ?_
    | (with_reducible refine And.intro ?_ ?_; · omega)
end Go.Ev
