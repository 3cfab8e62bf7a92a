/- A part of the proof: contracts of the functions that the statement reaches. -/
import Derived.Test.YtadikegdadnahaaT1
namespace Go.Ev
open Go.Proofs
set_option maxRecDepth 100000
set_option linter.unusedSimpArgs false
set_option linter.unusedVariables false
set_option maxHeartbeats 4000000
theorem c_Better' {v0 v1 v2 v3 : Int} {w0 w1 w2 w3 : Int} : Fun Try.prog 66 [.a [.raw (.int .u64 v0), .raw (.int .u32 v1), .raw (.int .u64 v2), .raw (.int .u16 v3)], .a [.raw (.int .u64 w0), .raw (.int .u32 w1), .raw (.int .u64 w2), .raw (.int .u16 w3)]] (.s (.raw (.bool (betV ⟨v0, v1, v2, v3⟩ ⟨w0, w1, w2, w3⟩)))) := f15 ⟨v0, v1, v2, v3⟩ ⟨w0, w1, w2, w3⟩
theorem c_Switch (p : PE) (u : Bool) (d : Bool) (c : CF) : Fun Try.prog 26 [.a (encPE p), .s (.raw (.bool u)), .s (.raw (.bool d)), .a (encCF c)] (.a (encPE (switchP p u d c))) := by
  refine fun_of rfl fun X => ?_
  refine callK_inline (rs := [.cell 8 67]) (n := 37) Try.func26 rfl rfl rfl (by kernel_rfl) (by kernel_rfl) (by simp only [List.length_cons, List.length_nil]; decide) ?_
  repeat' first
    | with_reducible rfl
    | simp only [*, switchP, offP, forgetP, onP, encPE, encCF, RS_, FB_, mapC, pushC, segR, ST_, seval, ne_eq, bne, forall_const, implies_true, TY_, WLS]
    | with_reducible refine g_eq (fun h => ?_) (fun h => ?_)
    | with_reducible refine gdb_split (fun h => ?_) (fun h => ?_)
    | (with_reducible refine drawK_id ?_); refine drawK_auto hmix (by kernel_rfl) ?_
    | (with_reducible refine draw_fin ?_ ?_); · kernel_rfl
    | (with_reducible refine draw_id ?_); kernel_rfl
    | (with_reducible refine callD_id (f := 14) ?_); refine callD_of (c_On') rfl rfl ?_
    | (with_reducible refine callK_id (f := 14) ?_); refine callK_fun (c_On') rfl rfl ?_
    | (with_reducible refine callK_id (f := 56) ?_); refine callK_fun (c_forget') rfl rfl ?_
    | (with_reducible refine And.intro ?_ ?_; · omega)
theorem eq_v4' (a b c d a' b' c' d' : Int) : (a == a' && (b == b' && (c == c' && d == d'))) = decide ((⟨a, b, c, d⟩ : V4) = ⟨a', b', c', d'⟩) := eq_v4 ⟨a, b, c, d⟩ ⟨a', b', c', d'⟩
theorem eq_v5 (v w : V4) : (v.r == w.r && (v.c == w.c && (v.b == w.b && v.p == w.p))) = decide (v = w) := eq_v4 v w
theorem c_Agree (p : PE) : Fun Try.prog 49 [.a (encPE p)] (.t [.a (encPE (agreeP p)), .s (.raw (.bool (agreeO p)))]) := by
  refine fun_of rfl fun X => ?_
  refine callK_inline (rs := [.cell 2 67, .tmp 3]) (n := 17) Try.func49 rfl rfl rfl (by kernel_rfl) (by kernel_rfl) (by simp only [List.length_cons, List.length_nil]; decide) ?_
  repeat' first
    | with_reducible rfl
    | simp only [*, agreeP, agreeO, openedP, encPE, RS_, FB_, mapC, pushC, segR, ST_, seval, ne_eq, bne, forall_const, implies_true, TY_, WLS]
    | with_reducible refine g_eq (fun h => ?_) (fun h => ?_)
    | with_reducible refine gdb_split (fun h => ?_) (fun h => ?_)
    | (with_reducible refine drawK_id ?_); refine drawK_auto hmix (by kernel_rfl) ?_
    | (with_reducible refine draw_fin ?_ ?_); · kernel_rfl
    | (with_reducible refine draw_id ?_); kernel_rfl
    | (with_reducible refine callD_id (f := 61) ?_); refine callD_of (c_opened') rfl rfl ?_
    | (with_reducible refine And.intro ?_ ?_; · omega)
theorem c_Block (p : PE) (c : CF) : Fun Try.prog 51 [.a (encPE p), .a (encCF c)] (.a (encPE (blockP p c))) := by
  refine fun_of rfl fun X => ?_
  refine callK_inline (rs := [.cell 4 67]) (n := 28) Try.func51 rfl rfl rfl (by kernel_rfl) (by kernel_rfl) (by simp only [List.length_cons, List.length_nil]; decide) ?_
  repeat' first
    | with_reducible rfl
    | simp only [*, blockP, edgeP, encPE, encCF, RS_, FB_, mapC, pushC, segR, ST_, seval, ne_eq, bne, forall_const, implies_true, TY_, WLS]
    | with_reducible refine g_eq (fun h => ?_) (fun h => ?_)
    | with_reducible refine gdb_split (fun h => ?_) (fun h => ?_)
    | (with_reducible refine drawK_id ?_); refine drawK_auto hmix (by kernel_rfl) ?_
    | (with_reducible refine draw_fin ?_ ?_); · kernel_rfl
    | (with_reducible refine draw_id ?_); kernel_rfl
    | (with_reducible refine callK_id (f := 59) ?_); refine callK_fun (c_Edge') rfl rfl ?_
    | (with_reducible refine And.intro ?_ ?_; · omega)
theorem c_Step (p : PE) (c : CF) : Fun Try.prog 33 [.a (encPE p), .a (encCF c)] (.t [.a (encPE (stepP p c)), .s (.raw (.bool (stepO p c)))]) := by
  refine fun_of rfl fun X => ?_
  refine callK_inline (rs := [.cell 4 67, .tmp 5]) (n := 39) Try.func33 rfl rfl rfl (by kernel_rfl) (by kernel_rfl) (by simp only [List.length_cons, List.length_nil]; decide) ?_
  repeat' first
    | with_reducible rfl
    | simp only [*, stepP, stepO, openedP, encPE, encCF, RS_, FB_, mapC, pushC, segR, ST_, seval, ne_eq, bne, forall_const, implies_true, TY_, WLS]
    | with_reducible refine g_eq (fun h => ?_) (fun h => ?_)
    | with_reducible refine gdb_split (fun h => ?_) (fun h => ?_)
    | (with_reducible refine drawK_id ?_); refine drawK_auto hmix (by kernel_rfl) ?_
    | (with_reducible refine draw_fin ?_ ?_); · kernel_rfl
    | (with_reducible refine draw_id ?_); kernel_rfl
    | (with_reducible refine callD_id (f := 61) ?_); refine callD_of (c_opened') rfl rfl ?_
    | (with_reducible refine And.intro ?_ ?_; · omega)
theorem c_desig (p : PE) (w : Int) (v : V4) (c : CF) : Fun Try.prog 68 [.a (encPE p), .s (.raw (.int .i64 w)), .a (encV v), .a (encCF c)] (.t [.a (encPE (desP p w v c)), .s (.raw (.bool (desA p w v)))]) := by
  refine fun_of rfl fun X => ?_
  refine callK_inline (rs := [.cell 8 67, .tmp 9]) (n := 43) Try.func68 rfl rfl rfl (by kernel_rfl) (by kernel_rfl) (by simp only [List.length_cons, List.length_nil]; decide) ?_
  repeat' first
    | with_reducible rfl
    | simp only [*, desP, des1, des2, des3, desA, edgeP, encPE, encCF, encV, eq_v5, eq_v4', RS_, FB_, mapC, pushC, segR, ST_, seval, ne_eq, bne, forall_const, implies_true, TY_, WLS]
    | with_reducible refine g_eq (fun h => ?_) (fun h => ?_)
    | with_reducible refine gdb_split (fun h => ?_) (fun h => ?_)
    | (with_reducible refine drawK_id ?_); refine drawK_auto hmix (by kernel_rfl) ?_
    | (with_reducible refine draw_fin ?_ ?_); · kernel_rfl
    | (with_reducible refine draw_id ?_); kernel_rfl
    | (with_reducible refine callK_id (f := 59) ?_); refine callK_fun (c_Edge') rfl rfl ?_
    | (with_reducible refine And.intro ?_ ?_; · omega)
theorem c_desig' {p_0 p_1 p_3 p_4 p_10 p_11 p_12 p_13 p_14 p_15 p_16 p_17 p_18 p_19 p_20 : Int} {p_2 p_5 p_6 p_7 p_8 p_9 : Bool} {w : Int} {v_0 v_1 v_2 v_3 : Int} {c_0 c_1 c_2 c_3 c_4 c_5 : Int} : Fun Try.prog 68 [.a [.raw (.int .u16 p_0), .raw (.int .i64 p_1), .raw (.bool p_2), .raw (.int .u32 p_3), .raw (.int .i64 p_4), .raw (.bool p_5), .raw (.bool p_6), .raw (.bool p_7), .raw (.bool p_8), .raw (.bool p_9), .raw (.int .i64 p_10), .raw (.int .i64 p_11), .raw (.int .i64 p_12), .raw (.int .u64 p_13), .raw (.int .u32 p_14), .raw (.int .u64 p_15), .raw (.int .u16 p_16), .raw (.int .i64 p_17), .raw (.int .i64 p_18), .raw (.int .i64 p_19), .raw (.int .i64 p_20)], .s (.raw (.int .i64 w)), .a [.raw (.int .u64 v_0), .raw (.int .u32 v_1), .raw (.int .u64 v_2), .raw (.int .u16 v_3)], .a [.raw (.int .u64 c_0), .raw (.int .i64 c_1), .raw (.int .i64 c_2), .raw (.int .i64 c_3), .raw (.int .i64 c_4), .raw (.int .i64 c_5)]] (.t [.a (encPE (desP ⟨p_0, p_1, p_2, p_3, p_4, p_5, p_6, p_7, p_8, p_9, p_10, p_11, p_12, ⟨p_13, p_14, p_15, p_16⟩, p_17, p_18, p_19, p_20⟩ w ⟨v_0, v_1, v_2, v_3⟩ ⟨c_0, c_1, c_2, c_3, c_4, c_5⟩)), .s (.raw (.bool (desA ⟨p_0, p_1, p_2, p_3, p_4, p_5, p_6, p_7, p_8, p_9, p_10, p_11, p_12, ⟨p_13, p_14, p_15, p_16⟩, p_17, p_18, p_19, p_20⟩ w ⟨v_0, v_1, v_2, v_3⟩)))]) := c_desig ⟨p_0, p_1, p_2, p_3, p_4, p_5, p_6, p_7, p_8, p_9, p_10, p_11, p_12, ⟨p_13, p_14, p_15, p_16⟩, p_17, p_18, p_19, p_20⟩ w ⟨v_0, v_1, v_2, v_3⟩ ⟨c_0, c_1, c_2, c_3, c_4, c_5⟩
end Go.Ev
