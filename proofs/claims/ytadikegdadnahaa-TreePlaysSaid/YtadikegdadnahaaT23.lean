/- A part of the proof: contracts of the functions that the statement reaches. -/
import Derived.Test.YtadikegdadnahaaT22
namespace Go.Ev
open Go.Proofs
set_option maxRecDepth 100000
set_option linter.unusedSimpArgs false
set_option linter.unusedVariables false
set_option maxHeartbeats 4000000
def I_eq (l : List PE) (m : Nat) (tm : TM) (H : Heap) : Prop := ∃ i : Nat, m = l.length - i ∧ i ≤ l.length ∧ get tm 0 = .s (.slice 0 0 l.length) ∧ get tm 1 = .s (.slice 1 0 l.length) ∧ get tm 11 = .s (.slice 0 0 l.length) ∧ get tm 12 = .s (.raw (.int .i64 l.length)) ∧ get tm 13 = .s (.raw (.int .i64 (i : Int))) ∧ H = [rP l, rP l]
theorem c_EqP (l : List PE) (hn : l.length ≤ 100) : FunR Try.prog 52 [rP l, rP l] [.s (.slice 0 0 l.length), .s (.slice 1 0 l.length)] (.s (.raw (.bool true))) := by
  refine funR_of rfl fun X => ?_
  refine callK_inline (rs := [.tmp 4]) (n := 26) Try.func52 rfl rfl rfl (by kernel_rfl) (by kernel_rfl) (by simp only [List.length_cons, List.length_nil]; decide) ?_
  repeat' first
    | with_reducible rfl
    | simp only [bne_self_eq_false, RS_, FB_, segR, ST_, seval, ne_eq, bne, forall_const, implies_true, TY_, WLS]
    | (with_reducible refine drawK_id ?_); refine drawK_auto hmix (by kernel_rfl) ?_
    | (with_reducible refine draw_fin ?_ ?_); · kernel_rfl
    | (with_reducible refine draw_id ?_); kernel_rfl
    | (with_reducible refine And.intro ?_ ?_; · omega)
  refine loopK_wk (by kernel_rfl) (I_eq l) l.length ⟨_, _, Wk.refl, 0, rfl, by omega, rfl, rfl, rfl, rfl, rfl, rfl⟩ ?_
  rintro m tm H ⟨i, rfl, hi, g0, g1, g11, g12, g13, rfl⟩
  by_cases hq : i < l.length
  · have q : decide ((i : Int) < (l.length : Int)) = true := decide_eq_true (by omega)
    have hb0 : (0 : Int) ≤ (i : Int) := by omega
    have hbN : (i : Int) < (l.length : Int) := by omega
    have hi1 : IntKind.i64.wrap ((i : Int) + 1) = ((i + 1 : Nat) : Int) := by rw [wr_i64 (by omega) (by omega)]; rfl
    obtain ⟨p, hp⟩ : ∃ p, (l)[i]? = some p := ⟨_, List.getElem?_eq_getElem (by omega)⟩
    have hpr : ((l).map encPE)[i]? = some (encPE p) := by rw [List.getElem?_map, hp]; rfl
    have hps := encPEs_get hp
    have hcP := rP_s
    repeat' first
      | with_reducible rfl
      | simp only [hcP, q, hb0, hbN, hi1, hps, encPE, g0, g1, g11, g12, g13, Int.toNat_natCast, RS_, FB_, segR, ST_, seval, ne_eq, bne, forall_const, implies_true, TY_, WLS]
      | (with_reducible refine drawK_id ?_); refine drawK_auto hmix (by kernel_rfl) ?_
      | (with_reducible refine draw_fin ?_ ?_); · kernel_rfl
      | (with_reducible refine draw_id ?_); kernel_rfl
      | (with_reducible refine And.intro ?_ ?_; · omega)
    refine ⟨l.length - (i + 1), _, _, by omega, Wk.gc [0, 1] rfl (by decide), i + 1, rfl, by omega, ?_, ?_, ?_, ?_, ?_, ?_⟩ <;> simp [Function.comp_def, get_gcT, get, put, gcI, pullI, push1, pushI, pullS, pushS, gcH, patL, canL, canH, canTL, canT, segR, ix, upd, up1, mapC_rows, mapC_gone, pushC_rows, pushC_gone, pullP, pullV, pullSS, pullD, pullT, pullF, pushP, pushV, pushSS, pushD, pushT, pushF, pullD16, pushD16, g0, g1, g11, g12, hi1, rP_s, encPEs_pull]
  · have q : decide ((i : Int) < (l.length : Int)) = false := decide_eq_false (by omega)
    repeat' first
      | with_reducible rfl
      | simp only [q, g0, g1, g11, g12, g13, RS_, FB_, segR, ST_, seval, ne_eq, bne, forall_const, implies_true, TY_, WLS]
      | (with_reducible refine drawK_id ?_); refine drawK_auto hmix (by kernel_rfl) ?_
      | (with_reducible refine draw_fin ?_ ?_); · kernel_rfl
      | (with_reducible refine draw_id ?_); kernel_rfl
      | (with_reducible refine And.intro ?_ ?_; · omega)
theorem c_EqV : FunR Try.prog 53 [rV [], rV []] [.s (.slice 0 0 0), .s (.slice 1 0 0)] (.s (.raw (.bool true))) := by
  refine funR_of rfl fun X => ?_
  refine callK_inline (rs := [.tmp 4]) (n := 26) Try.func53 rfl rfl rfl (by kernel_rfl) (by kernel_rfl) (by simp only [List.length_cons, List.length_nil]; decide) ?_
  repeat' first
    | with_reducible rfl
    | simp only [e_loopN, bne_self_eq_false, RS_, FB_, segR, ST_, seval, ne_eq, bne, forall_const, implies_true, TY_, WLS]
    | (with_reducible refine drawK_id ?_); refine drawK_auto hmix (by kernel_rfl) ?_
    | (with_reducible refine draw_fin ?_ ?_); · kernel_rfl
    | (with_reducible refine draw_id ?_); kernel_rfl
    | (with_reducible refine loopK_id ?_); refine loopK_n 2 (by kernel_rfl) ?_
    | (with_reducible refine And.intro ?_ ?_; · omega)
theorem c_EqS : FunR Try.prog 54 [rS [], rS []] [.s (.slice 0 0 0), .s (.slice 1 0 0)] (.s (.raw (.bool true))) := by
  refine funR_of rfl fun X => ?_
  refine callK_inline (rs := [.tmp 4]) (n := 26) Try.func54 rfl rfl rfl (by kernel_rfl) (by kernel_rfl) (by simp only [List.length_cons, List.length_nil]; decide) ?_
  repeat' first
    | with_reducible rfl
    | simp only [e_loopN, bne_self_eq_false, RS_, FB_, segR, ST_, seval, ne_eq, bne, forall_const, implies_true, TY_, WLS]
    | (with_reducible refine drawK_id ?_); refine drawK_auto hmix (by kernel_rfl) ?_
    | (with_reducible refine draw_fin ?_ ?_); · kernel_rfl
    | (with_reducible refine draw_id ?_); kernel_rfl
    | (with_reducible refine loopK_id ?_); refine loopK_n 2 (by kernel_rfl) ?_
    | (with_reducible refine And.intro ?_ ?_; · omega)
theorem c_EqD : FunR Try.prog 55 [rD [], rD []] [.s (.slice 0 0 0), .s (.slice 1 0 0)] (.s (.raw (.bool true))) := by
  refine funR_of rfl fun X => ?_
  refine callK_inline (rs := [.tmp 4]) (n := 26) Try.func55 rfl rfl rfl (by kernel_rfl) (by kernel_rfl) (by simp only [List.length_cons, List.length_nil]; decide) ?_
  repeat' first
    | with_reducible rfl
    | simp only [e_loopN, bne_self_eq_false, RS_, FB_, segR, ST_, seval, ne_eq, bne, forall_const, implies_true, TY_, WLS]
    | (with_reducible refine drawK_id ?_); refine drawK_auto hmix (by kernel_rfl) ?_
    | (with_reducible refine draw_fin ?_ ?_); · kernel_rfl
    | (with_reducible refine draw_id ?_); kernel_rfl
    | (with_reducible refine loopK_id ?_); refine loopK_n 2 (by kernel_rfl) ?_
    | (with_reducible refine And.intro ?_ ?_; · omega)
/-- No list but the ports. -/
structure Bare (a : AS) : Prop where
  vs : a.vs = []
  ss : a.ss = []
  ds : a.ds = []
theorem c_Same (a : AS) (hn : a.ps.length ≤ 100) (hb : Bare a) : FunR Try.prog 24 [rP a.ps, rV a.vs, rS a.ss, rD a.ds, rP a.ps, rV a.vs, rS a.ss, rD a.ds] [.a (rowS 0 1 2 3 a), .a (rowS 4 5 6 7 a)] (.s (.raw (.bool true))) := by
  refine funR_of rfl fun X => ?_
  refine callK_inline (rs := [.tmp 4]) (n := 54) Try.func24 rfl rfl rfl (by kernel_rfl) (by kernel_rfl) (by simp only [List.length_cons, List.length_nil]; decide) ?_
  have h1 := c_EqP a.ps hn
  have h2 := c_EqV
  have h3 := c_EqS
  have h4 := c_EqD
  have v0 := hb.vs
  have s0 := hb.ss
  have d0 := hb.ds
  repeat' first
    | with_reducible rfl
    | simp only [rowS, v0, s0, d0, List.length_nil, RS_, FB_, segR, ST_, seval, ne_eq, bne, forall_const, implies_true, TY_, WLS]
    | (with_reducible refine drawK_id ?_); refine drawK_auto hmix (by kernel_rfl) ?_
    | (with_reducible refine draw_fin ?_ ?_); · kernel_rfl
    | (with_reducible refine draw_id ?_); kernel_rfl
    | ((with_reducible refine callK_id (f := 52) ?_); refine callK_funR [0, 4] (r := .s (.raw (.bool true))) (by simpa [pullH, roC_rP, roC_rV, roC_rS, roC_rD, pullI, pullS, ix, v0, s0, d0] using h1) rfl ?_)
    | ((with_reducible refine callK_id (f := 53) ?_); refine callK_funR [1, 5] (r := .s (.raw (.bool true))) (by simpa [pullH, roC_rP, roC_rV, roC_rS, roC_rD, pullI, pullS, ix, v0, s0, d0] using h2) rfl ?_)
    | ((with_reducible refine callK_id (f := 54) ?_); refine callK_funR [2, 6] (r := .s (.raw (.bool true))) (by simpa [pullH, roC_rP, roC_rV, roC_rS, roC_rD, pullI, pullS, ix, v0, s0, d0] using h3) rfl ?_)
    | ((with_reducible refine callK_id (f := 55) ?_); refine callK_funR [3, 7] (r := .s (.raw (.bool true))) (by simpa [pullH, roC_rP, roC_rV, roC_rS, roC_rD, pullI, pullS, ix, v0, s0, d0] using h4) rfl ?_)
    | (with_reducible refine And.intro ?_ ?_; · omega)
end Go.Ev
