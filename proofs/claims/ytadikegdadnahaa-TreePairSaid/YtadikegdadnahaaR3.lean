/- A part of the proof: contracts of the functions that the statement reaches. -/
import Derived.Test.YtadikegdadnahaaR2
namespace Go.Ev
open Go.Proofs
set_option maxRecDepth 100000
set_option linter.unusedSimpArgs false
set_option linter.unusedVariables false
set_option maxHeartbeats 4000000
def roleI (self port number : Int) (p : PT) (t : V4) : Int := if !p.on then 0 else if number == port then 3 else if (!p.heard || !betV p.v t) then 4 else if p.v.b == self then 2 else 1
theorem f42R (r c port self number : Int) (p : PT) (t : V4) : FunR Try.prog 38 [] [.a [.raw (.int .u64 r), .raw (.int .u32 c), .raw (.int .i64 port), .junk, .junk], .s (.raw (.int .u64 self)), .s (.raw (.int .i64 number)), .a (encP p), .a (encV t)] (.s (.raw (.int .i64 (roleI self port number p t)))) := by
  refine funR_of (rfl) fun X => ?_
  refine callK_inline (rs := [.tmp 10]) (n := 37) Try.func38 rfl rfl rfl (by kernel_rfl) (by kernel_rfl) (by simp only [List.length_cons, List.length_nil]; decide) ?_
  repeat' first
    | with_reducible rfl
    | simp only [*, encP, encV, roleI, RS_, FB_, mapC, pushC, segR, ST_, seval, ne_eq, bne, forall_const, implies_true, TY_, WLS]
    | with_reducible refine g_eq (fun h => ?_) (fun h => ?_)
    | with_reducible refine gdb_split (fun h => ?_) (fun h => ?_)
    | (with_reducible refine drawK_id ?_); refine drawK_auto hmix (by kernel_rfl) ?_
    | (with_reducible refine draw_fin ?_ ?_); · kernel_rfl
    | (with_reducible refine draw_id ?_); kernel_rfl
    | (with_reducible refine callK_id (f := 66) ?_); refine callK_fun (f15 p.v t) rfl rfl ?_
    | (with_reducible refine And.intro ?_ ?_; · omega)
theorem wv_r (p : PT) : (wayV p).r = p.v.r := rfl
theorem wv_c (p : PT) : (wayV p).c = plusI p.v.c p.cost := rfl
theorem wv_b (p : PT) : (wayV p).b = p.v.b := rfl
theorem wv_p (p : PT) : (wayV p).p = p.v.p := rfl
def I41 (self : Int) (ps : List PT) (m : Nat) (tm : TM) (H : Heap) : Prop := ∃ i : Nat, m = ps.length - i ∧ i ≤ ps.length ∧ get tm 0 = .s (.raw (.int .u64 self)) ∧ get tm 9 = .s (.slice 0 0 ps.length) ∧ get tm 10 = .s (.raw (.int .i64 ps.length)) ∧ get tm 11 = .s (.raw (.int .i64 i)) ∧ get tm 4 = .s (.ptr 1 0 0) ∧ get tm 5 = .s (.ptr 2 0 0) ∧
  H = [.rows false 8 (ps.map encP), .rows true 6 [encW ⟨⟨0, 0, 0, 0⟩, 0, 0⟩], .rows true 6 [encW (bestW self ps i)]]
theorem f41 (self : Int) (ps : List PT) (hn : ps.length ≤ 1000) : FunR Try.prog 37 [.rows false 8 (ps.map encP)] [.s (.raw (.int .u64 self)), .s (.slice 0 0 ps.length)] (.a (encW (bestW self ps ps.length))) := by
  refine funR_of rfl fun X => ?_
  refine callK_inline (rs := [.cell 4 110]) (n := 52) Try.func37 rfl rfl rfl (by kernel_rfl) (by kernel_rfl) (by simp only [List.length_cons, List.length_nil]; decide) ?_
  repeat' first
    | with_reducible rfl
    | simp only [List.length_map, RS_, FB_, mapC, pushC, segR, ST_, seval, ne_eq, bne, forall_const, implies_true, TY_, WLS]
    | with_reducible refine gdb_split (fun h => ?_) (fun h => ?_)
    | (with_reducible refine drawK_id ?_); refine drawK_auto hmix (by kernel_rfl) ?_
    | (with_reducible refine draw_fin ?_ ?_); · kernel_rfl
    | (with_reducible refine draw_id ?_); kernel_rfl
    | (with_reducible refine And.intro ?_ ?_; · omega)
  refine loopK_wk (by kernel_rfl) (I41 self ps) ps.length ⟨_, _, Wk.refl, 0, rfl, by omega, rfl, rfl, rfl, rfl, rfl, rfl, rfl⟩ ?_
  rintro m tm H ⟨i, rfl, hi, g0, g9, g10, g11, g4, g5, rfl⟩
  have hi1 : IntKind.i64.wrap ((i : Int) + 1) = (i : Int) + 1 := wr_i64 (by omega) (by omega)
  by_cases hq : i < ps.length
  · have q : decide ((i : Int) < (ps.length : Int)) = true := decide_eq_true (by omega)
    have hb0 : (0 : Int) ≤ (i : Int) := by omega
    have hbN : (i : Int) < (ps.length : Int) := by omega
    obtain ⟨p, hp⟩ : ∃ p, ps[i]? = some p := ⟨ps[i], by simp [hq]⟩
    have hpr : (ps.map encP)[i]? = some (encP p) := by rw [List.getElem?_map, hp]; rfl
    have hs : bestW self ps (i + 1) = stepW self (bestW self ps i) i p := by simp only [bestW, hp]
    generalize hb : bestW self ps i = b at hs ⊢
    repeat' first
      | with_reducible rfl
      | simp only [q, hb0, hbN, hpr, hi1, encW, encP, encV, plusV, Int.toNat_natCast, g0, g9, g10, g11, g4, g5, *, RS_, FB_, mapC, pushC, segR, ST_, seval, ne_eq, bne, forall_const, implies_true, TY_, WLS]
      | with_reducible refine g_eqn (fun h => ?_) (fun h => ?_)
      | with_reducible refine gdb_split (fun h => ?_) (fun h => ?_)
      | (with_reducible refine drawK_id ?_); refine drawK_auto hmix (by kernel_rfl) ?_
      | (with_reducible refine draw_fin ?_ ?_); · kernel_rfl
      | (with_reducible refine draw_id ?_); kernel_rfl
      | (with_reducible refine callD_id (f := 64) ?_); refine callD_of (f68 p.v p.cost) rfl rfl ?_
      | (with_reducible refine callK_id (f := 65) ?_); refine callK_fun (f69 ⟨wayV p, (i : Int) + 1, p.id⟩ b) rfl rfl ?_
      | (refine ⟨ps.length - (i + 1), _, _, by omega, Wk.can [] [.inl 0, .inl 1, .inl 2] rfl (by simp [patL]), i + 1, rfl, by omega, ?_, ?_, ?_, ?_, ?_, ?_, ?_⟩ <;> first | with_reducible rfl | (simp [Function.comp_def, get_gcT, get, gcI, pullI, pullS, gcH, patL, canL, canH, canTL, canT, segR, mapC, ix, pull_P, pull_V, pull_A, g0, g9, g10, g11, g4, g5]; done) | (simp [Function.comp_def, get_gcT, get, gcI, pullI, pullS, gcH, patL, canL, canH, canTL, canT, segR, mapC, ix, pull_P, pull_V, pull_A, hs, stepW, isWay, encW, wv_r, wv_c, wv_b, wv_p, *]; done))
      | (with_reducible refine And.intro ?_ ?_; · omega)
  · have q : decide ((i : Int) < (ps.length : Int)) = false := decide_eq_false (by omega)
    have hin : i = ps.length := by omega
    subst hin
    repeat' first
      | with_reducible rfl
      | simp only [q, encW, g0, g9, g10, g11, g4, g5, RS_, FB_, mapC, pushC, segR, ST_, seval, ne_eq, bne, forall_const, implies_true, TY_, WLS]
      | with_reducible refine gdb_split (fun h => ?_) (fun h => ?_)
      | (with_reducible refine drawK_id ?_); refine drawK_auto hmix (by kernel_rfl) ?_
      | (with_reducible refine draw_fin ?_ ?_); · kernel_rfl
      | (with_reducible refine draw_id ?_); kernel_rfl
      | (with_reducible refine And.intro ?_ ?_; · omega)
end Go.Ev
