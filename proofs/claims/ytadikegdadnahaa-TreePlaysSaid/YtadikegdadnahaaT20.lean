/- A part of the proof: contracts of the functions that the statement reaches. -/
import Derived.Test.YtadikegdadnahaaT19
namespace Go.Ev
open Go.Proofs
set_option maxRecDepth 100000
set_option linter.unusedSimpArgs false
set_option linter.unusedVariables false
set_option maxHeartbeats 4000000
theorem nn_switch (p : PE) (u d : Bool) (c : CF) (h : 0 ≤ p.st) : 0 ≤ (switchP p u d c).st := by
  unfold switchP offP
  repeat' split
  all_goals first | exact h | simp
theorem nn_startI (b : AS) (i : Nat) (p : PE) (hp : b.ps[i]? = some p) (h : NnA b) : NnA (startI b i p) := nn_setA h (nn_switch _ _ _ _ (nn_switch _ _ _ _ (h.at hp)))
theorem nn_start {a : AS} (h : NnA a) : NnA (startA a) := nn_choose (nn_itA nn_startI (a := zeroB a) h _)
theorem nn_flush {b : AS} {x : Int} {o : Bool} (h : NnA b) : NnA (flushA b x o) := by unfold flushA; split <;> exact h
def I_ts (a : AS) (m : Nat) (tm : TM) (H : Heap) : Prop := ∃ i : Nat, m = a.ps.length - i ∧ i ≤ a.ps.length ∧ get tm 0 = .s (.ptr 0 0 0) ∧ get tm 2 = .s (.raw (.int .i64 (i : Int))) ∧ H = AH (itA startI (zeroB a) i)
theorem c_tstart (a : AS) (hn : a.ps.length ≤ 16) (hN : NnA a) (hb : szA a ≤ 600000) : FunW Try.prog 19 [] (AH a) [.s (.ptr 0 0 0)] fun r Hn => r = .t [] ∧ Hn = AH2 (startA a) := by
  refine funW_of fun X => ?_
  refine callK_inline (rs := []) (n := 54) Try.func19 rfl rfl rfl (by kernel_rfl) (by kernel_rfl) (by simp only [List.length_cons, List.length_nil]; decide) ?_
  unfold AH
  repeat' first
    | with_reducible rfl
    | simp only [rowA, RS_, FB_, segR, ST_, seval, ne_eq, bne, forall_const, implies_true, TY_, WLS]
    | (with_reducible refine drawK_id ?_); refine drawK_auto hmix (by kernel_rfl) ?_
    | (with_reducible refine draw_fin ?_ ?_); · kernel_rfl
    | (with_reducible refine draw_id ?_); kernel_rfl
    | (with_reducible refine And.intro ?_ ?_; · omega)
  refine loopK_wk (by kernel_rfl) (I_ts a) a.ps.length ⟨_, _, Wk.gc [0, 1, 2, 3, 4, 5, 6] rfl (by decide), 0, by omega, by omega, ?_, ?_, ?_⟩ ?_
  · simp [Function.comp_def, get_gcT, get, put, gcI, pullI, push1, pushI, pullS, pushS, gcH, patL, canL, canH, canTL, canT, segR, ix, upd, up1, mapC_rows, mapC_gone, pushC_rows, pushC_gone, pullP, pullV, pullSS, pullD, pullT, pullF, pushP, pushV, pushSS, pushD, pushT, pushF, pullD16, pushD16, AH, rowA, cT, cF, pull_I, push_I, cP_s, encPEs_pull, itA, zeroB]
  · simp [Function.comp_def, get_gcT, get, put, gcI, pullI, push1, pushI, pullS, pushS, gcH, patL, canL, canH, canTL, canT, segR, ix, upd, up1, mapC_rows, mapC_gone, pushC_rows, pushC_gone, pullP, pullV, pullSS, pullD, pullT, pullF, pushP, pushV, pushSS, pushD, pushT, pushF, pullD16, pushD16, AH, rowA, cT, cF, pull_I, push_I, cP_s, encPEs_pull, itA, zeroB]
  · simp [Function.comp_def, get_gcT, get, put, gcI, pullI, push1, pushI, pullS, pushS, gcH, patL, canL, canH, canTL, canT, segR, ix, upd, up1, mapC_rows, mapC_gone, pushC_rows, pushC_gone, pullP, pullV, pullSS, pullD, pullT, pullF, pushP, pushV, pushSS, pushD, pushT, pushF, pullD16, pushD16, AH, rowA, cT, cF, pull_I, push_I, cP_s, encPEs_pull, itA, zeroB]
  rintro m tm H ⟨i, rfl, hi, g0, g2, rfl⟩
  have fr := itA_fr startI_fr (zeroB a) i
  have hl0 : (zeroB a).ps.length = a.ps.length := rfl
  have hs0 : szA (zeroB a) = szA a := rfl
  by_cases hq : i < a.ps.length
  · have q : decide ((i : Int) < (a.ps.length : Int)) = true := decide_eq_true (by omega)
    have hb0 : (0 : Int) ≤ (i : Int) := by omega
    have hbN : (i : Int) < (a.ps.length : Int) := by omega
    have hi1 : IntKind.i64.wrap ((i : Int) + 1) = ((i + 1 : Nat) : Int) := by rw [wr_i64 (by omega) (by omega)]; rfl
    obtain ⟨p, hp⟩ : ∃ p, ((itA startI (zeroB a) i).ps)[i]? = some p := ⟨_, List.getElem?_eq_getElem (by rw [fr.len]; omega)⟩
    have hpr : (((itA startI (zeroB a) i).ps).map encPE)[i]? = some (encPE p) := by rw [List.getElem?_map, hp]; rfl
    have hnx := itA_next hp
    have hbl := fr.len
    rw [hl0] at hbl
    clear fr
    generalize itA startI (zeroB a) i = b at *
    have hbN' : (i : Int) < (b.ps.length : Int) := by omega
    have hps := encPEs_get hp
    have hcP := cP_s
    have s1 := c_Switch p false p.ad b.cf
    obtain ⟨q1, hq1⟩ : ∃ x, switchP p false p.ad b.cf = x := ⟨_, rfl⟩
    rw [hq1] at s1
    have s2 := c_Switch q1 p.up p.ad b.cf
    obtain ⟨q2, hq2⟩ : ∃ x, switchP q1 p.up p.ad b.cf = x := ⟨_, rfl⟩
    rw [hq2] at s2
    unfold AH
    repeat' first
      | with_reducible rfl
      | simp only [rowA, hcP, encPEs_len, q, hb0, hbN, hbN', hbl, hi1, hps, encPE, g0, g2, Int.toNat_natCast, RS_, FB_, segR, ST_, seval, ne_eq, bne, forall_const, implies_true, TY_, WLS]
      | (with_reducible refine drawK_id ?_); refine drawK_auto hmix (by kernel_rfl) ?_
      | (with_reducible refine draw_fin ?_ ?_); · kernel_rfl
      | (with_reducible refine draw_id ?_); kernel_rfl
      | ((with_reducible refine callD_id (f := 26) (args := [_, .s (.raw (.bool false)), _, _]) ?_); refine callD_of s1 rfl rfl ?_)
      | ((with_reducible refine callD_id (f := 26) ?_); refine callD_of s2 rfl rfl ?_)
      | (with_reducible refine And.intro ?_ ?_; · omega)
    refine ⟨a.ps.length - (i + 1), _, _, by omega, Wk.gc [0, 1, 2, 3, 4, 5, 6] rfl (by decide), i + 1, rfl, by omega, ?_, ?_, ?_⟩ <;> first | (simp [Function.comp_def, get_gcT, get, put, gcI, pullI, push1, pushI, pullS, pushS, gcH, patL, canL, canH, canTL, canT, segR, ix, upd, up1, mapC_rows, mapC_gone, pushC_rows, pushC_gone, pullP, pullV, pullSS, pullD, pullT, pullF, pushP, pushV, pushSS, pushD, pushT, pushF, pullD16, pushD16, AH, rowA, cT, cF, pull_I, push_I, cP_s, encPEs_pull, g0, g2, hi1]; done) | (rw [hnx]; simp [Function.comp_def, get_gcT, get, put, gcI, pullI, push1, pushI, pullS, pushS, gcH, patL, canL, canH, canTL, canT, segR, ix, upd, up1, mapC_rows, mapC_gone, pushC_rows, pushC_gone, pullP, pullV, pullSS, pullD, pullT, pullF, pushP, pushV, pushSS, pushD, pushT, pushF, pullD16, pushD16, AH, rowA, cT, cF, pull_I, push_I, cP_s, encPEs_pull, setPEs, startI, setA, hq1, hq2, hbl])
  · have q : decide ((i : Int) < (a.ps.length : Int)) = false := decide_eq_false (by omega)
    have hin : i = a.ps.length := by omega
    subst hin
    have hbl := fr.len
    have hbs := fr.sz
    rw [hl0] at hbl
    rw [hs0] at hbs
    have hNb : NnA (itA startI (zeroB a) a.ps.length) := nn_itA nn_startI (a := zeroB a) hN _
    have hmod : startA a = chooseA (itA startI (zeroB a) a.ps.length) := rfl
    rw [hmod]
    clear hmod fr
    generalize itA startI (zeroB a) a.ps.length = b at *
    have cc := c_tchoose b (by omega) hNb (by omega)
    unfold AH
    have hcP := True.intro
    have q2 : decide ((a.ps.length : Int) < (b.ps.length : Int)) = false := decide_eq_false (by omega)
    repeat' first
      | with_reducible rfl
      | simp only [hcP, rowA, q2, g0, g2, RS_, FB_, segR, ST_, seval, ne_eq, bne, forall_const, implies_true, TY_, WLS]
      | (with_reducible refine drawK_id ?_); refine drawK_auto hmix (by kernel_rfl) ?_
      | (with_reducible refine draw_fin ?_ ?_); · kernel_rfl
      | (with_reducible refine draw_id ?_); kernel_rfl
      | ((with_reducible refine callK_id (f := 43) ?_); refine callK_funW [] [0, 1, 2, 3, 4, 5, 6] (cc) (by simp [AH, Function.comp_def, pullHW, rowA, pullS, ix, pull_PE, encPEs_pull, mapC_rows, mapC_gone, pushC_rows, pushC_gone, pullP, pullV, pullSS, pullD, pullT, pullF, pushP, pushV, pushSS, pushD, pushT, pushF, pullD16, pushD16]) rfl rfl (by decide) (by simp [cP, cV, cS, cD, cT, cF]) (by simp [pullI, pullS, ix]) ?_; rintro r Hn ⟨rfl, rfl⟩ -; clear hcP)
      | (with_reducible refine And.intro ?_ ?_; · omega)
    repeat' first
      | with_reducible rfl
      | simp only [AH2, rowA, mapC_rows, mapC_gone, pushC_rows, pushC_gone, pullP, pullV, pullSS, pullD, pullT, pullF, pushP, pushV, pushSS, pushD, pushT, pushF, pullD16, pushD16, pull_I, push_I, g0, RS_, FB_, segR, ST_, seval, ne_eq, bne, forall_const, implies_true, TY_, WLS]
      | (with_reducible refine drawK_id ?_); refine drawK_auto hmix (by kernel_rfl) ?_
      | (with_reducible refine draw_fin ?_ ?_); · kernel_rfl
      | (with_reducible refine draw_id ?_); kernel_rfl
      | (with_reducible refine And.intro ?_ ?_; · omega)
    all_goals (refine ⟨.t [], AH2 (chooseA b), (WkR.can [(17, 0, 0, 25), (1, 0, 0, 26)] [.inl 0, .inl 1, .inl 2, .inl 3, .inl 4, .inl 5, .inl 6, .inr 0, .inr 1] rfl (by simp [patL])).to rfl ?_, by simp [AH2], rfl, rfl⟩; simp [Function.comp_def, get_gcT, get, put, gcI, pullI, push1, pushI, pullS, pushS, gcH, patL, canL, canH, canTL, canT, segR, ix, upd, up1, mapC_rows, mapC_gone, pushC_rows, pushC_gone, pullP, pullV, pullSS, pullD, pullT, pullF, pushP, pushV, pushSS, pushD, pushT, pushF, pullD16, pushD16, AH2, rowA, cT, cF, pull_I, push_I, pull_PE, push_PE, ])
theorem on_switch (p : PE) (u d : Bool) (c : CF) : onP (switchP p u d c) = if u then d else false := by
  have key : ∀ x : PE, x.up = u → x.ad = d → onP x = if u then d else false := fun x h1 h2 => by unfold onP; rw [h1, h2]
  unfold switchP
  split
  · exact key _ rfl rfl
  · split
    · exact key _ rfl rfl
    · exact key _ rfl rfl
theorem tsw_model (a : AS) (i : Nat) (p : PE) (port : Int) (u d : Bool) : chooseA (flushA (setA a i (switchP p u d a.cf)) port (offB p (switchP p u d a.cf))) = chooseA (setA (flushA a port (if onP p then !(if u then d else false) else false)) i (switchP p u d a.cf)) := by
  congr 1
  unfold offB
  rw [on_switch]
  generalize (if onP p then !(if u then d else false) else false) = o
  unfold flushA setA
  cases o <;> rfl
theorem c_tswitches (a : AS) (port : Int) (u d : Bool) (hn : a.ps.length ≤ 16) (hN : NnA a) (hb : szA a ≤ 600000) : FunW Try.prog 22 [] (AH a) [.s (.ptr 0 0 0), .s (.raw (.int .i64 port)), .s (.raw (.bool u)), .s (.raw (.bool d))] fun r Hn => r = .t [] ∧ Hn = AH2 (switchT a port u d) := by
  refine funW_of fun X => ?_
  refine callK_inline (rs := []) (n := 72) Try.func22 rfl rfl rfl (by kernel_rfl) (by kernel_rfl) (by simp only [List.length_cons, List.length_nil]; decide) ?_
  unfold AH
  cases e1 : decide (port < 1) with
  | true =>
    have hmod : switchT a port u d = a := by simp only [switchT, e1, if_true]
    rw [hmod]
    repeat' first
      | with_reducible rfl
      | simp only [rowA, e1, RS_, FB_, segR, ST_, seval, ne_eq, bne, forall_const, implies_true, TY_, WLS]
      | (with_reducible refine drawK_id ?_); refine drawK_auto hmix (by kernel_rfl) ?_
      | (with_reducible refine draw_fin ?_ ?_); · kernel_rfl
      | (with_reducible refine draw_id ?_); kernel_rfl
      | (with_reducible refine And.intro ?_ ?_; · omega)
    all_goals (refine ⟨.t [], AH2 (a), (WkR.can [(17, 0, 0, 25), (1, 0, 0, 26)] [.inl 0, .inl 1, .inl 2, .inl 3, .inl 4, .inl 5, .inl 6, .inr 0, .inr 1] rfl (by simp [patL])).to rfl ?_, by simp [AH2], rfl, rfl⟩; simp [Function.comp_def, get_gcT, get, put, gcI, pullI, push1, pushI, pullS, pushS, gcH, patL, canL, canH, canTL, canT, segR, ix, upd, up1, mapC_rows, mapC_gone, pushC_rows, pushC_gone, pullP, pullV, pullSS, pullD, pullT, pullF, pushP, pushV, pushSS, pushD, pushT, pushF, pullD16, pushD16, AH2, rowA, cT, cF, pull_I, push_I, pull_PE, push_PE, ])
  | false =>
  cases e2 : decide ((a.ps.length : Int) < port) with
  | true =>
    have hmod : switchT a port u d = a := by simp only [switchT, e1, e2, Bool.false_eq_true, if_true, if_false]
    rw [hmod]
    repeat' first
      | with_reducible rfl
      | simp only [rowA, e1, e2, RS_, FB_, segR, ST_, seval, ne_eq, bne, forall_const, implies_true, TY_, WLS]
      | (with_reducible refine drawK_id ?_); refine drawK_auto hmix (by kernel_rfl) ?_
      | (with_reducible refine draw_fin ?_ ?_); · kernel_rfl
      | (with_reducible refine draw_id ?_); kernel_rfl
      | (with_reducible refine And.intro ?_ ?_; · omega)
    all_goals (refine ⟨.t [], AH2 (a), (WkR.can [(17, 0, 0, 25), (1, 0, 0, 26)] [.inl 0, .inl 1, .inl 2, .inl 3, .inl 4, .inl 5, .inl 6, .inr 0, .inr 1] rfl (by simp [patL])).to rfl ?_, by simp [AH2], rfl, rfl⟩; simp [Function.comp_def, get_gcT, get, put, gcI, pullI, push1, pushI, pullS, pushS, gcH, patL, canL, canH, canTL, canT, segR, ix, upd, up1, mapC_rows, mapC_gone, pushC_rows, pushC_gone, pullP, pullV, pullSS, pullD, pullT, pullF, pushP, pushV, pushSS, pushD, pushT, pushF, pullD16, pushD16, AH2, rowA, cT, cF, pull_I, push_I, pull_PE, push_PE, ])
  | false =>
    have r1 := of_decide_eq_false e1
    have r2 := of_decide_eq_false e2
    obtain ⟨i, hi⟩ : ∃ i : Nat, port = (i : Int) + 1 := ⟨(port - 1).toNat, by omega⟩
    have hti : (port - 1).toNat = i := by omega
    have hlt : i < a.ps.length := by omega
    obtain ⟨p, hp⟩ : ∃ p, a.ps[i]? = some p := ⟨_, List.getElem?_eq_getElem hlt⟩
    have hps := encPEs_get hp
    have hw : IntKind.i64.wrap (port - 1) = (i : Int) := by rw [hi, wr_i64 (by omega) (by omega)]; omega
    have hb0 : (0 : Int) ≤ (i : Int) := by omega
    have hbN : (i : Int) < (a.ps.length : Int) := by omega
    have cw := c_Switch p u d a.cf
    have hmod : switchT a port u d = chooseA (setA (flushA a port (if onP p then !(if u then d else false) else false)) i (switchP p u d a.cf)) := by
      simp only [switchT, e1, e2, hti, hp, Bool.false_eq_true, if_false]
      exact tsw_model a i p port u d
    rw [hmod]
    have hon : onP p = if p.up then p.ad else false := rfl
    have f1 := (flushA_fr a port (if onP p then !(if u then d else false) else false)).trans (setA_fr _ i (switchP p u d a.cf))
    have hNs : NnA (setA (flushA a port (if onP p then !(if u then d else false) else false)) i (switchP p u d a.cf)) := nn_setA (nn_flush hN) (nn_switch _ _ _ _ (hN.at hp))
    generalize switchP p u d a.cf = q at *
    have cc := c_tchoose _ (by rw [f1.len]; exact hn) hNs (by have := f1.sz; omega)
    have hfl : a.fl.length ≤ 1000000 := by have := szA_f a; omega
    clear hmod f1 hNs
    rcases p with ⟨pv, ac, fl, cost, prio, ed, ad, up, pl, ag, ro, st, nf, v, age, life, wait, ch⟩
    simp only at hon
    cases up with
    | false =>
      have cw' := cw
      simp only [hon, if_false, if_true, if_false, Bool.false_eq_true, Bool.not_true, Bool.not_false] at cc ⊢
      have hcP := cP_s
      repeat' first
        | with_reducible rfl
        | simp only [rowA, hcP, encPEs_len, encPEs_pull, cF_s, sIs_len, e1, e2, hw, hb0, hbN, hps, hlt, encPE, Int.toNat_natCast, List.length_set, if_false, RS_, FB_, segR, ST_, seval, ne_eq, bne, forall_const, implies_true, TY_, WLS]
        | (with_reducible refine drawK_id ?_); refine drawK_auto hmix (by kernel_rfl) ?_
        | (with_reducible refine draw_fin ?_ ?_); · kernel_rfl
        | (with_reducible refine draw_id ?_); kernel_rfl
        | (with_reducible refine callD_id (f := 26) ?_); refine callD_of (cw') rfl rfl ?_
        | ((with_reducible refine callK_id (f := 43) ?_); refine callK_funW [] [0, 1, 2, 3, 4, 5, 6] (cc) (by simp [AH, Function.comp_def, pullHW, rowA, pullS, ix, pull_PE, encPEs_pull, mapC_rows, mapC_gone, pushC_rows, pushC_gone, pullP, pullV, pullSS, pullD, pullT, pullF, pushP, pushV, pushSS, pushD, pushT, pushF, pullD16, pushD16, flushA, setA, cP_s, setPEs, cF_s, sIs_app, sIs_pull]) rfl rfl (by decide) (by simp [cP, cV, cS, cD, cT, cF]) (by simp [pullI, pullS, ix]) ?_; rintro r Hn ⟨rfl, rfl⟩ -; clear hcP)
        | (with_reducible refine And.intro ?_ ?_; · omega)
      repeat' first
        | with_reducible rfl
        | simp only [AH2, rowA, mapC_rows, mapC_gone, pushC_rows, pushC_gone, pullP, pullV, pullSS, pullD, pullT, pullF, pushP, pushV, pushSS, pushD, pushT, pushF, pullD16, pushD16, pull_I, push_I, RS_, FB_, segR, ST_, seval, ne_eq, bne, forall_const, implies_true, TY_, WLS]
        | (with_reducible refine drawK_id ?_); refine drawK_auto hmix (by kernel_rfl) ?_
        | (with_reducible refine draw_fin ?_ ?_); · kernel_rfl
        | (with_reducible refine draw_id ?_); kernel_rfl
        | (with_reducible refine And.intro ?_ ?_; · omega)
      all_goals (refine ⟨.t [], AH2 _, (WkR.can [(17, 0, 0, 25), (1, 0, 0, 26)] [.inl 0, .inl 1, .inl 2, .inl 3, .inl 4, .inl 5, .inl 6, .inr 0, .inr 1] rfl (by simp [patL])).to rfl ?_, by simp [AH2], rfl, rfl⟩; simp [Function.comp_def, get_gcT, get, put, gcI, pullI, push1, pushI, pullS, pushS, gcH, patL, canL, canH, canTL, canT, segR, ix, upd, up1, mapC_rows, mapC_gone, pushC_rows, pushC_gone, pullP, pullV, pullSS, pullD, pullT, pullF, pushP, pushV, pushSS, pushD, pushT, pushF, pullD16, pushD16, AH2, rowA, cT, cF, pull_I, push_I, pull_PE, push_PE, ])
    | true =>
      cases ad with
      | false =>
        have cw' := cw
        simp only [hon, if_true, if_true, if_false, Bool.false_eq_true, Bool.not_true, Bool.not_false] at cc ⊢
        have hcP := cP_s
        repeat' first
          | with_reducible rfl
          | simp only [rowA, hcP, encPEs_len, encPEs_pull, cF_s, sIs_len, e1, e2, hw, hb0, hbN, hps, hlt, encPE, Int.toNat_natCast, List.length_set, if_true, RS_, FB_, segR, ST_, seval, ne_eq, bne, forall_const, implies_true, TY_, WLS]
          | (with_reducible refine drawK_id ?_); refine drawK_auto hmix (by kernel_rfl) ?_
          | (with_reducible refine draw_fin ?_ ?_); · kernel_rfl
          | (with_reducible refine draw_id ?_); kernel_rfl
          | (with_reducible refine callD_id (f := 26) ?_); refine callD_of (cw') rfl rfl ?_
          | ((with_reducible refine callK_id (f := 43) ?_); refine callK_funW [] [0, 1, 2, 3, 4, 5, 6] (cc) (by simp [AH, Function.comp_def, pullHW, rowA, pullS, ix, pull_PE, encPEs_pull, mapC_rows, mapC_gone, pushC_rows, pushC_gone, pullP, pullV, pullSS, pullD, pullT, pullF, pushP, pushV, pushSS, pushD, pushT, pushF, pullD16, pushD16, flushA, setA, cP_s, setPEs, cF_s, sIs_app, sIs_pull]) rfl rfl (by decide) (by simp [cP, cV, cS, cD, cT, cF]) (by simp [pullI, pullS, ix]) ?_; rintro r Hn ⟨rfl, rfl⟩ -; clear hcP)
          | (with_reducible refine And.intro ?_ ?_; · omega)
        repeat' first
          | with_reducible rfl
          | simp only [AH2, rowA, mapC_rows, mapC_gone, pushC_rows, pushC_gone, pullP, pullV, pullSS, pullD, pullT, pullF, pushP, pushV, pushSS, pushD, pushT, pushF, pullD16, pushD16, pull_I, push_I, RS_, FB_, segR, ST_, seval, ne_eq, bne, forall_const, implies_true, TY_, WLS]
          | (with_reducible refine drawK_id ?_); refine drawK_auto hmix (by kernel_rfl) ?_
          | (with_reducible refine draw_fin ?_ ?_); · kernel_rfl
          | (with_reducible refine draw_id ?_); kernel_rfl
          | (with_reducible refine And.intro ?_ ?_; · omega)
        all_goals (refine ⟨.t [], AH2 _, (WkR.can [(17, 0, 0, 25), (1, 0, 0, 26)] [.inl 0, .inl 1, .inl 2, .inl 3, .inl 4, .inl 5, .inl 6, .inr 0, .inr 1] rfl (by simp [patL])).to rfl ?_, by simp [AH2], rfl, rfl⟩; simp [Function.comp_def, get_gcT, get, put, gcI, pullI, push1, pushI, pullS, pushS, gcH, patL, canL, canH, canTL, canT, segR, ix, upd, up1, mapC_rows, mapC_gone, pushC_rows, pushC_gone, pullP, pullV, pullSS, pullD, pullT, pullF, pushP, pushV, pushSS, pushD, pushT, pushF, pullD16, pushD16, AH2, rowA, cT, cF, pull_I, push_I, pull_PE, push_PE, ])
      | true =>
        cases u with
        | false =>
          have cw' := cw
          simp only [hon, if_true, if_true, if_false, Bool.false_eq_true, Bool.not_true, Bool.not_false] at cc ⊢
          have hcP := cP_s
          repeat' first
            | with_reducible rfl
            | simp only [rowA, hcP, encPEs_len, encPEs_pull, cF_s, sIs_len, e1, e2, hw, hb0, hbN, hps, hlt, encPE, Int.toNat_natCast, List.length_set, if_true, RS_, FB_, segR, ST_, seval, ne_eq, bne, forall_const, implies_true, TY_, WLS]
            | (with_reducible refine drawK_id ?_); refine drawK_auto hmix (by kernel_rfl) ?_
            | (with_reducible refine draw_fin ?_ ?_); · kernel_rfl
            | (with_reducible refine draw_id ?_); kernel_rfl
            | (with_reducible refine callD_id (f := 26) ?_); refine callD_of (cw') rfl rfl ?_
            | ((with_reducible refine callK_id (f := 43) ?_); refine callK_funW [] [0, 1, 2, 3, 4, 5, 9] (cc) (by simp [AH, Function.comp_def, pullHW, rowA, pullS, ix, pull_PE, encPEs_pull, mapC_rows, mapC_gone, pushC_rows, pushC_gone, pullP, pullV, pullSS, pullD, pullT, pullF, pushP, pushV, pushSS, pushD, pushT, pushF, pullD16, pushD16, flushA, setA, cP_s, setPEs, cF_s, sIs_app, sIs_pull]) rfl rfl (by decide) (by simp [cP, cV, cS, cD, cT, cF]) (by simp [pullI, pullS, ix]) ?_; rintro r Hn ⟨rfl, rfl⟩ -; clear hcP)
            | (with_reducible refine And.intro ?_ ?_; · omega)
          repeat' first
            | with_reducible rfl
            | simp only [AH2, rowA, mapC_rows, mapC_gone, pushC_rows, pushC_gone, pullP, pullV, pullSS, pullD, pullT, pullF, pushP, pushV, pushSS, pushD, pushT, pushF, pullD16, pushD16, pull_I, push_I, RS_, FB_, segR, ST_, seval, ne_eq, bne, forall_const, implies_true, TY_, WLS]
            | (with_reducible refine drawK_id ?_); refine drawK_auto hmix (by kernel_rfl) ?_
            | (with_reducible refine draw_fin ?_ ?_); · kernel_rfl
            | (with_reducible refine draw_id ?_); kernel_rfl
            | (with_reducible refine And.intro ?_ ?_; · omega)
          all_goals (refine ⟨.t [], AH2 _, (WkR.can [(17, 0, 0, 25), (1, 0, 0, 26)] [.inl 0, .inl 1, .inl 2, .inl 3, .inl 4, .inl 5, .inl 6, .inr 0, .inr 1] rfl (by simp [patL])).to rfl ?_, by simp [AH2], rfl, rfl⟩; simp [Function.comp_def, get_gcT, get, put, gcI, pullI, push1, pushI, pullS, pushS, gcH, patL, canL, canH, canTL, canT, segR, ix, upd, up1, mapC_rows, mapC_gone, pushC_rows, pushC_gone, pullP, pullV, pullSS, pullD, pullT, pullF, pushP, pushV, pushSS, pushD, pushT, pushF, pullD16, pushD16, AH2, rowA, cT, cF, pull_I, push_I, pull_PE, push_PE, ])
        | true =>
          cases d with
          | false =>
            have cw' := cw
            simp only [hon, if_true, if_true, if_false, Bool.false_eq_true, Bool.not_true, Bool.not_false] at cc ⊢
            have hcP := cP_s
            repeat' first
              | with_reducible rfl
              | simp only [rowA, hcP, encPEs_len, encPEs_pull, cF_s, sIs_len, e1, e2, hw, hb0, hbN, hps, hlt, encPE, Int.toNat_natCast, List.length_set, if_true, RS_, FB_, segR, ST_, seval, ne_eq, bne, forall_const, implies_true, TY_, WLS]
              | (with_reducible refine drawK_id ?_); refine drawK_auto hmix (by kernel_rfl) ?_
              | (with_reducible refine draw_fin ?_ ?_); · kernel_rfl
              | (with_reducible refine draw_id ?_); kernel_rfl
              | (with_reducible refine callD_id (f := 26) ?_); refine callD_of (cw') rfl rfl ?_
              | ((with_reducible refine callK_id (f := 43) ?_); refine callK_funW [] [0, 1, 2, 3, 4, 5, 9] (cc) (by simp [AH, Function.comp_def, pullHW, rowA, pullS, ix, pull_PE, encPEs_pull, mapC_rows, mapC_gone, pushC_rows, pushC_gone, pullP, pullV, pullSS, pullD, pullT, pullF, pushP, pushV, pushSS, pushD, pushT, pushF, pullD16, pushD16, flushA, setA, cP_s, setPEs, cF_s, sIs_app, sIs_pull]) rfl rfl (by decide) (by simp [cP, cV, cS, cD, cT, cF]) (by simp [pullI, pullS, ix]) ?_; rintro r Hn ⟨rfl, rfl⟩ -; clear hcP)
              | (with_reducible refine And.intro ?_ ?_; · omega)
            repeat' first
              | with_reducible rfl
              | simp only [AH2, rowA, mapC_rows, mapC_gone, pushC_rows, pushC_gone, pullP, pullV, pullSS, pullD, pullT, pullF, pushP, pushV, pushSS, pushD, pushT, pushF, pullD16, pushD16, pull_I, push_I, RS_, FB_, segR, ST_, seval, ne_eq, bne, forall_const, implies_true, TY_, WLS]
              | (with_reducible refine drawK_id ?_); refine drawK_auto hmix (by kernel_rfl) ?_
              | (with_reducible refine draw_fin ?_ ?_); · kernel_rfl
              | (with_reducible refine draw_id ?_); kernel_rfl
              | (with_reducible refine And.intro ?_ ?_; · omega)
            all_goals (refine ⟨.t [], AH2 _, (WkR.can [(17, 0, 0, 25), (1, 0, 0, 26)] [.inl 0, .inl 1, .inl 2, .inl 3, .inl 4, .inl 5, .inl 6, .inr 0, .inr 1] rfl (by simp [patL])).to rfl ?_, by simp [AH2], rfl, rfl⟩; simp [Function.comp_def, get_gcT, get, put, gcI, pullI, push1, pushI, pullS, pushS, gcH, patL, canL, canH, canTL, canT, segR, ix, upd, up1, mapC_rows, mapC_gone, pushC_rows, pushC_gone, pullP, pullV, pullSS, pullD, pullT, pullF, pushP, pushV, pushSS, pushD, pushT, pushF, pullD16, pushD16, AH2, rowA, cT, cF, pull_I, push_I, pull_PE, push_PE, ])
          | true =>
            have cw' := cw
            simp only [hon, if_true, if_true, if_false, Bool.false_eq_true, Bool.not_true, Bool.not_false] at cc ⊢
            have hcP := cP_s
            repeat' first
              | with_reducible rfl
              | simp only [rowA, hcP, encPEs_len, encPEs_pull, cF_s, sIs_len, e1, e2, hw, hb0, hbN, hps, hlt, encPE, Int.toNat_natCast, List.length_set, if_true, RS_, FB_, segR, ST_, seval, ne_eq, bne, forall_const, implies_true, TY_, WLS]
              | (with_reducible refine drawK_id ?_); refine drawK_auto hmix (by kernel_rfl) ?_
              | (with_reducible refine draw_fin ?_ ?_); · kernel_rfl
              | (with_reducible refine draw_id ?_); kernel_rfl
              | (with_reducible refine callD_id (f := 26) ?_); refine callD_of (cw') rfl rfl ?_
              | ((with_reducible refine callK_id (f := 43) ?_); refine callK_funW [] [0, 1, 2, 3, 4, 5, 6] (cc) (by simp [AH, Function.comp_def, pullHW, rowA, pullS, ix, pull_PE, encPEs_pull, mapC_rows, mapC_gone, pushC_rows, pushC_gone, pullP, pullV, pullSS, pullD, pullT, pullF, pushP, pushV, pushSS, pushD, pushT, pushF, pullD16, pushD16, flushA, setA, cP_s, setPEs, cF_s, sIs_app, sIs_pull]) rfl rfl (by decide) (by simp [cP, cV, cS, cD, cT, cF]) (by simp [pullI, pullS, ix]) ?_; rintro r Hn ⟨rfl, rfl⟩ -; clear hcP)
              | (with_reducible refine And.intro ?_ ?_; · omega)
            repeat' first
              | with_reducible rfl
              | simp only [AH2, rowA, mapC_rows, mapC_gone, pushC_rows, pushC_gone, pullP, pullV, pullSS, pullD, pullT, pullF, pushP, pushV, pushSS, pushD, pushT, pushF, pullD16, pushD16, pull_I, push_I, RS_, FB_, segR, ST_, seval, ne_eq, bne, forall_const, implies_true, TY_, WLS]
              | (with_reducible refine drawK_id ?_); refine drawK_auto hmix (by kernel_rfl) ?_
              | (with_reducible refine draw_fin ?_ ?_); · kernel_rfl
              | (with_reducible refine draw_id ?_); kernel_rfl
              | (with_reducible refine And.intro ?_ ?_; · omega)
            all_goals (refine ⟨.t [], AH2 _, (WkR.can [(17, 0, 0, 25), (1, 0, 0, 26)] [.inl 0, .inl 1, .inl 2, .inl 3, .inl 4, .inl 5, .inl 6, .inr 0, .inr 1] rfl (by simp [patL])).to rfl ?_, by simp [AH2], rfl, rfl⟩; simp [Function.comp_def, get_gcT, get, put, gcI, pullI, push1, pushI, pullS, pushS, gcH, patL, canL, canH, canTL, canT, segR, ix, upd, up1, mapC_rows, mapC_gone, pushC_rows, pushC_gone, pullP, pullV, pullSS, pullD, pullT, pullF, pushP, pushV, pushSS, pushD, pushT, pushF, pullD16, pushD16, AH2, rowA, cT, cF, pull_I, push_I, pull_PE, push_PE, ])
end Go.Ev
