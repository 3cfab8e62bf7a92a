/- A part of the proof: contracts of the functions that the statement reaches. -/
import Derived.Test.YtadikegdadnahaaT20
namespace Go.Ev
open Go.Proofs
set_option maxRecDepth 100000
set_option linter.unusedSimpArgs false
set_option linter.unusedVariables false
set_option maxHeartbeats 4000000
theorem nn_fade2 (p : PE) (h : 0 ≤ p.st) : 0 ≤ (fade2 p).st := by
  unfold fade2 fadeP forgetP
  repeat' split
  all_goals exact h
theorem nn_stepP (p : PE) (c : CF) (h : 0 ≤ p.st) : 0 ≤ (stepP p c).st := by
  unfold stepP
  repeat' split
  all_goals first | exact h | simp
theorem nn_tick1I (b : AS) (i : Nat) (p : PE) (hp : b.ps[i]? = some p) (h : NnA b) : NnA (tick1I b i p) := nn_setA h (nn_fade2 _ (h.at hp))
theorem nn_stI (b : AS) (i : Nat) (p : PE) (hp : b.ps[i]? = some p) (h : NnA b) : NnA (stI b i p) := nn_setA h (nn_stepP _ _ (h.at hp))
theorem nn_beatI (b : AS) (i : Nat) (p : PE) (_ : b.ps[i]? = some p) (h : NnA b) : NnA (beatI b i p) := by
  unfold beatI
  repeat' split
  all_goals exact h
theorem nn_beat {a : AS} (h : NnA a) : NnA (beatA a) := by
  unfold beatA; split
  · exact h
  · exact nn_itA nn_beatI (a := beat1 a) h _
theorem nn_tick2 (k : Nat) {a : AS} (h : NnA a) : NnA (tick2 k a) := nn_beat (nn_allA nn_changedI _ (nn_itA nn_stI h _) _)
theorem nn_tick {a : AS} (h : NnA a) : NnA (tickA a) := nn_tick2 _ (nn_choose (nn_itA nn_tick1I h _))
def AHK (N : List Bool) (a : AS) : Heap := [.rows true 27 [rowA 1 2 3 4 8 9 a], cP a.ps, cV a.vs, cS a.ss, cD a.ds, .gone, .gone, cA16 N, cT a.told, cF a.fl]
def I_tt1 (a : AS) (m : Nat) (tm : TM) (H : Heap) : Prop := ∃ i : Nat, m = a.ps.length - i ∧ i ≤ a.ps.length ∧ get tm 0 = .s (.ptr 0 0 0) ∧ get tm 2 = .s (.raw (.int .i64 (i : Int))) ∧ H = AH (itA tick1I a i)
def I_tt2 (c : AS) (m : Nat) (tm : TM) (H : Heap) : Prop := ∃ i : Nat, m = c.ps.length - i ∧ i ≤ c.ps.length ∧ get tm 0 = .s (.ptr 0 0 0) ∧ get tm 5 = .s (.ptr 7 0 0) ∧ get tm 6 = .s (.raw (.int .i64 (i : Int))) ∧ H = AHK (stepN 16 c i) (itA stI c i)
def I_tt3 (W : List Bool) (e : AS) (m : Nat) (tm : TM) (H : Heap) : Prop := ∃ i : Nat, m = e.ps.length - i ∧ i ≤ e.ps.length ∧ get tm 0 = .s (.ptr 0 0 0) ∧ get tm 5 = .s (.ptr 7 0 0) ∧ get tm 7 = .s (.raw (.int .i64 (i : Int))) ∧ H = AHK W (allA changedI W e i)
def I_tt4 (b : AS) (m : Nat) (tm : TM) (H : Heap) : Prop := ∃ i : Nat, m = b.ps.length - i ∧ i ≤ b.ps.length ∧ get tm 0 = .s (.ptr 0 0 0) ∧ get tm 8 = .s (.raw (.int .i64 (i : Int))) ∧ H = AH2 (itA beatI b i)
theorem c_ttick (a : AS) (hn : a.ps.length ≤ 16) (hN : NnA a) (hb : szA a ≤ 600000) : FunW Try.prog 21 [] (AH a) [.s (.ptr 0 0 0)] fun r Hn => r = .t [] ∧ Hn = AH2 (tickA a) := by
  refine funW_of fun X => ?_
  refine callK_inline (rs := []) (n := 193) Try.func21 rfl rfl rfl (by kernel_rfl) (by kernel_rfl) (by simp only [List.length_cons, List.length_nil]; decide) ?_
  unfold AH
  have hmod : tickA a = tick2 16 (chooseA (itA tick1I a a.ps.length)) := by
    have h1 := itA_fr tick1I_fr a a.ps.length
    have h2 := chooseA_fr (itA tick1I a a.ps.length) (n := 100) (by rw [h1.len]; omega)
    unfold tickA
    rw [tick2_same 16 _ (by rw [h2.len, h1.len]; exact hn), h2.len, h1.len]
  rw [hmod]
  clear hmod
  repeat' first
    | with_reducible rfl
    | simp only [rowA, RS_, FB_, segR, ST_, seval, ne_eq, bne, forall_const, implies_true, TY_, WLS]
    | (with_reducible refine drawK_id ?_); refine drawK_auto hmix (by kernel_rfl) ?_
    | (with_reducible refine draw_fin ?_ ?_); · kernel_rfl
    | (with_reducible refine draw_id ?_); kernel_rfl
    | (with_reducible refine And.intro ?_ ?_; · omega)
  refine loopK_wk (by kernel_rfl) (I_tt1 a) a.ps.length ⟨_, _, Wk.gc [0, 1, 2, 3, 4, 5, 6] rfl (by decide), 0, by omega, by omega, ?_, ?_, ?_⟩ ?_
  · simp [Function.comp_def, get_gcT, get, put, gcI, pullI, push1, pushI, pullS, pushS, gcH, patL, canL, canH, canTL, canT, segR, ix, upd, up1, mapC_rows, mapC_gone, pushC_rows, pushC_gone, pullP, pullV, pullSS, pullD, pullT, pullF, pushP, pushV, pushSS, pushD, pushT, pushF, pullD16, pushD16, AH, rowA, cT, cF, pull_I, push_I, cP_s, encPEs_pull, itA]
  · simp [Function.comp_def, get_gcT, get, put, gcI, pullI, push1, pushI, pullS, pushS, gcH, patL, canL, canH, canTL, canT, segR, ix, upd, up1, mapC_rows, mapC_gone, pushC_rows, pushC_gone, pullP, pullV, pullSS, pullD, pullT, pullF, pushP, pushV, pushSS, pushD, pushT, pushF, pullD16, pushD16, AH, rowA, cT, cF, pull_I, push_I, cP_s, encPEs_pull, itA]
  · simp [Function.comp_def, get_gcT, get, put, gcI, pullI, push1, pushI, pullS, pushS, gcH, patL, canL, canH, canTL, canT, segR, ix, upd, up1, mapC_rows, mapC_gone, pushC_rows, pushC_gone, pullP, pullV, pullSS, pullD, pullT, pullF, pushP, pushV, pushSS, pushD, pushT, pushF, pullD16, pushD16, AH, rowA, cT, cF, pull_I, push_I, cP_s, encPEs_pull, itA]
  rintro m tm H ⟨i, rfl, hi, g0, g2, rfl⟩
  have fr := itA_fr tick1I_fr a i
  by_cases hq : i < a.ps.length
  · have q : decide ((i : Int) < (a.ps.length : Int)) = true := decide_eq_true (by omega)
    have hb0 : (0 : Int) ≤ (i : Int) := by omega
    have hbN : (i : Int) < (a.ps.length : Int) := by omega
    have hi1 : IntKind.i64.wrap ((i : Int) + 1) = ((i + 1 : Nat) : Int) := by rw [wr_i64 (by omega) (by omega)]; rfl
    obtain ⟨p, hp⟩ : ∃ p, ((itA tick1I a i).ps)[i]? = some p := ⟨_, List.getElem?_eq_getElem (by rw [fr.len]; omega)⟩
    have hpr : (((itA tick1I a i).ps).map encPE)[i]? = some (encPE p) := by rw [List.getElem?_map, hp]; rfl
    have hnx := itA_next hp
    have hbl := fr.len
    clear fr
    generalize itA tick1I a i = b at *
    have hbN' : (i : Int) < (b.ps.length : Int) := by omega
    have hps := encPEs_get hp
    have hcP := cP_s
    have s1 := c_Fade p
    have hf2 : fade2 p = if decide (0 < (fadeP p).1.ch) then { (fadeP p).1 with ch := IntKind.i64.wrap ((fadeP p).1.ch - 1) } else (fadeP p).1 := rfl
    obtain ⟨q1, hq1⟩ : ∃ x, (fadeP p).1 = x := ⟨_, rfl⟩
    rw [hq1] at s1 hf2
    generalize (fadeP p).2 = o1 at s1
    unfold AH
    cases e1 : decide (0 < q1.ch) with
    | true =>
      rw [e1] at hf2
      simp only [if_true] at hf2
      repeat' first
        | with_reducible rfl
        | simp only [rowA, hcP, encPEs_len, q, hb0, hbN, hbN', hbl, hi1, hps, encPE, e1, g0, g2, Int.toNat_natCast, RS_, FB_, segR, ST_, seval, ne_eq, bne, forall_const, implies_true, TY_, WLS]
        | (with_reducible refine drawK_id ?_); refine drawK_auto hmix (by kernel_rfl) ?_
        | (with_reducible refine draw_fin ?_ ?_); · kernel_rfl
        | (with_reducible refine draw_id ?_); kernel_rfl
        | (with_reducible refine callK_id (f := 32) ?_); refine callK_fun (s1) rfl rfl ?_
        | (with_reducible refine And.intro ?_ ?_; · omega)
      refine ⟨a.ps.length - (i + 1), _, _, by omega, Wk.gc [0, 1, 2, 3, 4, 5, 6] rfl (by decide), i + 1, rfl, by omega, ?_, ?_, ?_⟩ <;> first | (simp [Function.comp_def, get_gcT, get, put, gcI, pullI, push1, pushI, pullS, pushS, gcH, patL, canL, canH, canTL, canT, segR, ix, upd, up1, mapC_rows, mapC_gone, pushC_rows, pushC_gone, pullP, pullV, pullSS, pullD, pullT, pullF, pushP, pushV, pushSS, pushD, pushT, pushF, pullD16, pushD16, AH, rowA, cT, cF, pull_I, push_I, cP_s, encPEs_pull, g0, g2, hi1]; done) | (rw [hnx]; simp [Function.comp_def, get_gcT, get, put, gcI, pullI, push1, pushI, pullS, pushS, gcH, patL, canL, canH, canTL, canT, segR, ix, upd, up1, mapC_rows, mapC_gone, pushC_rows, pushC_gone, pullP, pullV, pullSS, pullD, pullT, pullF, pushP, pushV, pushSS, pushD, pushT, pushF, pullD16, pushD16, AH, rowA, cT, cF, pull_I, push_I, cP_s, encPEs_pull, setPEs, tick1I, setA, hf2, hbl])
    | false =>
      rw [e1] at hf2
      simp only [Bool.false_eq_true, if_false] at hf2
      repeat' first
        | with_reducible rfl
        | simp only [rowA, hcP, encPEs_len, q, hb0, hbN, hbN', hbl, hi1, hps, encPE, e1, g0, g2, Int.toNat_natCast, RS_, FB_, segR, ST_, seval, ne_eq, bne, forall_const, implies_true, TY_, WLS]
        | (with_reducible refine drawK_id ?_); refine drawK_auto hmix (by kernel_rfl) ?_
        | (with_reducible refine draw_fin ?_ ?_); · kernel_rfl
        | (with_reducible refine draw_id ?_); kernel_rfl
        | (with_reducible refine callK_id (f := 32) ?_); refine callK_fun (s1) rfl rfl ?_
        | (with_reducible refine And.intro ?_ ?_; · omega)
      refine ⟨a.ps.length - (i + 1), _, _, by omega, Wk.gc [0, 1, 2, 3, 4, 5, 6] rfl (by decide), i + 1, rfl, by omega, ?_, ?_, ?_⟩ <;> first | (simp [Function.comp_def, get_gcT, get, put, gcI, pullI, push1, pushI, pullS, pushS, gcH, patL, canL, canH, canTL, canT, segR, ix, upd, up1, mapC_rows, mapC_gone, pushC_rows, pushC_gone, pullP, pullV, pullSS, pullD, pullT, pullF, pushP, pushV, pushSS, pushD, pushT, pushF, pullD16, pushD16, AH, rowA, cT, cF, pull_I, push_I, cP_s, encPEs_pull, g0, g2, hi1]; done) | (rw [hnx]; simp [Function.comp_def, get_gcT, get, put, gcI, pullI, push1, pushI, pullS, pushS, gcH, patL, canL, canH, canTL, canT, segR, ix, upd, up1, mapC_rows, mapC_gone, pushC_rows, pushC_gone, pullP, pullV, pullSS, pullD, pullT, pullF, pushP, pushV, pushSS, pushD, pushT, pushF, pullD16, pushD16, AH, rowA, cT, cF, pull_I, push_I, cP_s, encPEs_pull, setPEs, tick1I, setA, hf2, hbl])
  · have q : decide ((i : Int) < (a.ps.length : Int)) = false := decide_eq_false (by omega)
    have hin : i = a.ps.length := by omega
    subst hin
    have hbl := fr.len
    have hbs := fr.sz
    rw [Nat.mul_zero] at hbs
    have hNb : NnA (itA tick1I a a.ps.length) := nn_itA nn_tick1I hN _
    clear fr
    generalize itA tick1I a a.ps.length = b at *
    have frc := chooseA_fr (n := 16) b (by omega)
    have hNc : NnA (chooseA b) := nn_choose hNb
    have cc := c_tchoose b (by omega) hNb (by omega)
    generalize chooseA b = c at *
    have hcl : c.ps.length = a.ps.length := frc.len.trans hbl
    have hcs := frc.sz
    have hcn : c.ps.length ≤ 16 := by omega
    have q2 : decide ((a.ps.length : Int) < (b.ps.length : Int)) = false := decide_eq_false (by omega)
    unfold AH
    have hcP := True.intro
    repeat' first
      | with_reducible rfl
      | simp only [hcP, rowA, q2, g0, g2, RS_, FB_, segR, ST_, seval, ne_eq, bne, forall_const, implies_true, TY_, WLS]
      | (with_reducible refine drawK_id ?_); refine drawK_auto hmix (by kernel_rfl) ?_
      | (with_reducible refine draw_fin ?_ ?_); · kernel_rfl
      | (with_reducible refine draw_id ?_); kernel_rfl
      | ((with_reducible refine callK_id (f := 43) ?_); refine callK_funW [] [0, 1, 2, 3, 4, 5, 6] (cc) (by simp [AH, Function.comp_def, pullHW, rowA, pullS, ix, pull_PE, encPEs_pull, mapC_rows, mapC_gone, pushC_rows, pushC_gone, pullP, pullV, pullSS, pullD, pullT, pullF, pushP, pushV, pushSS, pushD, pushT, pushF, pullD16, pushD16]) rfl rfl (by decide) (by simp [cP, cV, cS, cD, cT, cF]) (by simp [pullI, pullS, ix]) ?_; rintro r Hn ⟨rfl, rfl⟩ -; clear hcP)
      | (with_reducible refine And.intro ?_ ?_; · omega)
    clear frc hbl hcl q2 q hNb
    repeat' first
      | with_reducible rfl
      | simp only [AH2, rowA, g0, mapC_rows, mapC_gone, pushC_rows, pushC_gone, pullP, pullV, pullSS, pullD, pullT, pullF, pushP, pushV, pushSS, pushD, pushT, pushF, pullD16, pushD16, pull_I, push_I, RS_, FB_, segR, ST_, seval, ne_eq, bne, forall_const, implies_true, TY_, WLS]
      | (with_reducible refine drawK_id ?_); refine drawK_auto hmix (by kernel_rfl) ?_
      | (with_reducible refine draw_fin ?_ ?_); · kernel_rfl
      | (with_reducible refine draw_id ?_); kernel_rfl
      | (with_reducible refine And.intro ?_ ?_; · omega)
    refine loopK_wk (by kernel_rfl) (I_tt2 c) c.ps.length ⟨_, _, Wk.can [(17, 0, 0, 25), (1, 0, 0, 26)] [.inl 0, .inl 1, .inl 2, .inl 3, .inl 4, .inl 5, .inl 6, .inl 9, .inr 0, .inr 1] rfl (by simp [patL]), 0, by omega, by omega, ?_, ?_, ?_, ?_⟩ ?_
    · simp [Function.comp_def, get_gcT, get, put, gcI, pullI, push1, pushI, pullS, pushS, gcH, patL, canL, canH, canTL, canT, segR, ix, upd, up1, mapC_rows, mapC_gone, pushC_rows, pushC_gone, pullP, pullV, pullSS, pullD, pullT, pullF, pushP, pushV, pushSS, pushD, pushT, pushF, pullD16, pushD16, AHK, rowA, cT, cF, pull_I, push_I, cP_s, encPEs_pull, cA16, arrB_pull, g0, itA, stepN, arrB]
    · simp [Function.comp_def, get_gcT, get, put, gcI, pullI, push1, pushI, pullS, pushS, gcH, patL, canL, canH, canTL, canT, segR, ix, upd, up1, mapC_rows, mapC_gone, pushC_rows, pushC_gone, pullP, pullV, pullSS, pullD, pullT, pullF, pushP, pushV, pushSS, pushD, pushT, pushF, pullD16, pushD16, AHK, rowA, cT, cF, pull_I, push_I, cP_s, encPEs_pull, cA16, arrB_pull, g0, itA, stepN, arrB]
    · simp [Function.comp_def, get_gcT, get, put, gcI, pullI, push1, pushI, pullS, pushS, gcH, patL, canL, canH, canTL, canT, segR, ix, upd, up1, mapC_rows, mapC_gone, pushC_rows, pushC_gone, pullP, pullV, pullSS, pullD, pullT, pullF, pushP, pushV, pushSS, pushD, pushT, pushF, pullD16, pushD16, AHK, rowA, cT, cF, pull_I, push_I, cP_s, encPEs_pull, cA16, arrB_pull, g0, itA, stepN, arrB]
    · simp [Function.comp_def, get_gcT, get, put, gcI, pullI, push1, pushI, pullS, pushS, gcH, patL, canL, canH, canTL, canT, segR, ix, upd, up1, mapC_rows, mapC_gone, pushC_rows, pushC_gone, pullP, pullV, pullSS, pullD, pullT, pullF, pushP, pushV, pushSS, pushD, pushT, pushF, pullD16, pushD16, AHK, rowA, cT, cF, pull_I, push_I, cP_s, encPEs_pull, cA16, arrB_pull, g0, itA, stepN, arrB]
    rintro m tm H ⟨i, rfl, hi, g0, g5, g6, rfl⟩
    have fr := itA_fr stI_fr c i
    have hWl := stepN_len 16 c i
    by_cases hq : i < c.ps.length
    · have q : decide ((i : Int) < (c.ps.length : Int)) = true := decide_eq_true (by omega)
      have hb0 : (0 : Int) ≤ (i : Int) := by omega
      have hbN : (i : Int) < (c.ps.length : Int) := by omega
      have hi1 : IntKind.i64.wrap ((i : Int) + 1) = ((i + 1 : Nat) : Int) := by rw [wr_i64 (by omega) (by omega)]; rfl
      obtain ⟨p, hp⟩ : ∃ p, ((itA stI c i).ps)[i]? = some p := ⟨_, List.getElem?_eq_getElem (by rw [fr.len]; omega)⟩
      have hpr : (((itA stI c i).ps).map encPE)[i]? = some (encPE p) := by rw [List.getElem?_map, hp]; rfl
      have hnx := itA_next hp
      have hnN : stepN 16 c (i + 1) = (stepN 16 c i).set i (stepO p (itA stI c i).cf) := by simp only [stepN, hp]
      have hel := fr.len
      clear fr
      generalize itA stI c i = e at *
      generalize stepN 16 c i = W at *
      have s1 := c_Step p e.cf
      obtain ⟨q1, hq1⟩ : ∃ x, stepP p e.cf = x := ⟨_, rfl⟩
      obtain ⟨o1, ho1⟩ : ∃ x, stepO p e.cf = x := ⟨_, rfl⟩
      rw [hq1, ho1] at s1
      rw [ho1] at hnN
      have hb16 : (i : Int) < 16 := by omega
      have h16 : i + 1 ≤ 16 := by omega
      have h15 : i ≤ 15 := by omega
      have hsW := arrB_set (l := W) (by omega : i < W.length)
      have hbN' : (i : Int) < (e.ps.length : Int) := by omega
      have hps := encPEs_get hp
      have hcP := cP_s
      have hc16 : ∀ l, cA16 l = .rows true 16 [arrB l] := fun _ => rfl
      unfold AHK
      repeat' first
        | with_reducible rfl
        | simp only [rowA, hcP, hc16, arrB_len, hWl, hsW, encPEs_len, q, hb0, hbN, hbN', hb16, h16, h15, hel, hi1, hps, encPE, g0, g5, g6, Nat.mul_one, Int.toNat_natCast, RS_, FB_, segR, ST_, seval, ne_eq, bne, forall_const, implies_true, TY_, WLS]
        | (with_reducible refine drawK_id ?_); refine drawK_auto hmix (by kernel_rfl) ?_
        | (with_reducible refine draw_fin ?_ ?_); · kernel_rfl
        | (with_reducible refine draw_id ?_); kernel_rfl
        | (with_reducible refine callD_id (f := 33) ?_); refine callD_of (s1) rfl rfl ?_
        | (with_reducible refine And.intro ?_ ?_; · omega)
      refine ⟨c.ps.length - (i + 1), _, _, by omega, Wk.can [(17, 0, 0, 25), (1, 0, 0, 26)] [.inl 0, .inl 1, .inl 2, .inl 3, .inl 4, .inl 5, .inl 6, .inl 7, .inr 0, .inr 1] rfl (by simp [patL]), i + 1, rfl, by omega, ?_, ?_, ?_, ?_⟩ <;> first | (simp [Function.comp_def, get_gcT, get, put, gcI, pullI, push1, pushI, pullS, pushS, gcH, patL, canL, canH, canTL, canT, segR, ix, upd, up1, mapC_rows, mapC_gone, pushC_rows, pushC_gone, pullP, pullV, pullSS, pullD, pullT, pullF, pushP, pushV, pushSS, pushD, pushT, pushF, pullD16, pushD16, AHK, rowA, cT, cF, pull_I, push_I, cP_s, encPEs_pull, cA16, arrB_pull, g0, g5, g6, hi1]; done) | (rw [hnx, hnN]; simp [Function.comp_def, get_gcT, get, put, gcI, pullI, push1, pushI, pullS, pushS, gcH, patL, canL, canH, canTL, canT, segR, ix, upd, up1, mapC_rows, mapC_gone, pushC_rows, pushC_gone, pullP, pullV, pullSS, pullD, pullT, pullF, pushP, pushV, pushSS, pushD, pushT, pushF, pullD16, pushD16, AHK, rowA, cT, cF, pull_I, push_I, cP_s, encPEs_pull, cA16, arrB_pull, setPEs, hsW, stI, setA, hq1, hel])
    · have q : decide ((i : Int) < (c.ps.length : Int)) = false := decide_eq_false (by omega)
      have hin : i = c.ps.length := by omega
      subst hin
      have hel := fr.len
      have hes := fr.sz
      rw [Nat.mul_zero] at hes
      have hNe : NnA (itA stI c c.ps.length) := nn_itA nn_stI hNc _
      have hmod : tick2 16 c = beatA (allA changedI (stepN 16 c c.ps.length) (itA stI c c.ps.length) (itA stI c c.ps.length).ps.length) := by unfold tick2; rw [hel]
      rw [hmod]
      have hen : (itA stI c c.ps.length).ps.length ≤ 16 := by omega
      have q2 : decide ((c.ps.length : Int) < ((itA stI c c.ps.length).ps.length : Int)) = false := decide_eq_false (by omega)
      clear hmod fr
      generalize itA stI c c.ps.length = e at *
      generalize stepN 16 c c.ps.length = W at *
      have hesz : szA e ≤ 650000 := by omega
      unfold AHK
      repeat' first
        | with_reducible rfl
        | simp only [rowA, q2, g0, g5, g6, RS_, FB_, segR, ST_, seval, ne_eq, bne, forall_const, implies_true, TY_, WLS]
        | (with_reducible refine drawK_id ?_); refine drawK_auto hmix (by kernel_rfl) ?_
        | (with_reducible refine draw_fin ?_ ?_); · kernel_rfl
        | (with_reducible refine draw_id ?_); kernel_rfl
        | (with_reducible refine And.intro ?_ ?_; · omega)
      clear hel q2 q hes hcs hNc
      refine loopK_wk (by kernel_rfl) (I_tt3 W e) e.ps.length ⟨_, _, Wk.can [(17, 0, 0, 25), (1, 0, 0, 26)] [.inl 0, .inl 1, .inl 2, .inl 3, .inl 4, .inl 5, .inl 6, .inl 7, .inr 0, .inr 1] rfl (by simp [patL]), 0, by omega, by omega, ?_, ?_, ?_, ?_⟩ ?_
      · simp [Function.comp_def, get_gcT, get, put, gcI, pullI, push1, pushI, pullS, pushS, gcH, patL, canL, canH, canTL, canT, segR, ix, upd, up1, mapC_rows, mapC_gone, pushC_rows, pushC_gone, pullP, pullV, pullSS, pullD, pullT, pullF, pushP, pushV, pushSS, pushD, pushT, pushF, pullD16, pushD16, AHK, rowA, cT, cF, pull_I, push_I, pull16, g0, g5, allA]
      · simp [Function.comp_def, get_gcT, get, put, gcI, pullI, push1, pushI, pullS, pushS, gcH, patL, canL, canH, canTL, canT, segR, ix, upd, up1, mapC_rows, mapC_gone, pushC_rows, pushC_gone, pullP, pullV, pullSS, pullD, pullT, pullF, pushP, pushV, pushSS, pushD, pushT, pushF, pullD16, pushD16, AHK, rowA, cT, cF, pull_I, push_I, pull16, g0, g5, allA]
      · simp [Function.comp_def, get_gcT, get, put, gcI, pullI, push1, pushI, pullS, pushS, gcH, patL, canL, canH, canTL, canT, segR, ix, upd, up1, mapC_rows, mapC_gone, pushC_rows, pushC_gone, pullP, pullV, pullSS, pullD, pullT, pullF, pushP, pushV, pushSS, pushD, pushT, pushF, pullD16, pushD16, AHK, rowA, cT, cF, pull_I, push_I, pull16, g0, g5, allA]
      · simp [Function.comp_def, get_gcT, get, put, gcI, pullI, push1, pushI, pullS, pushS, gcH, patL, canL, canH, canTL, canT, segR, ix, upd, up1, mapC_rows, mapC_gone, pushC_rows, pushC_gone, pullP, pullV, pullSS, pullD, pullT, pullF, pushP, pushV, pushSS, pushD, pushT, pushF, pullD16, pushD16, AHK, rowA, cT, cF, pull_I, push_I, pull16, g0, g5, allA]
      rintro m tm H ⟨i, rfl, hi, g0, g5, g7, rfl⟩
      have fr := allA_fr (f := changedI) (n := e.ps.length) (fun b i h => h ▸ changedI_fr b i) W e rfl i
      have hNf : NnA (allA changedI W e i) := nn_allA nn_changedI _ hNe _
      by_cases hq : i < e.ps.length
      · have hb0 : (0 : Int) ≤ (i : Int) := by omega
        have hbN : (i : Int) < 16 := by omega
        have h16 : i + 1 ≤ 16 := by omega
        have h15 : i ≤ 15 := by omega
        have hi1 : IntKind.i64.wrap ((i : Int) + 1) = ((i + 1 : Nat) : Int) := by rw [wr_i64 (by omega) (by omega)]; rfl
        obtain ⟨p, hp⟩ : ∃ p, (allA changedI W e i).ps[i]? = some p := ⟨_, List.getElem?_eq_getElem (by rw [fr.len]; omega)⟩
        obtain ⟨x, hx⟩ : ∃ x, W[i]? = some x := ⟨_, List.getElem?_eq_getElem (by omega)⟩
        have hxr := arrB_get hx
        have hx1 := arrB_get1 hx
        have hnx : allA changedI W e (i + 1) = if x = true then changedI (allA changedI W e i) i else allA changedI W e i := by simp only [allA, hx, Option.some.injEq]
        have hbs2 : szA (allA changedI W e i) ≤ 850000 := by
          have h1 := fr.sz
          have h2 : i * e.ps.length ≤ 16 * 16 := Nat.mul_le_mul (by omega) (by omega)
          omega
        have hcl := fr.len
        clear fr
        generalize allA changedI W e i = c2 at *
        have q : decide ((i : Int) < (c2.ps.length : Int)) = true := decide_eq_true (by omega)
        have cc := c_tchanged c2 i p (by omega) hp (by omega)
        have hm : changedI c2 i = changedA c2 i p := by simp only [changedI, hp]
        rw [hm] at hnx
        unfold AHK
        cases x with
        | true =>
          have hc16 : ∀ l, cA16 l = .rows true 16 [arrB l] := fun _ => rfl
          simp only [if_true] at hnx
          repeat' first
            | with_reducible rfl
            | simp only [q, hb0, hbN, h16, h15, hi1, hxr, hx1, arrB_len, hWl, g0, g5, g7, rowA, hc16, Nat.mul_one, Int.toNat_natCast, RS_, FB_, segR, ST_, seval, ne_eq, bne, forall_const, implies_true, TY_, WLS]
            | (with_reducible refine drawK_id ?_); refine drawK_auto hmix (by kernel_rfl) ?_
            | (with_reducible refine draw_fin ?_ ?_); · kernel_rfl
            | (with_reducible refine draw_id ?_); kernel_rfl
            | ((with_reducible refine callK_id (f := 44) ?_); refine callK_funW [] [0, 1, 2, 3, 4, 8, 9] (cc) (by simp [AH, Function.comp_def, pullHW, rowA, pullS, ix, pull_PE, encPEs_pull, mapC_rows, mapC_gone, pushC_rows, pushC_gone, pullP, pullV, pullSS, pullD, pullT, pullF, pushP, pushV, pushSS, pushD, pushT, pushF, pullD16, pushD16]) rfl rfl (by decide) (by simp [cP, cV, cS, cD, cT, cF]) (by simp [pullI, pullS, ix]) ?_; rintro r Hn ⟨rfl, rfl⟩ -; clear hc16)
            | (with_reducible refine And.intro ?_ ?_; · omega)
          repeat' first
            | with_reducible rfl
            | simp only [AH2, rowA, hi1, g0, g5, g7, mapC_rows, mapC_gone, pushC_rows, pushC_gone, pullP, pullV, pullSS, pullD, pullT, pullF, pushP, pushV, pushSS, pushD, pushT, pushF, pullD16, pushD16, pull_I, push_I, pull16, push16, arrB_pull, arrB_push, RS_, FB_, segR, ST_, seval, ne_eq, bne, forall_const, implies_true, TY_, WLS]
            | (with_reducible refine drawK_id ?_); refine drawK_auto hmix (by kernel_rfl) ?_
            | (with_reducible refine draw_fin ?_ ?_); · kernel_rfl
            | (with_reducible refine draw_id ?_); kernel_rfl
            | (with_reducible refine And.intro ?_ ?_; · omega)
          refine ⟨e.ps.length - (i + 1), _, _, by omega, Wk.can [(17, 0, 0, 25), (1, 0, 0, 26)] [.inl 0, .inl 1, .inl 2, .inl 3, .inl 4, .inl 5, .inl 6, .inl 7, .inr 0, .inr 1] rfl (by simp [patL]), i + 1, rfl, by omega, ?_, ?_, ?_, ?_⟩ <;> first | (simp [Function.comp_def, get_gcT, get, put, gcI, pullI, push1, pushI, pullS, pushS, gcH, patL, canL, canH, canTL, canT, segR, ix, upd, up1, mapC_rows, mapC_gone, pushC_rows, pushC_gone, pullP, pullV, pullSS, pullD, pullT, pullF, pushP, pushV, pushSS, pushD, pushT, pushF, pullD16, pushD16, AHK, rowA, cT, cF, pull_I, push_I, g0, g5, g7, hi1]; done) | (rw [hnx]; simp [Function.comp_def, get_gcT, get, put, gcI, pullI, push1, pushI, pullS, pushS, gcH, patL, canL, canH, canTL, canT, segR, ix, upd, up1, mapC_rows, mapC_gone, pushC_rows, pushC_gone, pullP, pullV, pullSS, pullD, pullT, pullF, pushP, pushV, pushSS, pushD, pushT, pushF, pullD16, pushD16, AHK, rowA, cT, cF, pull_I, push_I, cA16, arrB_pull])
        | false =>
          have hc16 : ∀ l, cA16 l = .rows true 16 [arrB l] := fun _ => rfl
          simp only [Bool.false_eq_true, if_false] at hnx
          repeat' first
            | with_reducible rfl
            | simp only [q, hb0, hbN, h16, h15, hi1, hxr, hx1, arrB_len, hWl, g0, g5, g7, rowA, hc16, Nat.mul_one, Int.toNat_natCast, RS_, FB_, segR, ST_, seval, ne_eq, bne, forall_const, implies_true, TY_, WLS]
            | (with_reducible refine drawK_id ?_); refine drawK_auto hmix (by kernel_rfl) ?_
            | (with_reducible refine draw_fin ?_ ?_); · kernel_rfl
            | (with_reducible refine draw_id ?_); kernel_rfl
            | ((with_reducible refine callK_id (f := 44) ?_); refine callK_funW [] [0, 1, 2, 3, 4, 8, 9] (cc) (by simp [AH, Function.comp_def, pullHW, rowA, pullS, ix, pull_PE, encPEs_pull, mapC_rows, mapC_gone, pushC_rows, pushC_gone, pullP, pullV, pullSS, pullD, pullT, pullF, pushP, pushV, pushSS, pushD, pushT, pushF, pullD16, pushD16]) rfl rfl (by decide) (by simp [cP, cV, cS, cD, cT, cF]) (by simp [pullI, pullS, ix]) ?_; rintro r Hn ⟨rfl, rfl⟩ -; clear hc16)
            | (with_reducible refine And.intro ?_ ?_; · omega)
          refine ⟨e.ps.length - (i + 1), _, _, by omega, Wk.can [(17, 0, 0, 25), (1, 0, 0, 26)] [.inl 0, .inl 1, .inl 2, .inl 3, .inl 4, .inl 5, .inl 6, .inl 7, .inr 0, .inr 1] rfl (by simp [patL]), i + 1, rfl, by omega, ?_, ?_, ?_, ?_⟩ <;> first | (simp [Function.comp_def, get_gcT, get, put, gcI, pullI, push1, pushI, pullS, pushS, gcH, patL, canL, canH, canTL, canT, segR, ix, upd, up1, mapC_rows, mapC_gone, pushC_rows, pushC_gone, pullP, pullV, pullSS, pullD, pullT, pullF, pushP, pushV, pushSS, pushD, pushT, pushF, pullD16, pushD16, AHK, rowA, cT, cF, pull_I, push_I, g0, g5, g7, hi1]; done) | (rw [hnx]; simp [Function.comp_def, get_gcT, get, put, gcI, pullI, push1, pushI, pullS, pushS, gcH, patL, canL, canH, canTL, canT, segR, ix, upd, up1, mapC_rows, mapC_gone, pushC_rows, pushC_gone, pullP, pullV, pullSS, pullD, pullT, pullF, pushP, pushV, pushSS, pushD, pushT, pushF, pullD16, pushD16, AHK, rowA, cT, cF, pull_I, push_I, cA16, arrB_pull])
      · have hin : i = e.ps.length := by omega
        subst hin
        have hfl := fr.len
        have hfs : szA (allA changedI W e e.ps.length) ≤ 850000 := by
          have h1 := fr.sz
          have h2 : e.ps.length * e.ps.length ≤ 16 * 16 := Nat.mul_le_mul (by omega) (by omega)
          omega
        have q : decide ((e.ps.length : Int) < ((allA changedI W e e.ps.length).ps.length : Int)) = false := decide_eq_false (by omega)
        have hfn : (allA changedI W e e.ps.length).ps.length ≤ 16 := by omega
        clear fr
        generalize allA changedI W e e.ps.length = f at *
        unfold AHK
        cases e0 : decide (0 < IntKind.i64.wrap (f.beat - 1)) with
        | true =>
          repeat' first
            | with_reducible rfl
            | simp only [rowA, q, e0, g0, g5, g7, RS_, FB_, segR, ST_, seval, ne_eq, bne, forall_const, implies_true, TY_, WLS]
            | (with_reducible refine drawK_id ?_); refine drawK_auto hmix (by kernel_rfl) ?_
            | (with_reducible refine draw_fin ?_ ?_); · kernel_rfl
            | (with_reducible refine draw_id ?_); kernel_rfl
            | (with_reducible refine And.intro ?_ ?_; · omega)
          all_goals (refine ⟨.t [], AH2 (beatA f), (WkR.can [(17, 0, 0, 25), (1, 0, 0, 26)] [.inl 0, .inl 1, .inl 2, .inl 3, .inl 4, .inl 5, .inl 6, .inr 0, .inr 1] rfl (by simp [patL])).to rfl ?_, by simp [AH2], rfl, rfl⟩; simp [Function.comp_def, get_gcT, get, put, gcI, pullI, push1, pushI, pullS, pushS, gcH, patL, canL, canH, canTL, canT, segR, ix, upd, up1, mapC_rows, mapC_gone, pushC_rows, pushC_gone, pullP, pullV, pullSS, pullD, pullT, pullF, pushP, pushV, pushSS, pushD, pushT, pushF, pullD16, pushD16, AH2, rowA, cT, cF, pull_I, push_I, pull16, beatA, e0, beat0])
        | false =>
          have hmod : beatA f = itA beatI (beat1 f) (beat1 f).ps.length := by simp only [beatA, e0, Bool.false_eq_true, if_false]; rfl
          rw [hmod]
          clear hmod
          repeat' first
            | with_reducible rfl
            | simp only [rowA, q, e0, g0, g5, g7, RS_, FB_, segR, ST_, seval, ne_eq, bne, forall_const, implies_true, TY_, WLS]
            | (with_reducible refine drawK_id ?_); refine drawK_auto hmix (by kernel_rfl) ?_
            | (with_reducible refine draw_fin ?_ ?_); · kernel_rfl
            | (with_reducible refine draw_id ?_); kernel_rfl
            | (with_reducible refine And.intro ?_ ?_; · omega)
          have hNg : NnA (beat1 f) := hNf
          have hgn : (beat1 f).ps.length ≤ 16 := hfn
          have hgs : szA (beat1 f) ≤ 850000 := hfs
          refine loopK_wk (by kernel_rfl) (I_tt4 (beat1 f)) (beat1 f).ps.length ⟨_, _, Wk.can [(17, 0, 0, 25), (1, 0, 0, 26)] [.inl 0, .inl 1, .inl 2, .inl 3, .inl 4, .inl 5, .inl 6, .inr 0, .inr 1] rfl (by simp [patL]), 0, by omega, by omega, ?_, ?_, ?_⟩ ?_
          · simp [Function.comp_def, get_gcT, get, put, gcI, pullI, push1, pushI, pullS, pushS, gcH, patL, canL, canH, canTL, canT, segR, ix, upd, up1, mapC_rows, mapC_gone, pushC_rows, pushC_gone, pullP, pullV, pullSS, pullD, pullT, pullF, pushP, pushV, pushSS, pushD, pushT, pushF, pullD16, pushD16, AH2, rowA, cT, cF, pull_I, push_I, pull16, g0, itA, beat1]
          · simp [Function.comp_def, get_gcT, get, put, gcI, pullI, push1, pushI, pullS, pushS, gcH, patL, canL, canH, canTL, canT, segR, ix, upd, up1, mapC_rows, mapC_gone, pushC_rows, pushC_gone, pullP, pullV, pullSS, pullD, pullT, pullF, pushP, pushV, pushSS, pushD, pushT, pushF, pullD16, pushD16, AH2, rowA, cT, cF, pull_I, push_I, pull16, g0, itA, beat1]
          · simp [Function.comp_def, get_gcT, get, put, gcI, pullI, push1, pushI, pullS, pushS, gcH, patL, canL, canH, canTL, canT, segR, ix, upd, up1, mapC_rows, mapC_gone, pushC_rows, pushC_gone, pullP, pullV, pullSS, pullD, pullT, pullF, pushP, pushV, pushSS, pushD, pushT, pushF, pullD16, pushD16, AH2, rowA, cT, cF, pull_I, push_I, pull16, g0, itA, beat1]
          clear e0 q
          generalize beat1 f = g at *
          rintro m tm H ⟨i, rfl, hi, g0, g8, rfl⟩
          have fr := itA_fr beatI_fr g i
          have hNh : NnA (itA beatI g i) := nn_itA nn_beatI hNg _
          by_cases hq : i < g.ps.length
          · have q : decide ((i : Int) < (g.ps.length : Int)) = true := decide_eq_true (by omega)
            have hb0 : (0 : Int) ≤ (i : Int) := by omega
            have hbN : (i : Int) < (g.ps.length : Int) := by omega
            have hi1 : IntKind.i64.wrap ((i : Int) + 1) = ((i + 1 : Nat) : Int) := by rw [wr_i64 (by omega) (by omega)]; rfl
            obtain ⟨p, hp⟩ : ∃ p, ((itA beatI g i).ps)[i]? = some p := ⟨_, List.getElem?_eq_getElem (by rw [fr.len]; omega)⟩
            have hpr : (((itA beatI g i).ps).map encPE)[i]? = some (encPE p) := by rw [List.getElem?_map, hp]; rfl
            have hnx := itA_next hp
            have hbl := fr.len
            have hbs := fr.sz
            clear fr
            generalize itA beatI g i = b at *
            have hbN' : (i : Int) < (b.ps.length : Int) := by omega
            have q2 : decide ((i : Int) < (b.ps.length : Int)) = true := decide_eq_true (by omega)
            have hi2 : IntKind.i64.wrap ((i : Int) + 1) = (i : Int) + 1 := wr_i64 (by omega) (by omega)
            have ct := c_ttell b i p (by omega) hp (hNh.at hp) (by have := szA_t b; omega)
            have htl : b.told.length ≤ 1000000 := by have := szA_t b; omega
            have hps := encPEs_get hp
            have hon : onP p = if p.up then p.ad else false := rfl
            have hcP := cP_s
            unfold AH2
            cases u1 : p.up with
            | false =>
              repeat' first
                | with_reducible rfl
                | simp only [rowA, hcP, encPEs_len, q2, hb0, hbN', hi2, hps, encPE, encPD, pduV, g0, g8, Int.toNat_natCast, u1, RS_, FB_, segR, ST_, seval, ne_eq, bne, forall_const, implies_true, TY_, WLS]
                | (with_reducible refine drawK_id ?_); refine drawK_auto hmix (by kernel_rfl) ?_
                | (with_reducible refine draw_fin ?_ ?_); · kernel_rfl
                | (with_reducible refine draw_id ?_); kernel_rfl
                | (with_reducible refine callK_id (f := 46) ?_); refine callK_fun (c_with') rfl rfl ?_
                | (with_reducible refine And.intro ?_ ?_; · omega)
              refine ⟨g.ps.length - (i + 1), _, _, by omega, Wk.can [(17, 0, 0, 25), (1, 0, 0, 26)] [.inl 0, .inl 1, .inl 2, .inl 3, .inl 4, .inl 5, .inl 6, .inr 0, .inr 1] rfl (by simp [patL]), i + 1, rfl, by omega, ?_, ?_, ?_⟩ <;> first | (simp [Function.comp_def, get_gcT, get, put, gcI, pullI, push1, pushI, pullS, pushS, gcH, patL, canL, canH, canTL, canT, segR, ix, upd, up1, mapC_rows, mapC_gone, pushC_rows, pushC_gone, pullP, pullV, pullSS, pullD, pullT, pullF, pushP, pushV, pushSS, pushD, pushT, pushF, pullD16, pushD16, AH2, rowA, cP_s, encPEs_pull, encPEs_push, cT, cF, pull_I, push_I, pull_PE, push_PE, g0, g8, hi1]; done) | (rw [hnx]; simp [Function.comp_def, get_gcT, get, put, gcI, pullI, push1, pushI, pullS, pushS, gcH, patL, canL, canH, canTL, canT, segR, ix, upd, up1, mapC_rows, mapC_gone, pushC_rows, pushC_gone, pullP, pullV, pullSS, pullD, pullT, pullF, pushP, pushV, pushSS, pushD, pushT, pushF, pullD16, pushD16, AH2, rowA, cP_s, encPEs_pull, encPEs_push, cT, cF, pull_I, push_I, pull_PE, push_PE, cP_s, encPEs_pull, beatI, hon, u1])
            | true =>
              cases u2 : p.ad with
              | false =>
                repeat' first
                  | with_reducible rfl
                  | simp only [rowA, hcP, encPEs_len, q2, hb0, hbN', hi2, hps, encPE, encPD, pduV, g0, g8, Int.toNat_natCast, u1, u2, RS_, FB_, segR, ST_, seval, ne_eq, bne, forall_const, implies_true, TY_, WLS]
                  | (with_reducible refine drawK_id ?_); refine drawK_auto hmix (by kernel_rfl) ?_
                  | (with_reducible refine draw_fin ?_ ?_); · kernel_rfl
                  | (with_reducible refine draw_id ?_); kernel_rfl
                  | (with_reducible refine callK_id (f := 46) ?_); refine callK_fun (c_with') rfl rfl ?_
                  | (with_reducible refine And.intro ?_ ?_; · omega)
                refine ⟨g.ps.length - (i + 1), _, _, by omega, Wk.can [(17, 0, 0, 25), (1, 0, 0, 26)] [.inl 0, .inl 1, .inl 2, .inl 3, .inl 4, .inl 5, .inl 6, .inr 0, .inr 1] rfl (by simp [patL]), i + 1, rfl, by omega, ?_, ?_, ?_⟩ <;> first | (simp [Function.comp_def, get_gcT, get, put, gcI, pullI, push1, pushI, pullS, pushS, gcH, patL, canL, canH, canTL, canT, segR, ix, upd, up1, mapC_rows, mapC_gone, pushC_rows, pushC_gone, pullP, pullV, pullSS, pullD, pullT, pullF, pushP, pushV, pushSS, pushD, pushT, pushF, pullD16, pushD16, AH2, rowA, cP_s, encPEs_pull, encPEs_push, cT, cF, pull_I, push_I, pull_PE, push_PE, g0, g8, hi1]; done) | (rw [hnx]; simp [Function.comp_def, get_gcT, get, put, gcI, pullI, push1, pushI, pullS, pushS, gcH, patL, canL, canH, canTL, canT, segR, ix, upd, up1, mapC_rows, mapC_gone, pushC_rows, pushC_gone, pullP, pullV, pullSS, pullD, pullT, pullF, pushP, pushV, pushSS, pushD, pushT, pushF, pullD16, pushD16, AH2, rowA, cP_s, encPEs_pull, encPEs_push, cT, cF, pull_I, push_I, pull_PE, push_PE, cP_s, encPEs_pull, beatI, hon, u1, u2])
              | true =>
                cases e2 : (p.ro == 4) with
                | true =>
                  have e3 : (p.ro == 3) = false := by rw [eq_of_beq e2]; rfl
                  repeat' first
                    | with_reducible rfl
                    | simp only [rowA, hcP, encPEs_len, q2, hb0, hbN', hi2, hps, encPE, encPD, pduV, g0, g8, Int.toNat_natCast, u1, u2, e2, e3, RS_, FB_, segR, ST_, seval, ne_eq, bne, forall_const, implies_true, TY_, WLS]
                    | (with_reducible refine drawK_id ?_); refine drawK_auto hmix (by kernel_rfl) ?_
                    | (with_reducible refine draw_fin ?_ ?_); · kernel_rfl
                    | (with_reducible refine draw_id ?_); kernel_rfl
                    | (with_reducible refine callK_id (f := 46) ?_); refine callK_fun (c_with') rfl rfl ?_
                    | ((with_reducible refine callK_id (f := 45) ?_); refine callK_funW [] [0, 1, 2, 3, 4, 7, 8] (ct) (by simp [AH, Function.comp_def, pullHW, rowA, pullS, ix, pull_PE, encPEs_pull, mapC_rows, mapC_gone, pushC_rows, pushC_gone, pullP, pullV, pullSS, pullD, pullT, pullF, pushP, pushV, pushSS, pushD, pushT, pushF, pullD16, pushD16, cP_s]) rfl rfl (by decide) (by simp [cP, cV, cS, cD, cT, cF]) (by simp [pullI, pullS, ix]) ?_; rintro r Hn ⟨rfl, rfl⟩ -; clear hcP)
                    | (with_reducible refine And.intro ?_ ?_; · omega)
                  repeat' first
                    | with_reducible rfl
                    | simp only [AH2, rowA, hi1, g0, g8, encPE, mapC_rows, mapC_gone, pushC_rows, pushC_gone, pullV, pullSS, pullD, pullT, pullF, pushV, pushSS, pushD, pushT, pushF, pullD16, pushD16, pull_I, push_I, cP_s, encPEs_pull, encPEs_push, u1, u2, e2, e3, RS_, FB_, segR, ST_, seval, ne_eq, bne, forall_const, implies_true, TY_, WLS]
                    | (with_reducible refine drawK_id ?_); refine drawK_auto hmix (by kernel_rfl) ?_
                    | (with_reducible refine draw_fin ?_ ?_); · kernel_rfl
                    | (with_reducible refine draw_id ?_); kernel_rfl
                    | (with_reducible refine And.intro ?_ ?_; · omega)
                  refine ⟨g.ps.length - (i + 1), _, _, by omega, Wk.can [(17, 0, 0, 25), (1, 0, 0, 26)] [.inl 0, .inl 1, .inl 2, .inl 3, .inl 4, .inl 5, .inl 6, .inr 0, .inr 1] rfl (by simp [patL]), i + 1, rfl, by omega, ?_, ?_, ?_⟩ <;> first | (simp [Function.comp_def, get_gcT, get, put, gcI, pullI, push1, pushI, pullS, pushS, gcH, patL, canL, canH, canTL, canT, segR, ix, upd, up1, mapC_rows, mapC_gone, pushC_rows, pushC_gone, pullP, pullV, pullSS, pullD, pullT, pullF, pushP, pushV, pushSS, pushD, pushT, pushF, pullD16, pushD16, AH2, rowA, cP_s, encPEs_pull, encPEs_push, cT, cF, pull_I, push_I, pull_PE, push_PE, g0, g8, hi1]; done) | (rw [hnx]; simp [Function.comp_def, get_gcT, get, put, gcI, pullI, push1, pushI, pullS, pushS, gcH, patL, canL, canH, canTL, canT, segR, ix, upd, up1, mapC_rows, mapC_gone, pushC_rows, pushC_gone, pullP, pullV, pullSS, pullD, pullT, pullF, pushP, pushV, pushSS, pushD, pushT, pushF, pullD16, pushD16, AH2, rowA, cP_s, encPEs_pull, encPEs_push, cT, cF, pull_I, push_I, pull_PE, push_PE, cP_s, encPEs_pull, beatI, hon, u1, u2, e2])
                | false =>
                  cases e3 : (p.ro == 3) with
                  | false =>
                    repeat' first
                      | with_reducible rfl
                      | simp only [rowA, hcP, encPEs_len, q2, hb0, hbN', hi2, hps, encPE, encPD, pduV, g0, g8, Int.toNat_natCast, u1, u2, e2, e3, RS_, FB_, segR, ST_, seval, ne_eq, bne, forall_const, implies_true, TY_, WLS]
                      | (with_reducible refine drawK_id ?_); refine drawK_auto hmix (by kernel_rfl) ?_
                      | (with_reducible refine draw_fin ?_ ?_); · kernel_rfl
                      | (with_reducible refine draw_id ?_); kernel_rfl
                      | (with_reducible refine callK_id (f := 46) ?_); refine callK_fun (c_with') rfl rfl ?_
                      | (with_reducible refine And.intro ?_ ?_; · omega)
                    refine ⟨g.ps.length - (i + 1), _, _, by omega, Wk.can [(17, 0, 0, 25), (1, 0, 0, 26)] [.inl 0, .inl 1, .inl 2, .inl 3, .inl 4, .inl 5, .inl 6, .inr 0, .inr 1] rfl (by simp [patL]), i + 1, rfl, by omega, ?_, ?_, ?_⟩ <;> first | (simp [Function.comp_def, get_gcT, get, put, gcI, pullI, push1, pushI, pullS, pushS, gcH, patL, canL, canH, canTL, canT, segR, ix, upd, up1, mapC_rows, mapC_gone, pushC_rows, pushC_gone, pullP, pullV, pullSS, pullD, pullT, pullF, pushP, pushV, pushSS, pushD, pushT, pushF, pullD16, pushD16, AH2, rowA, cP_s, encPEs_pull, encPEs_push, cT, cF, pull_I, push_I, pull_PE, push_PE, g0, g8, hi1]; done) | (rw [hnx]; simp [Function.comp_def, get_gcT, get, put, gcI, pullI, push1, pushI, pullS, pushS, gcH, patL, canL, canH, canTL, canT, segR, ix, upd, up1, mapC_rows, mapC_gone, pushC_rows, pushC_gone, pullP, pullV, pullSS, pullD, pullT, pullF, pushP, pushV, pushSS, pushD, pushT, pushF, pullD16, pushD16, AH2, rowA, cP_s, encPEs_pull, encPEs_push, cT, cF, pull_I, push_I, pull_PE, push_PE, cP_s, encPEs_pull, beatI, hon, u1, u2, e2, e3])
                  | true =>
                    cases e4 : decide (0 < p.ch) with
                    | false =>
                      repeat' first
                        | with_reducible rfl
                        | simp only [rowA, hcP, encPEs_len, q2, hb0, hbN', hi2, hps, encPE, encPD, pduV, g0, g8, Int.toNat_natCast, u1, u2, e2, e3, e4, RS_, FB_, segR, ST_, seval, ne_eq, bne, forall_const, implies_true, TY_, WLS]
                        | (with_reducible refine drawK_id ?_); refine drawK_auto hmix (by kernel_rfl) ?_
                        | (with_reducible refine draw_fin ?_ ?_); · kernel_rfl
                        | (with_reducible refine draw_id ?_); kernel_rfl
                        | (with_reducible refine callK_id (f := 46) ?_); refine callK_fun (c_with') rfl rfl ?_
                        | (with_reducible refine And.intro ?_ ?_; · omega)
                      refine ⟨g.ps.length - (i + 1), _, _, by omega, Wk.can [(17, 0, 0, 25), (1, 0, 0, 26)] [.inl 0, .inl 1, .inl 2, .inl 3, .inl 4, .inl 5, .inl 6, .inr 0, .inr 1] rfl (by simp [patL]), i + 1, rfl, by omega, ?_, ?_, ?_⟩ <;> first | (simp [Function.comp_def, get_gcT, get, put, gcI, pullI, push1, pushI, pullS, pushS, gcH, patL, canL, canH, canTL, canT, segR, ix, upd, up1, mapC_rows, mapC_gone, pushC_rows, pushC_gone, pullP, pullV, pullSS, pullD, pullT, pullF, pushP, pushV, pushSS, pushD, pushT, pushF, pullD16, pushD16, AH2, rowA, cP_s, encPEs_pull, encPEs_push, cT, cF, pull_I, push_I, pull_PE, push_PE, g0, g8, hi1]; done) | (rw [hnx]; simp [Function.comp_def, get_gcT, get, put, gcI, pullI, push1, pushI, pullS, pushS, gcH, patL, canL, canH, canTL, canT, segR, ix, upd, up1, mapC_rows, mapC_gone, pushC_rows, pushC_gone, pullP, pullV, pullSS, pullD, pullT, pullF, pushP, pushV, pushSS, pushD, pushT, pushF, pullD16, pushD16, AH2, rowA, cP_s, encPEs_pull, encPEs_push, cT, cF, pull_I, push_I, pull_PE, push_PE, cP_s, encPEs_pull, beatI, hon, u1, u2, e2, e3, e4])
                    | true =>
                      repeat' first
                        | with_reducible rfl
                        | simp only [rowA, hcP, encPEs_len, q2, hb0, hbN', hi2, hps, encPE, encPD, pduV, g0, g8, Int.toNat_natCast, u1, u2, e2, e3, e4, cT, List.length_map, RS_, FB_, segR, ST_, seval, ne_eq, bne, forall_const, implies_true, TY_, WLS]
                        | (with_reducible refine drawK_id ?_); refine drawK_auto hmix (by kernel_rfl) ?_
                        | (with_reducible refine draw_fin ?_ ?_); · kernel_rfl
                        | (with_reducible refine draw_id ?_); kernel_rfl
                        | (with_reducible refine callK_id (f := 46) ?_); refine callK_fun (c_with') rfl rfl ?_
                        | (with_reducible refine And.intro ?_ ?_; · omega)
                      refine ⟨g.ps.length - (i + 1), _, _, by omega, Wk.can [(17, 0, 0, 25), (1, 0, 0, 26)] [.inl 0, .inl 1, .inl 2, .inl 3, .inl 4, .inl 5, .inl 6, .inr 0, .inr 1] rfl (by simp [patL]), i + 1, rfl, by omega, ?_, ?_, ?_⟩ <;> first | (simp [Function.comp_def, get_gcT, get, put, gcI, pullI, push1, pushI, pullS, pushS, gcH, patL, canL, canH, canTL, canT, segR, ix, upd, up1, mapC_rows, mapC_gone, pushC_rows, pushC_gone, pullP, pullV, pullSS, pullD, pullT, pullF, pushP, pushV, pushSS, pushD, pushT, pushF, pullD16, pushD16, AH2, rowA, cP_s, encPEs_pull, encPEs_push, cT, cF, pull_I, push_I, pull_PE, push_PE, g0, g8, hi1]; done) | (rw [hnx]; simp [Function.comp_def, get_gcT, get, put, gcI, pullI, push1, pushI, pullS, pushS, gcH, patL, canL, canH, canTL, canT, segR, ix, upd, up1, mapC_rows, mapC_gone, pushC_rows, pushC_gone, pullP, pullV, pullSS, pullD, pullT, pullF, pushP, pushV, pushSS, pushD, pushT, pushF, pullD16, pushD16, AH2, rowA, cP_s, encPEs_pull, encPEs_push, cT, cF, pull_I, push_I, pull_PE, push_PE, beatI, hon, sendA, rootD, encTE, encPD, pduV, u1, u2, e2, e3, e4])
          · have hin : i = g.ps.length := by omega
            subst hin
            have q2 : decide ((g.ps.length : Int) < ((itA beatI g g.ps.length).ps.length : Int)) = false := decide_eq_false (by rw [fr.len]; omega)
            unfold AH2
            repeat' first
              | with_reducible rfl
              | simp only [q2, g0, g8, rowA, RS_, FB_, segR, ST_, seval, ne_eq, bne, forall_const, implies_true, TY_, WLS]
              | (with_reducible refine drawK_id ?_); refine drawK_auto hmix (by kernel_rfl) ?_
              | (with_reducible refine draw_fin ?_ ?_); · kernel_rfl
              | (with_reducible refine draw_id ?_); kernel_rfl
              | (with_reducible refine And.intro ?_ ?_; · omega)
            all_goals (refine ⟨.t [], AH2 (itA beatI g g.ps.length), (WkR.can [(17, 0, 0, 25), (1, 0, 0, 26)] [.inl 0, .inl 1, .inl 2, .inl 3, .inl 4, .inl 5, .inl 6, .inr 0, .inr 1] rfl (by simp [patL])).to rfl ?_, by simp [AH2], rfl, rfl⟩; simp [Function.comp_def, get_gcT, get, put, gcI, pullI, push1, pushI, pullS, pushS, gcH, patL, canL, canH, canTL, canT, segR, ix, upd, up1, mapC_rows, mapC_gone, pushC_rows, pushC_gone, pullP, pullV, pullSS, pullD, pullT, pullF, pushP, pushV, pushSS, pushD, pushT, pushF, pullD16, pushD16, AH2, rowA, cT, cF, pull_I, push_I, pull_PE, push_PE, ])
end Go.Ev
