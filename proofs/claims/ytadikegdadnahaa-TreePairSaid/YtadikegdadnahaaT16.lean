/- A part of the proof: contracts of the functions that the statement reaches. -/
import Derived.Test.YtadikegdadnahaaT15
namespace Go.Ev
open Go.Proofs
set_option maxRecDepth 100000
set_option linter.unusedSimpArgs false
set_option linter.unusedVariables false
set_option maxHeartbeats 4000000
def fade2 (p : PE) : PE := if decide (0 < (fadeP p).1.ch) then { (fadeP p).1 with ch := IntKind.i64.wrap ((fadeP p).1.ch - 1) } else (fadeP p).1
def tick1I (b : AS) (i : Nat) (p : PE) : AS := setA b i (fade2 p)
def stI (b : AS) (i : Nat) (p : PE) : AS := setA b i (stepP p b.cf)
theorem tick1I_fr (b : AS) (i : Nat) (p : PE) : FrA 0 b (tick1I b i p) := setA_fr _ _ _
theorem stI_fr (b : AS) (i : Nat) (p : PE) : FrA 0 b (stI b i p) := setA_fr _ _ _
def stepN (k : Nat) (a : AS) : Nat → List Bool
  | 0 => List.replicate k false
  | i + 1 => match (itA stI a i).ps[i]? with
    | some p => (stepN k a i).set i (stepO p (itA stI a i).cf)
    | none => stepN k a i
theorem stepN_len (k : Nat) (a : AS) : ∀ i, (stepN k a i).length = k
  | 0 => by simp [stepN]
  | i + 1 => by unfold stepN; split <;> simp [stepN_len k a i]
def tick2 (k : Nat) (a : AS) : AS := beatA (allA changedI (stepN k a a.ps.length) (itA stI a a.ps.length) a.ps.length)
def tickA (a : AS) : AS := tick2 a.ps.length (chooseA (itA tick1I a a.ps.length))
def I_tk1 (a : AS) (m : Nat) (tm : TM) (H : Heap) : Prop := ∃ i : Nat, m = a.ps.length - i ∧ i ≤ a.ps.length ∧ get tm 2 = .s (.ptr 4 0 0) ∧ get tm 3 = .s (.ptr 5 0 0) ∧ get tm 4 = .s (.ptr 6 0 0) ∧ get tm 16 = .s (.slice 7 0 a.ps.length) ∧ get tm 17 = .s (.raw (.int .i64 a.ps.length)) ∧ get tm 18 = .s (.raw (.int .i64 (i : Int))) ∧ H = AHS a (itA tick1I (noT a) i)
def I_tk2 (a c : AS) (m : Nat) (tm : TM) (H : Heap) : Prop := ∃ i : Nat, m = a.ps.length - i ∧ i ≤ a.ps.length ∧ get tm 2 = .s (.ptr 4 0 0) ∧ get tm 3 = .s (.ptr 5 0 0) ∧ get tm 4 = .s (.ptr 6 0 0) ∧ get tm 7 = .s (.slice 13 0 a.ps.length) ∧ get tm 57 = .s (.slice 7 0 a.ps.length) ∧ get tm 58 = .s (.raw (.int .i64 a.ps.length)) ∧ get tm 59 = .s (.raw (.int .i64 (i : Int))) ∧ H = AHS a (itA stI c i) ++ [cB (stepN a.ps.length c i)]
def sBs (l : List Bool) : List (List SV) := l.map sB
theorem sBs_len (l : List Bool) : (sBs l).length = l.length := List.length_map _
theorem sBs_pull (σ : List Nat) (l : List Bool) : (sBs l).map (fun r => r.map (pullS σ)) = sBs l := by unfold sBs; rw [List.map_map]; rfl
theorem sBs_set (l : List Bool) (i : Nat) (x : Bool) : (sBs l).set i [.raw (.bool x)] = sBs (l.set i x) := by unfold sBs; rw [List.map_set]; rfl
theorem sBs_get {l : List Bool} {i : Nat} {x : Bool} (h : l[i]? = some x) : (sBs l)[i]? = some [.raw (.bool x)] := by unfold sBs; rw [List.getElem?_map, h]; rfl
theorem cB_s (l : List Bool) : cB l = .rows true 1 (sBs l) := rfl
theorem sBs_rep (n : Nat) : List.replicate n [SV.raw (.bool false)] = sBs (List.replicate n false) := by unfold sBs; rw [List.map_replicate]; rfl
theorem c_TickT (a : AS) (h : OkS a) : FunW Try.prog 11 [rP a.ps, rV a.vs, rS a.ss, rD a.ds] [] [.a (rowS 0 1 2 3 a)] (PostS (tickA (noT a))) := by
  refine funW_of fun X => ?_
  refine callK_inline (rs := [.cell 2 42, .cell 3 47]) (n := 95) Try.func11 rfl rfl rfl (by kernel_rfl) (by kernel_rfl) (by simp only [List.length_cons, List.length_nil]; decide) ?_
  obtain ⟨fin, hfin⟩ : ∃ x, tickA (noT a) = x := ⟨_, rfl⟩
  rw [hfin]
  have hn := h.ps
  have h1 := c_begin a h
  have hcP := True.intro
  repeat' first
    | with_reducible rfl
    | simp only [rowS, hcP, mapC_rows, mapC_gone, pushC_rows, pushC_gone, pullP, pullV, pullSS, pullD, pullT, pullF, pushP, pushV, pushSS, pushD, pushT, pushF, pullD16, pushD16, RS_, FB_, segR, ST_, seval, ne_eq, bne, forall_const, implies_true, TY_, WLS]
    | (with_reducible refine drawK_id ?_); refine drawK_auto hmix (by kernel_rfl) ?_
    | (with_reducible refine draw_fin ?_ ?_); · kernel_rfl
    | (with_reducible refine draw_id ?_); kernel_rfl
    | ((with_reducible refine callK_id (f := 25) ?_); refine callK_funW [0, 1, 2, 3] [] h1 (by simp [pullHW, roC_rP, roC_rV, roC_rS, roC_rD]) rfl rfl (by decide) (by simp [rP, rV, rS, rD]) (by simp [pullI, pullS, ix, rowS]) ?_; rintro r Hn ⟨rfl, rfl⟩ -; clear hcP)
    | (with_reducible refine And.intro ?_ ?_; · omega)
  repeat' first
    | with_reducible rfl
    | simp only [rowS, AHo, rowA, noT, mapC_rows, mapC_gone, pushC_rows, pushC_gone, pullP, pullV, pullSS, pullD, pullT, pullF, pushP, pushV, pushSS, pushD, pushT, pushF, pullD16, pushD16, RS_, FB_, segR, ST_, seval, ne_eq, bne, forall_const, implies_true, TY_, WLS]
    | (with_reducible refine drawK_id ?_); refine drawK_auto hmix (by kernel_rfl) ?_
    | (with_reducible refine draw_fin ?_ ?_); · kernel_rfl
    | (with_reducible refine draw_id ?_); kernel_rfl
    | (with_reducible refine And.intro ?_ ?_; · omega)
  refine loopK_wk (by kernel_rfl) (I_tk1 a) a.ps.length ⟨_, _, Wk.gc [0, 1, 2, 3, 5, 6, 7, 8, 9, 10, 11, 12, 13] rfl (by decide), 0, by omega, by omega, ?_, ?_, ?_, ?_, ?_, ?_, ?_⟩ ?_
  · simp [Function.comp_def, get_gcT, get, put, gcI, pullI, push1, pushI, pullS, pushS, gcH, patL, canL, canH, canTL, canT, segR, ix, upd, up1, mapC_rows, mapC_gone, pushC_rows, pushC_gone, pullP, pullV, pullSS, pullD, pullT, pullF, pushP, pushV, pushSS, pushD, pushT, pushF, pullD16, pushD16, prP, prV, prSS, prD, AHS, AHo, zS, rowA, cT, cF, pull_I, push_I, pull_PE, push_PE, itA, noT]
  · simp [Function.comp_def, get_gcT, get, put, gcI, pullI, push1, pushI, pullS, pushS, gcH, patL, canL, canH, canTL, canT, segR, ix, upd, up1, mapC_rows, mapC_gone, pushC_rows, pushC_gone, pullP, pullV, pullSS, pullD, pullT, pullF, pushP, pushV, pushSS, pushD, pushT, pushF, pullD16, pushD16, prP, prV, prSS, prD, AHS, AHo, zS, rowA, cT, cF, pull_I, push_I, pull_PE, push_PE, itA, noT]
  · simp [Function.comp_def, get_gcT, get, put, gcI, pullI, push1, pushI, pullS, pushS, gcH, patL, canL, canH, canTL, canT, segR, ix, upd, up1, mapC_rows, mapC_gone, pushC_rows, pushC_gone, pullP, pullV, pullSS, pullD, pullT, pullF, pushP, pushV, pushSS, pushD, pushT, pushF, pullD16, pushD16, prP, prV, prSS, prD, AHS, AHo, zS, rowA, cT, cF, pull_I, push_I, pull_PE, push_PE, itA, noT]
  · simp [Function.comp_def, get_gcT, get, put, gcI, pullI, push1, pushI, pullS, pushS, gcH, patL, canL, canH, canTL, canT, segR, ix, upd, up1, mapC_rows, mapC_gone, pushC_rows, pushC_gone, pullP, pullV, pullSS, pullD, pullT, pullF, pushP, pushV, pushSS, pushD, pushT, pushF, pullD16, pushD16, prP, prV, prSS, prD, AHS, AHo, zS, rowA, cT, cF, pull_I, push_I, pull_PE, push_PE, itA, noT]
  · simp [Function.comp_def, get_gcT, get, put, gcI, pullI, push1, pushI, pullS, pushS, gcH, patL, canL, canH, canTL, canT, segR, ix, upd, up1, mapC_rows, mapC_gone, pushC_rows, pushC_gone, pullP, pullV, pullSS, pullD, pullT, pullF, pushP, pushV, pushSS, pushD, pushT, pushF, pullD16, pushD16, prP, prV, prSS, prD, AHS, AHo, zS, rowA, cT, cF, pull_I, push_I, pull_PE, push_PE, itA, noT]
  · simp [Function.comp_def, get_gcT, get, put, gcI, pullI, push1, pushI, pullS, pushS, gcH, patL, canL, canH, canTL, canT, segR, ix, upd, up1, mapC_rows, mapC_gone, pushC_rows, pushC_gone, pullP, pullV, pullSS, pullD, pullT, pullF, pushP, pushV, pushSS, pushD, pushT, pushF, pullD16, pushD16, prP, prV, prSS, prD, AHS, AHo, zS, rowA, cT, cF, pull_I, push_I, pull_PE, push_PE, itA, noT]
  · simp [Function.comp_def, get_gcT, get, put, gcI, pullI, push1, pushI, pullS, pushS, gcH, patL, canL, canH, canTL, canT, segR, ix, upd, up1, mapC_rows, mapC_gone, pushC_rows, pushC_gone, pullP, pullV, pullSS, pullD, pullT, pullF, pushP, pushV, pushSS, pushD, pushT, pushF, pullD16, pushD16, prP, prV, prSS, prD, AHS, AHo, zS, rowA, cT, cF, pull_I, push_I, pull_PE, push_PE, itA, noT]
  rintro m tm H ⟨i, rfl, hi, g2, g3, g4, g16, g17, g18, rfl⟩
  have fr := itA_fr tick1I_fr (noT a) i
  have hl0 : (noT a).ps.length = a.ps.length := rfl
  have hs0 : szA (noT a) = 0 := rfl
  by_cases hq : i < a.ps.length
  · have q : decide ((i : Int) < (a.ps.length : Int)) = true := decide_eq_true (by omega)
    have hb0 : (0 : Int) ≤ (i : Int) := by omega
    have hbN : (i : Int) < (a.ps.length : Int) := by omega
    have hi1 : IntKind.i64.wrap ((i : Int) + 1) = ((i + 1 : Nat) : Int) := by rw [wr_i64 (by omega) (by omega)]; rfl
    obtain ⟨p, hp⟩ : ∃ p, ((itA tick1I (noT a) i).ps)[i]? = some p := ⟨_, List.getElem?_eq_getElem (by rw [fr.len]; omega)⟩
    have hpr : (((itA tick1I (noT a) i).ps).map encPE)[i]? = some (encPE p) := by rw [List.getElem?_map, hp]; rfl
    have hnx := itA_next hp
    have hbl := fr.len
    rw [hl0] at hbl
    clear fr
    generalize itA tick1I (noT a) i = b at *
    have hbN' : (i : Int) < (b.ps.length : Int) := by omega
    have hps := encPEs_get hp
    have hcP := cP_s
    have s1 := c_Fade p
    have hf2 : fade2 p = if decide (0 < (fadeP p).1.ch) then { (fadeP p).1 with ch := IntKind.i64.wrap ((fadeP p).1.ch - 1) } else (fadeP p).1 := rfl
    obtain ⟨q1, hq1⟩ : ∃ x, (fadeP p).1 = x := ⟨_, rfl⟩
    rw [hq1] at s1 hf2
    generalize (fadeP p).2 = o1 at s1
    unfold AHS AHo
    cases e1 : decide (0 < q1.ch) with
    | true =>
      rw [e1] at hf2
      simp only [if_true] at hf2
      repeat' first
        | with_reducible rfl
        | simp only [rowA, hcP, encPEs_len, q, hb0, hbN, hbN', hbl, hi1, hps, encPE, e1, g2, g3, g4, g16, g17, g18, Int.toNat_natCast, RS_, FB_, segR, ST_, seval, ne_eq, bne, forall_const, implies_true, TY_, WLS]
        | (with_reducible refine drawK_id ?_); refine drawK_auto hmix (by kernel_rfl) ?_
        | (with_reducible refine draw_fin ?_ ?_); · kernel_rfl
        | (with_reducible refine draw_id ?_); kernel_rfl
        | (with_reducible refine callK_id (f := 32) ?_); refine callK_fun (s1) rfl rfl ?_
        | (with_reducible refine And.intro ?_ ?_; · omega)
      refine ⟨a.ps.length - (i + 1), _, _, by omega, Wk.gc [0, 1, 2, 3, 4, 5, 6, 7, 8, 9, 10, 11, 12] rfl (by decide), i + 1, rfl, by omega, ?_, ?_, ?_, ?_, ?_, ?_, ?_⟩ <;> first | (simp [Function.comp_def, get_gcT, get, put, gcI, pullI, push1, pushI, pullS, pushS, gcH, patL, canL, canH, canTL, canT, segR, ix, upd, up1, mapC_rows, mapC_gone, pushC_rows, pushC_gone, pullP, pullV, pullSS, pullD, pullT, pullF, pushP, pushV, pushSS, pushD, pushT, pushF, pullD16, pushD16, prP, prV, prSS, prD, AHS, AHo, zS, rowA, cT, cF, pull_I, push_I, pull_PE, push_PE, g2, g3, g4, g16, g17, g18]; done) | (rw [hnx]; simp [Function.comp_def, get_gcT, get, put, gcI, pullI, push1, pushI, pullS, pushS, gcH, patL, canL, canH, canTL, canT, segR, ix, upd, up1, mapC_rows, mapC_gone, pushC_rows, pushC_gone, pullP, pullV, pullSS, pullD, pullT, pullF, pushP, pushV, pushSS, pushD, pushT, pushF, pullD16, pushD16, prP, prV, prSS, prD, AHS, AHo, zS, rowA, cT, cF, pull_I, push_I, pull_PE, push_PE, cP_s, setPEs, encPEs_pull, tick1I, setA, hf2, hbl])
    | false =>
      rw [e1] at hf2
      simp only [Bool.false_eq_true, if_false] at hf2
      repeat' first
        | with_reducible rfl
        | simp only [rowA, hcP, encPEs_len, q, hb0, hbN, hbN', hbl, hi1, hps, encPE, e1, g2, g3, g4, g16, g17, g18, Int.toNat_natCast, RS_, FB_, segR, ST_, seval, ne_eq, bne, forall_const, implies_true, TY_, WLS]
        | (with_reducible refine drawK_id ?_); refine drawK_auto hmix (by kernel_rfl) ?_
        | (with_reducible refine draw_fin ?_ ?_); · kernel_rfl
        | (with_reducible refine draw_id ?_); kernel_rfl
        | (with_reducible refine callK_id (f := 32) ?_); refine callK_fun (s1) rfl rfl ?_
        | (with_reducible refine And.intro ?_ ?_; · omega)
      refine ⟨a.ps.length - (i + 1), _, _, by omega, Wk.gc [0, 1, 2, 3, 4, 5, 6, 7, 8, 9, 10, 11, 12] rfl (by decide), i + 1, rfl, by omega, ?_, ?_, ?_, ?_, ?_, ?_, ?_⟩ <;> first | (simp [Function.comp_def, get_gcT, get, put, gcI, pullI, push1, pushI, pullS, pushS, gcH, patL, canL, canH, canTL, canT, segR, ix, upd, up1, mapC_rows, mapC_gone, pushC_rows, pushC_gone, pullP, pullV, pullSS, pullD, pullT, pullF, pushP, pushV, pushSS, pushD, pushT, pushF, pullD16, pushD16, prP, prV, prSS, prD, AHS, AHo, zS, rowA, cT, cF, pull_I, push_I, pull_PE, push_PE, g2, g3, g4, g16, g17, g18]; done) | (rw [hnx]; simp [Function.comp_def, get_gcT, get, put, gcI, pullI, push1, pushI, pullS, pushS, gcH, patL, canL, canH, canTL, canT, segR, ix, upd, up1, mapC_rows, mapC_gone, pushC_rows, pushC_gone, pullP, pullV, pullSS, pullD, pullT, pullF, pushP, pushV, pushSS, pushD, pushT, pushF, pullD16, pushD16, prP, prV, prSS, prD, AHS, AHo, zS, rowA, cT, cF, pull_I, push_I, pull_PE, push_PE, cP_s, setPEs, encPEs_pull, tick1I, setA, hf2, hbl])
  · have q : decide ((i : Int) < (a.ps.length : Int)) = false := decide_eq_false (by omega)
    have hin : i = a.ps.length := by omega
    subst hin
    have hbl := fr.len
    have hbs := fr.sz
    rw [hl0] at hbl
    rw [hs0] at hbs
    have hmod : fin = tick2 a.ps.length (chooseA (itA tick1I (noT a) a.ps.length)) := by rw [← hfin]; rfl
    rw [hmod]
    clear hmod hfin fr
    generalize itA tick1I (noT a) a.ps.length = b at *
    have cc := c_choose b (by omega) (by omega)
    have frc := chooseA_fr (n := 100) b (by omega)
    generalize chooseA b = c at *
    have hcl : c.ps.length = a.ps.length := frc.len.trans hbl
    have hcs := frc.sz
    unfold AHS AHo
    have hcP := True.intro
    repeat' first
      | with_reducible rfl
      | simp only [hcP, rowA, q, g2, g3, g4, g16, g17, g18, mapC_rows, mapC_gone, pushC_rows, pushC_gone, pullP, pullV, pullSS, pullD, pullT, pullF, pushP, pushV, pushSS, pushD, pushT, pushF, pullD16, pushD16, RS_, FB_, segR, ST_, seval, ne_eq, bne, forall_const, implies_true, TY_, WLS]
      | (with_reducible refine drawK_id ?_); refine drawK_auto hmix (by kernel_rfl) ?_
      | (with_reducible refine draw_fin ?_ ?_); · kernel_rfl
      | (with_reducible refine draw_id ?_); kernel_rfl
      | ((with_reducible refine callK_id (f := 27) ?_); refine callK_funW [] [6, 7, 8, 9, 10, 11, 12] (cc) (by simp [AH, Function.comp_def, pullHW, rowA, pullS, ix, pull_PE, encPEs_pull, mapC_rows, mapC_gone, pushC_rows, pushC_gone, pullP, pullV, pullSS, pullD, pullT, pullF, pushP, pushV, pushSS, pushD, pushT, pushF, pullD16, pushD16]) rfl rfl (by decide) (by simp [cP, cV, cS, cD, cT, cF]) (by simp [pullI, pullS, ix]) ?_; rintro r Hn ⟨rfl, rfl⟩ -; clear hcP)
      | (with_reducible refine And.intro ?_ ?_; · omega)
    repeat' first
      | with_reducible rfl
      | simp only [AH2, rowA, hcl, g2, g3, g4, mapC_rows, mapC_gone, pushC_rows, pushC_gone, pullP, pullV, pullSS, pullD, pullT, pullF, pushP, pushV, pushSS, pushD, pushT, pushF, pullD16, pushD16, RS_, FB_, segR, ST_, seval, ne_eq, bne, forall_const, implies_true, TY_, WLS]
      | (with_reducible refine drawK_id ?_); refine drawK_auto hmix (by kernel_rfl) ?_
      | (with_reducible refine draw_fin ?_ ?_); · kernel_rfl
      | (with_reducible refine draw_id ?_); kernel_rfl
      | (with_reducible refine And.intro ?_ ?_; · omega)
    refine loopK_wk (by kernel_rfl) (I_tk2 a c) a.ps.length ⟨_, _, Wk.gc [0, 1, 2, 3, 4, 5, 6, 7, 8, 9, 10, 13, 14, 15] rfl (by decide), 0, by omega, by omega, ?_, ?_, ?_, ?_, ?_, ?_, ?_, ?_⟩ ?_
    · simp [Function.comp_def, get_gcT, get, put, gcI, pullI, push1, pushI, pullS, pushS, gcH, patL, canL, canH, canTL, canT, segR, ix, upd, up1, mapC_rows, mapC_gone, pushC_rows, pushC_gone, pullP, pullV, pullSS, pullD, pullT, pullF, pushP, pushV, pushSS, pushD, pushT, pushF, pullD16, pushD16, prP, prV, prSS, prD, AHS, AHo, zS, rowA, cT, cF, pull_I, push_I, pull_PE, push_PE, cP_s, encPEs_pull, cB_s, sBs_pull, sBs_rep, g2, g3, g4, hcl, itA, stepN]
    · simp [Function.comp_def, get_gcT, get, put, gcI, pullI, push1, pushI, pullS, pushS, gcH, patL, canL, canH, canTL, canT, segR, ix, upd, up1, mapC_rows, mapC_gone, pushC_rows, pushC_gone, pullP, pullV, pullSS, pullD, pullT, pullF, pushP, pushV, pushSS, pushD, pushT, pushF, pullD16, pushD16, prP, prV, prSS, prD, AHS, AHo, zS, rowA, cT, cF, pull_I, push_I, pull_PE, push_PE, cP_s, encPEs_pull, cB_s, sBs_pull, sBs_rep, g2, g3, g4, hcl, itA, stepN]
    · simp [Function.comp_def, get_gcT, get, put, gcI, pullI, push1, pushI, pullS, pushS, gcH, patL, canL, canH, canTL, canT, segR, ix, upd, up1, mapC_rows, mapC_gone, pushC_rows, pushC_gone, pullP, pullV, pullSS, pullD, pullT, pullF, pushP, pushV, pushSS, pushD, pushT, pushF, pullD16, pushD16, prP, prV, prSS, prD, AHS, AHo, zS, rowA, cT, cF, pull_I, push_I, pull_PE, push_PE, cP_s, encPEs_pull, cB_s, sBs_pull, sBs_rep, g2, g3, g4, hcl, itA, stepN]
    · simp [Function.comp_def, get_gcT, get, put, gcI, pullI, push1, pushI, pullS, pushS, gcH, patL, canL, canH, canTL, canT, segR, ix, upd, up1, mapC_rows, mapC_gone, pushC_rows, pushC_gone, pullP, pullV, pullSS, pullD, pullT, pullF, pushP, pushV, pushSS, pushD, pushT, pushF, pullD16, pushD16, prP, prV, prSS, prD, AHS, AHo, zS, rowA, cT, cF, pull_I, push_I, pull_PE, push_PE, cP_s, encPEs_pull, cB_s, sBs_pull, sBs_rep, g2, g3, g4, hcl, itA, stepN]
    · simp [Function.comp_def, get_gcT, get, put, gcI, pullI, push1, pushI, pullS, pushS, gcH, patL, canL, canH, canTL, canT, segR, ix, upd, up1, mapC_rows, mapC_gone, pushC_rows, pushC_gone, pullP, pullV, pullSS, pullD, pullT, pullF, pushP, pushV, pushSS, pushD, pushT, pushF, pullD16, pushD16, prP, prV, prSS, prD, AHS, AHo, zS, rowA, cT, cF, pull_I, push_I, pull_PE, push_PE, cP_s, encPEs_pull, cB_s, sBs_pull, sBs_rep, g2, g3, g4, hcl, itA, stepN]
    · simp [Function.comp_def, get_gcT, get, put, gcI, pullI, push1, pushI, pullS, pushS, gcH, patL, canL, canH, canTL, canT, segR, ix, upd, up1, mapC_rows, mapC_gone, pushC_rows, pushC_gone, pullP, pullV, pullSS, pullD, pullT, pullF, pushP, pushV, pushSS, pushD, pushT, pushF, pullD16, pushD16, prP, prV, prSS, prD, AHS, AHo, zS, rowA, cT, cF, pull_I, push_I, pull_PE, push_PE, cP_s, encPEs_pull, cB_s, sBs_pull, sBs_rep, g2, g3, g4, hcl, itA, stepN]
    · simp [Function.comp_def, get_gcT, get, put, gcI, pullI, push1, pushI, pullS, pushS, gcH, patL, canL, canH, canTL, canT, segR, ix, upd, up1, mapC_rows, mapC_gone, pushC_rows, pushC_gone, pullP, pullV, pullSS, pullD, pullT, pullF, pushP, pushV, pushSS, pushD, pushT, pushF, pullD16, pushD16, prP, prV, prSS, prD, AHS, AHo, zS, rowA, cT, cF, pull_I, push_I, pull_PE, push_PE, cP_s, encPEs_pull, cB_s, sBs_pull, sBs_rep, g2, g3, g4, hcl, itA, stepN]
    · simp [Function.comp_def, get_gcT, get, put, gcI, pullI, push1, pushI, pullS, pushS, gcH, patL, canL, canH, canTL, canT, segR, ix, upd, up1, mapC_rows, mapC_gone, pushC_rows, pushC_gone, pullP, pullV, pullSS, pullD, pullT, pullF, pushP, pushV, pushSS, pushD, pushT, pushF, pullD16, pushD16, prP, prV, prSS, prD, AHS, AHo, zS, rowA, cT, cF, pull_I, push_I, pull_PE, push_PE, cP_s, encPEs_pull, cB_s, sBs_pull, sBs_rep, g2, g3, g4, hcl, itA, stepN]
    rintro m tm H ⟨i, rfl, hi, g2, g3, g4, g7, g57, g58, g59, rfl⟩
    have fr := itA_fr stI_fr c i
    have hNl := stepN_len a.ps.length c i
    by_cases hq : i < a.ps.length
    · have q : decide ((i : Int) < (a.ps.length : Int)) = true := decide_eq_true (by omega)
      have hb0 : (0 : Int) ≤ (i : Int) := by omega
      have hbN : (i : Int) < (a.ps.length : Int) := by omega
      have hi1 : IntKind.i64.wrap ((i : Int) + 1) = ((i + 1 : Nat) : Int) := by rw [wr_i64 (by omega) (by omega)]; rfl
      obtain ⟨p, hp⟩ : ∃ p, ((itA stI c i).ps)[i]? = some p := ⟨_, List.getElem?_eq_getElem (by rw [fr.len]; omega)⟩
      have hpr : (((itA stI c i).ps).map encPE)[i]? = some (encPE p) := by rw [List.getElem?_map, hp]; rfl
      have hnx := itA_next hp
      have hnN : stepN a.ps.length c (i + 1) = (stepN a.ps.length c i).set i (stepO p (itA stI c i).cf) := by simp only [stepN, hp]
      have hbl := fr.len
      rw [hcl] at hbl
      clear fr
      generalize itA stI c i = e at *
      generalize stepN a.ps.length c i = N at *
      have s1 := c_Step p e.cf
      obtain ⟨q1, hq1⟩ : ∃ x, stepP p e.cf = x := ⟨_, rfl⟩
      obtain ⟨o1, ho1⟩ : ∃ x, stepO p e.cf = x := ⟨_, rfl⟩
      rw [hq1, ho1] at s1
      rw [ho1] at hnN
      obtain ⟨n0, hn0⟩ : ∃ x, N[i]? = some x := ⟨_, List.getElem?_eq_getElem (by omega)⟩
      have hnr := sBs_get hn0
      have hbN' : (i : Int) < (e.ps.length : Int) := by omega
      have hps := encPEs_get hp
      have hcP := cP_s
      unfold AHS AHo
      repeat' first
        | with_reducible rfl
        | simp only [rowA, hcP, cB_s, sBs_len, hNl, hnr, encPEs_len, q, hb0, hbN, hbN', hbl, hi1, hps, encPE, g2, g3, g4, g7, g57, g58, g59, Int.toNat_natCast, RS_, FB_, segR, ST_, seval, ne_eq, bne, forall_const, implies_true, TY_, WLS]
        | (with_reducible refine drawK_id ?_); refine drawK_auto hmix (by kernel_rfl) ?_
        | (with_reducible refine draw_fin ?_ ?_); · kernel_rfl
        | (with_reducible refine draw_id ?_); kernel_rfl
        | (with_reducible refine callD_id (f := 33) ?_); refine callD_of (s1) rfl rfl ?_
        | (with_reducible refine And.intro ?_ ?_; · omega)
      refine ⟨a.ps.length - (i + 1), _, _, by omega, Wk.gc [0, 1, 2, 3, 4, 5, 6, 7, 8, 9, 10, 11, 12, 13] rfl (by decide), i + 1, rfl, by omega, ?_, ?_, ?_, ?_, ?_, ?_, ?_, ?_⟩ <;> first | (simp [Function.comp_def, get_gcT, get, put, gcI, pullI, push1, pushI, pullS, pushS, gcH, patL, canL, canH, canTL, canT, segR, ix, upd, up1, mapC_rows, mapC_gone, pushC_rows, pushC_gone, pullP, pullV, pullSS, pullD, pullT, pullF, pushP, pushV, pushSS, pushD, pushT, pushF, pullD16, pushD16, prP, prV, prSS, prD, AHS, AHo, zS, rowA, cT, cF, pull_I, push_I, pull_PE, push_PE, cP_s, encPEs_pull, cB_s, sBs_pull, sBs_rep, g2, g3, g4, g7, g57, g58, g59]; done) | (rw [hnx, hnN]; simp [Function.comp_def, get_gcT, get, put, gcI, pullI, push1, pushI, pullS, pushS, gcH, patL, canL, canH, canTL, canT, segR, ix, upd, up1, mapC_rows, mapC_gone, pushC_rows, pushC_gone, pullP, pullV, pullSS, pullD, pullT, pullF, pushP, pushV, pushSS, pushD, pushT, pushF, pullD16, pushD16, prP, prV, prSS, prD, AHS, AHo, zS, rowA, cT, cF, pull_I, push_I, pull_PE, push_PE, cP_s, encPEs_pull, cB_s, sBs_pull, sBs_rep, setPEs, sBs_set, stI, setA, hq1, hbl])
    · have q : decide ((i : Int) < (a.ps.length : Int)) = false := decide_eq_false (by omega)
      have hin : i = a.ps.length := by omega
      subst hin
      have hel := fr.len
      have hes := fr.sz
      rw [Nat.mul_zero] at hes
      have hmod : tick2 a.ps.length c = beatA (allA changedI (stepN a.ps.length c a.ps.length) (itA stI c a.ps.length) a.ps.length) := by unfold tick2; rw [hcl]
      rw [hmod]
      clear hmod fr
      generalize itA stI c a.ps.length = e at *
      generalize stepN a.ps.length c a.ps.length = W at *
      have frC := allA_fr (f := changedI) (n := e.ps.length) (fun b i h => h ▸ changedI_fr b i) W e rfl W.length
      have hcc := Nat.mul_le_mul (by omega : W.length ≤ 100) (by omega : e.ps.length ≤ 100)
      have hcC := c_allC W e (by omega) (by omega) (by omega)
      rw [hNl] at hcC frC hcc
      generalize allA changedI W e a.ps.length = f at *
      have hfl := frC.len
      have hfs := frC.sz
      have cb := c_beat f (by omega) (by omega)
      generalize beatA f = g at *
      have ce := c_end g
      have hcP := True.intro
      unfold AHS AHo
      repeat' first
        | with_reducible rfl
        | simp only [rowA, hcP, q, g2, g3, g4, g7, g57, g58, g59, RS_, FB_, segR, ST_, seval, ne_eq, bne, forall_const, implies_true, TY_, WLS]
        | (with_reducible refine drawK_id ?_); refine drawK_auto hmix (by kernel_rfl) ?_
        | (with_reducible refine draw_fin ?_ ?_); · kernel_rfl
        | (with_reducible refine draw_id ?_); kernel_rfl
        | ((with_reducible refine callK_id (f := 34) ?_); refine callK_funW [] [6, 7, 8, 9, 10, 11, 12, 13, 14] hcC (by simp [AHB, kC, pullHW, rowA, pullS, pullI, ix, pull_PE, pullB, pushB, mapC_clo, pushC_clo, mapC_rows, mapC_gone, pushC_rows, pushC_gone, pullP, pullV, pullSS, pullD, pullT, pullF, pushP, pushV, pushSS, pushD, pushT, pushF, pullD16, pushD16]) rfl rfl (by decide) (by simp [cP, cV, cS, cD, cT, cF, cB, kC]) (by simp [pullI, pullS, ix, hNl]) ?_; rintro r Hn ⟨rfl, rfl⟩ -; clear hcP)
        | ((with_reducible refine genK_id ?_); refine makeFunc_gen (by simp [rd, put, get, flat, isT]) rfl ?_)
        | (with_reducible refine And.intro ?_ ?_; · omega)
      have hcP := True.intro
      repeat' first
        | with_reducible rfl
        | simp only [AHB2, kC, rowA, mapC_rows, mapC_gone, pushC_rows, pushC_gone, pullP, pullV, pullSS, pullD, pullT, pullF, pushP, pushV, pushSS, pushD, pushT, pushF, pullD16, pushD16, pullB, pushB, mapC_clo, pushC_clo, hcP, g2, g3, g4, RS_, FB_, segR, ST_, seval, ne_eq, bne, forall_const, implies_true, TY_, WLS]
        | (with_reducible refine drawK_id ?_); refine drawK_auto hmix (by kernel_rfl) ?_
        | (with_reducible refine draw_fin ?_ ?_); · kernel_rfl
        | (with_reducible refine draw_id ?_); kernel_rfl
        | ((with_reducible refine callK_id (f := 36) ?_); refine callK_funW [] [6, 7, 8, 9, 10, 15, 16] (cb) (by simp [AH, Function.comp_def, pullHW, rowA, pullS, ix, pull_PE, encPEs_pull, mapC_rows, mapC_gone, pushC_rows, pushC_gone, pullP, pullV, pullSS, pullD, pullT, pullF, pushP, pushV, pushSS, pushD, pushT, pushF, pullD16, pushD16]) rfl rfl (by decide) (by simp [cP, cV, cS, cD, cT, cF]) (by simp [pullI, pullS, ix]) ?_; rintro r Hn ⟨rfl, rfl⟩ -; clear hcP)
        | (with_reducible refine And.intro ?_ ?_; · omega)
      have hcP := True.intro
      repeat' first
        | with_reducible rfl
        | simp only [AH2, rowA, hcP, g2, g3, g4, mapC_rows, mapC_gone, pushC_rows, pushC_gone, pullP, pullV, pullSS, pullD, pullT, pullF, pushP, pushV, pushSS, pushD, pushT, pushF, pullD16, pushD16, RS_, FB_, segR, ST_, seval, ne_eq, bne, forall_const, implies_true, TY_, WLS]
        | (with_reducible refine drawK_id ?_); refine drawK_auto hmix (by kernel_rfl) ?_
        | (with_reducible refine draw_fin ?_ ?_); · kernel_rfl
        | (with_reducible refine draw_id ?_); kernel_rfl
        | ((with_reducible refine callK_id (f := 28) ?_); refine callK_funW [] [6, 7, 8, 9, 10, 17, 18] (ce) (by simp [AH, Function.comp_def, pullHW, rowA, pullS, ix, pull_PE, encPEs_pull, mapC_rows, mapC_gone, pushC_rows, pushC_gone, pullP, pullV, pullSS, pullD, pullT, pullF, pushP, pushV, pushSS, pushD, pushT, pushF, pullD16, pushD16]) rfl rfl (by decide) (by simp [cP, cV, cS, cD, cT, cF]) (by simp [pullI, pullS, ix]) ?_; rintro r Hn ⟨rfl, rfl⟩ -; clear hcP)
        | (with_reducible refine And.intro ?_ ?_; · omega)
      repeat' first
        | with_reducible rfl
        | simp only [AH, zS, rowA, rowS, g2, g3, g4, mapC_rows, mapC_gone, pushC_rows, pushC_gone, pullP, pullV, pullSS, pullD, pullT, pullF, pushP, pushV, pushSS, pushD, pushT, pushF, pullD16, pushD16, RS_, FB_, segR, ST_, seval, ne_eq, bne, forall_const, implies_true, TY_, WLS]
        | (with_reducible refine drawK_id ?_); refine drawK_auto hmix (by kernel_rfl) ?_
        | (with_reducible refine draw_fin ?_ ?_); · kernel_rfl
        | (with_reducible refine draw_id ?_); kernel_rfl
        | (with_reducible refine And.intro ?_ ?_; · omega)
      all_goals (refine ⟨.t [.a (rowS 4 5 6 7 (g)), .a [.slice 8 0 (g).told.length, .slice 9 0 (g).fl.length]], [cP (g).ps, cV (g).vs, cS (g).ss, cD (g).ds, cT (g).told, cF (g).fl], (WkR.gc [0, 1, 2, 3, 7, 8, 9, 10, 17, 18] rfl (by decide)).to ?_ ?_, by simp, rfl, rfl⟩ <;> simp [Function.comp_def, get_gcT, get, put, gcI, pullI, push1, pushI, pullS, pushS, gcH, patL, canL, canH, canTL, canT, segR, ix, upd, up1, mapC_rows, mapC_gone, pushC_rows, pushC_gone, pullP, pullV, pullSS, pullD, pullT, pullF, pushP, pushV, pushSS, pushD, pushT, pushF, pullD16, pushD16, prP, prV, prSS, prD, rowS, pull_I, push_I, pull_PE, push_PE])
end Go.Ev
