/- A part of the proof: contracts of the functions that the statement reaches. -/
import Derived.Test.YtadikegdadnahaaT12
namespace Go.Ev
open Go.Proofs
set_option maxRecDepth 100000
set_option linter.unusedSimpArgs false
set_option linter.unusedVariables false
set_option maxHeartbeats 4000000
def noT (a : AS) : AS := { a with told := [], fl := [] }
def AHo (k : Nat) (a : AS) : Heap := [.rows true 27 [rowA (k + 1) (k + 2) (k + 3) (k + 4) (k + 5) (k + 6) a], cP a.ps, cV a.vs, cS a.ss, cD a.ds, cT a.told, cF a.fl]
theorem c_begin (a : AS) (h : OkS a) : FunW Try.prog 25 [rP a.ps, rV a.vs, rS a.ss, rD a.ds] [] [.a (rowS 0 1 2 3 a)] fun r Hn => r = .s (.ptr 4 0 0) ∧ Hn = AHo 4 (noT a) := by
  refine funW_of fun X => ?_
  refine callK_inline (rs := [.tmp 2]) (n := 7) Try.func25 rfl rfl rfl (by kernel_rfl) (by kernel_rfl) (by simp only [List.length_cons, List.length_nil]; decide) ?_
  have h1 := c_SClone a h
  have hcP := True.intro
  repeat' first
    | with_reducible rfl
    | simp only [rowS, hcP, mapC_rows, mapC_gone, pushC_rows, pushC_gone, pullP, pullV, pullSS, pullD, pullT, pullF, pushP, pushV, pushSS, pushD, pushT, pushF, pullD16, pushD16, RS_, FB_, segR, ST_, seval, ne_eq, bne, forall_const, implies_true, TY_, WLS]
    | (with_reducible refine drawK_id ?_); refine drawK_auto hmix (by kernel_rfl) ?_
    | (with_reducible refine draw_fin ?_ ?_); · kernel_rfl
    | (with_reducible refine draw_id ?_); kernel_rfl
    | ((with_reducible refine callK_id (f := 18) ?_); refine callK_funW [0, 1, 2, 3] [] h1 (by simp [pullHW, roC_rP, roC_rV, roC_rS, roC_rD]) rfl rfl (by decide) (by simp [rP, rV, rS, rD]) (by simp [pullI, pullS, ix, rowS]) ?_; rintro r Hn ⟨rfl, rfl⟩ -; clear hcP)
    | (with_reducible refine And.intro ?_ ?_; · omega)
  repeat' first
    | with_reducible rfl
    | simp only [rowS, mapC_rows, mapC_gone, pushC_rows, pushC_gone, pullP, pullV, pullSS, pullD, pullT, pullF, pushP, pushV, pushSS, pushD, pushT, pushF, pullD16, pushD16, RS_, FB_, segR, ST_, seval, ne_eq, bne, forall_const, implies_true, TY_, WLS]
    | (with_reducible refine drawK_id ?_); refine drawK_auto hmix (by kernel_rfl) ?_
    | (with_reducible refine draw_fin ?_ ?_); · kernel_rfl
    | (with_reducible refine draw_id ?_); kernel_rfl
    | (with_reducible refine And.intro ?_ ?_; · omega)
  refine ⟨.s (.ptr 4 0 0), AHo 4 (noT a), (WkR.can [(17, 9, 0, 25), (1, 9, 0, 26)] [.inl 0, .inl 1, .inl 2, .inl 3, .inl 9, .inl 5, .inl 6, .inl 7, .inl 8, .inr 0, .inr 1] rfl (by simp [patL])).to rfl ?_, by simp [AHo], rfl, rfl⟩
  simp [Function.comp_def, get_gcT, get, put, gcI, pullI, push1, pushI, pullS, pushS, gcH, patL, canL, canH, canTL, canT, segR, ix, upd, up1, mapC_rows, mapC_gone, pushC_rows, pushC_gone, pullP, pullV, pullSS, pullD, pullT, pullF, pushP, pushV, pushSS, pushD, pushT, pushF, pullD16, pushD16, prP, prV, prSS, prD, rowS, rowA, pull_I, push_I, pull_PE, push_PE, AHo, noT, cT, cF]
theorem c_end (a : AS) : FunW Try.prog 28 [] (AH a) [.s (.ptr 0 0 0)] fun r Hn => r = .t [.a (rowS 1 2 3 4 a), .a [.slice 5 0 a.told.length, .slice 6 0 a.fl.length]] ∧ Hn = AH a := by
  refine funW_of fun X => ?_
  refine callK_inline (rs := [.cell 2 42, .cell 3 47]) (n := 12) Try.func28 rfl rfl rfl (by kernel_rfl) (by kernel_rfl) (by simp only [List.length_cons, List.length_nil]; decide) ?_
  unfold AH
  repeat' first
    | with_reducible rfl
    | simp only [rowA, rowS, mapC_rows, mapC_gone, pushC_rows, pushC_gone, pullP, pullV, pullSS, pullD, pullT, pullF, pushP, pushV, pushSS, pushD, pushT, pushF, pullD16, pushD16, RS_, FB_, segR, ST_, seval, ne_eq, bne, forall_const, implies_true, TY_, WLS]
    | (with_reducible refine drawK_id ?_); refine drawK_auto hmix (by kernel_rfl) ?_
    | (with_reducible refine draw_fin ?_ ?_); · kernel_rfl
    | (with_reducible refine draw_id ?_); kernel_rfl
    | (with_reducible refine And.intro ?_ ?_; · omega)
  refine ⟨.t [.a (rowS 1 2 3 4 a), .a [.slice 5 0 a.told.length, .slice 6 0 a.fl.length]], AH a, (WkR.gc [0, 1, 2, 3, 4, 5, 6] rfl (by decide)).to ?_ ?_, by simp [AH], rfl, rfl⟩
  · simp [gcI, pullI, pullS, ix, rowS]
  · simp [Function.comp_def, get_gcT, get, put, gcI, pullI, push1, pushI, pullS, pushS, gcH, patL, canL, canH, canTL, canT, segR, ix, upd, up1, mapC_rows, mapC_gone, pushC_rows, pushC_gone, pullP, pullV, pullSS, pullD, pullT, pullF, pushP, pushV, pushSS, pushD, pushT, pushF, pullD16, pushD16, prP, prV, prSS, prD, rowS, rowA, pull_I, push_I, pull_PE, push_PE, AH]
def startI (b : AS) (i : Nat) (p : PE) : AS := setA b i (switchP (switchP p false p.ad b.cf) p.up p.ad b.cf)
theorem startI_fr (b : AS) (i : Nat) (p : PE) : FrA 0 b (startI b i p) := setA_fr _ _ _
def zeroB (a : AS) : AS := { a with beat := 0 }
def startA (a : AS) : AS := chooseA (itA startI (zeroB a) a.ps.length)
def PostS (a : AS) (r : IV) (Hn : Heap) : Prop := r = .t [.a (rowS 4 5 6 7 a), .a [.slice 8 0 a.told.length, .slice 9 0 a.fl.length]] ∧ Hn = [cP a.ps, cV a.vs, cS a.ss, cD a.ds, cT a.told, cF a.fl]
def zS : List SV := [.raw (.int .u64 0), .raw (.int .i64 0), .raw (.int .i64 0), .raw (.int .i64 0), .raw (.int .i64 0), .raw (.int .i64 0), .raw (.slice none 0 0), .raw (.slice none 0 0), .raw (.slice none 0 0), .raw (.slice none 0 0), .raw (.int .u32 0), .raw (.int .u32 0), .raw (.int .u32 0), .raw (.int .u32 0), .raw (.int .u32 0), .raw (.int .u32 0), .raw (.int .u32 0), .raw (.int .u32 0), .raw (.int .u32 0), .raw (.int .u32 0), .raw (.int .u32 0), .raw (.int .u32 0), .raw (.int .u32 0), .raw (.int .u32 0), .raw (.int .i64 0)]
def AHS (a b : AS) : Heap := [rP a.ps, rV a.vs, rS a.ss, rD a.ds, .rows true 25 [zS], .rows true 2 [[.raw (.slice none 0 0), .raw (.slice none 0 0)]]] ++ AHo 6 b
def I_st (a : AS) (m : Nat) (tm : TM) (H : Heap) : Prop := ∃ i : Nat, m = a.ps.length - i ∧ i ≤ a.ps.length ∧ get tm 2 = .s (.ptr 4 0 0) ∧ get tm 3 = .s (.ptr 5 0 0) ∧ get tm 4 = .s (.ptr 6 0 0) ∧ get tm 18 = .s (.slice 7 0 a.ps.length) ∧ get tm 19 = .s (.raw (.int .i64 a.ps.length)) ∧ get tm 20 = .s (.raw (.int .i64 (i : Int))) ∧ H = AHS a (itA startI (zeroB (noT a)) i)
theorem c_Start (a : AS) (h : OkS a) : FunW Try.prog 7 [rP a.ps, rV a.vs, rS a.ss, rD a.ds] [] [.a (rowS 0 1 2 3 a)] (PostS (startA (noT a))) := by
  refine funW_of fun X => ?_
  refine callK_inline (rs := [.cell 2 42, .cell 3 47]) (n := 59) Try.func7 rfl rfl rfl (by kernel_rfl) (by kernel_rfl) (by simp only [List.length_cons, List.length_nil]; decide) ?_
  obtain ⟨fin, hfin⟩ : ∃ x, startA (noT a) = x := ⟨_, rfl⟩
  rw [hfin]
  have hn := h.ps
  have h1 := c_begin a h
  have hcP := True.intro
  repeat' first
    | with_reducible rfl
    | simp only [rowS, hcP, mapC_rows, mapC_gone, pushC_rows, pushC_gone, pullP, pullV, pullSS, pullD, pullT, pullF, pushP, pushV, pushSS, pushD, pushT, pushF, pullD16, pushD16, RS_, FB_, segR, ST_, seval, ne_eq, bne, forall_const, implies_true, TY_, WLS]
    | (with_reducible refine drawK_id ?_); refine drawK_auto hmix (by kernel_rfl) ?_
    | (with_reducible refine draw_fin ?_ ?_); · kernel_rfl
    | (with_reducible refine draw_id ?_); kernel_rfl
    | ((with_reducible refine callK_id (f := 25) ?_); refine callK_funW [0, 1, 2, 3] [] h1 (by simp [pullHW, roC_rP, roC_rV, roC_rS, roC_rD]) rfl rfl (by decide) (by simp [rP, rV, rS, rD]) (by simp [pullI, pullS, ix, rowS]) ?_; rintro r Hn ⟨rfl, rfl⟩ -; clear hcP)
    | (with_reducible refine And.intro ?_ ?_; · omega)
  repeat' first
    | with_reducible rfl
    | simp only [rowS, AHo, rowA, noT, mapC_rows, mapC_gone, pushC_rows, pushC_gone, pullP, pullV, pullSS, pullD, pullT, pullF, pushP, pushV, pushSS, pushD, pushT, pushF, pullD16, pushD16, RS_, FB_, segR, ST_, seval, ne_eq, bne, forall_const, implies_true, TY_, WLS]
    | (with_reducible refine drawK_id ?_); refine drawK_auto hmix (by kernel_rfl) ?_
    | (with_reducible refine draw_fin ?_ ?_); · kernel_rfl
    | (with_reducible refine draw_id ?_); kernel_rfl
    | (with_reducible refine And.intro ?_ ?_; · omega)
  refine loopK_wk (by kernel_rfl) (I_st a) a.ps.length ⟨_, _, Wk.gc [0, 1, 2, 3, 5, 6, 7, 8, 9, 10, 11, 12, 13] rfl (by decide), 0, by omega, by omega, ?_, ?_, ?_, ?_, ?_, ?_, ?_⟩ ?_
  · simp [Function.comp_def, get_gcT, get, put, gcI, pullI, push1, pushI, pullS, pushS, gcH, patL, canL, canH, canTL, canT, segR, ix, upd, up1, mapC_rows, mapC_gone, pushC_rows, pushC_gone, pullP, pullV, pullSS, pullD, pullT, pullF, pushP, pushV, pushSS, pushD, pushT, pushF, pullD16, pushD16, prP, prV, prSS, prD, AHS, AHo, zS, rowA, cT, cF, pull_I, push_I, pull_PE, push_PE, itA, zeroB, noT]
  · simp [Function.comp_def, get_gcT, get, put, gcI, pullI, push1, pushI, pullS, pushS, gcH, patL, canL, canH, canTL, canT, segR, ix, upd, up1, mapC_rows, mapC_gone, pushC_rows, pushC_gone, pullP, pullV, pullSS, pullD, pullT, pullF, pushP, pushV, pushSS, pushD, pushT, pushF, pullD16, pushD16, prP, prV, prSS, prD, AHS, AHo, zS, rowA, cT, cF, pull_I, push_I, pull_PE, push_PE, itA, zeroB, noT]
  · simp [Function.comp_def, get_gcT, get, put, gcI, pullI, push1, pushI, pullS, pushS, gcH, patL, canL, canH, canTL, canT, segR, ix, upd, up1, mapC_rows, mapC_gone, pushC_rows, pushC_gone, pullP, pullV, pullSS, pullD, pullT, pullF, pushP, pushV, pushSS, pushD, pushT, pushF, pullD16, pushD16, prP, prV, prSS, prD, AHS, AHo, zS, rowA, cT, cF, pull_I, push_I, pull_PE, push_PE, itA, zeroB, noT]
  · simp [Function.comp_def, get_gcT, get, put, gcI, pullI, push1, pushI, pullS, pushS, gcH, patL, canL, canH, canTL, canT, segR, ix, upd, up1, mapC_rows, mapC_gone, pushC_rows, pushC_gone, pullP, pullV, pullSS, pullD, pullT, pullF, pushP, pushV, pushSS, pushD, pushT, pushF, pullD16, pushD16, prP, prV, prSS, prD, AHS, AHo, zS, rowA, cT, cF, pull_I, push_I, pull_PE, push_PE, itA, zeroB, noT]
  · simp [Function.comp_def, get_gcT, get, put, gcI, pullI, push1, pushI, pullS, pushS, gcH, patL, canL, canH, canTL, canT, segR, ix, upd, up1, mapC_rows, mapC_gone, pushC_rows, pushC_gone, pullP, pullV, pullSS, pullD, pullT, pullF, pushP, pushV, pushSS, pushD, pushT, pushF, pullD16, pushD16, prP, prV, prSS, prD, AHS, AHo, zS, rowA, cT, cF, pull_I, push_I, pull_PE, push_PE, itA, zeroB, noT]
  · simp [Function.comp_def, get_gcT, get, put, gcI, pullI, push1, pushI, pullS, pushS, gcH, patL, canL, canH, canTL, canT, segR, ix, upd, up1, mapC_rows, mapC_gone, pushC_rows, pushC_gone, pullP, pullV, pullSS, pullD, pullT, pullF, pushP, pushV, pushSS, pushD, pushT, pushF, pullD16, pushD16, prP, prV, prSS, prD, AHS, AHo, zS, rowA, cT, cF, pull_I, push_I, pull_PE, push_PE, itA, zeroB, noT]
  · simp [Function.comp_def, get_gcT, get, put, gcI, pullI, push1, pushI, pullS, pushS, gcH, patL, canL, canH, canTL, canT, segR, ix, upd, up1, mapC_rows, mapC_gone, pushC_rows, pushC_gone, pullP, pullV, pullSS, pullD, pullT, pullF, pushP, pushV, pushSS, pushD, pushT, pushF, pullD16, pushD16, prP, prV, prSS, prD, AHS, AHo, zS, rowA, cT, cF, pull_I, push_I, pull_PE, push_PE, itA, zeroB, noT]
  rintro m tm H ⟨i, rfl, hi, g2, g3, g4, g18, g19, g20, rfl⟩
  have fr := itA_fr startI_fr (zeroB (noT a)) i
  have hl0 : (zeroB (noT a)).ps.length = a.ps.length := rfl
  have hs0 : szA (zeroB (noT a)) = 0 := rfl
  by_cases hq : i < a.ps.length
  · have q : decide ((i : Int) < (a.ps.length : Int)) = true := decide_eq_true (by omega)
    have hb0 : (0 : Int) ≤ (i : Int) := by omega
    have hbN : (i : Int) < (a.ps.length : Int) := by omega
    have hi1 : IntKind.i64.wrap ((i : Int) + 1) = ((i + 1 : Nat) : Int) := by rw [wr_i64 (by omega) (by omega)]; rfl
    obtain ⟨p, hp⟩ : ∃ p, ((itA startI (zeroB (noT a)) i).ps)[i]? = some p := ⟨_, List.getElem?_eq_getElem (by rw [fr.len]; omega)⟩
    have hpr : (((itA startI (zeroB (noT a)) i).ps).map encPE)[i]? = some (encPE p) := by rw [List.getElem?_map, hp]; rfl
    have hnx := itA_next hp
    have hbl := fr.len
    rw [hl0] at hbl
    clear fr
    generalize itA startI (zeroB (noT a)) i = b at *
    have hbN' : (i : Int) < (b.ps.length : Int) := by omega
    have hps := encPEs_get hp
    have hcP := cP_s
    have s1 := c_Switch p false p.ad b.cf
    obtain ⟨q1, hq1⟩ : ∃ x, switchP p false p.ad b.cf = x := ⟨_, rfl⟩
    rw [hq1] at s1
    have s2 := c_Switch q1 p.up p.ad b.cf
    obtain ⟨q2, hq2⟩ : ∃ x, switchP q1 p.up p.ad b.cf = x := ⟨_, rfl⟩
    rw [hq2] at s2
    unfold AHS AHo
    repeat' first
      | with_reducible rfl
      | simp only [rowA, hcP, encPEs_len, q, hb0, hbN, hbN', hbl, hi1, hps, encPE, g2, g3, g4, g18, g19, g20, Int.toNat_natCast, RS_, FB_, segR, ST_, seval, ne_eq, bne, forall_const, implies_true, TY_, WLS]
      | (with_reducible refine drawK_id ?_); refine drawK_auto hmix (by kernel_rfl) ?_
      | (with_reducible refine draw_fin ?_ ?_); · kernel_rfl
      | (with_reducible refine draw_id ?_); kernel_rfl
      | ((with_reducible refine callD_id (f := 26) (args := [_, .s (.raw (.bool false)), _, _]) ?_); refine callD_of s1 rfl rfl ?_)
      | ((with_reducible refine callD_id (f := 26) ?_); refine callD_of s2 rfl rfl ?_)
      | (with_reducible refine And.intro ?_ ?_; · omega)
    refine ⟨a.ps.length - (i + 1), _, _, by omega, Wk.gc [0, 1, 2, 3, 4, 5, 6, 7, 8, 9, 10, 11, 12] rfl (by decide), i + 1, rfl, by omega, ?_, ?_, ?_, ?_, ?_, ?_, ?_⟩ <;> first | (simp [Function.comp_def, get_gcT, get, put, gcI, pullI, push1, pushI, pullS, pushS, gcH, patL, canL, canH, canTL, canT, segR, ix, upd, up1, mapC_rows, mapC_gone, pushC_rows, pushC_gone, pullP, pullV, pullSS, pullD, pullT, pullF, pushP, pushV, pushSS, pushD, pushT, pushF, pullD16, pushD16, prP, prV, prSS, prD, AHS, AHo, zS, rowA, cT, cF, pull_I, push_I, pull_PE, push_PE, g2, g3, g4, g18, g19, g20]; done) | (rw [hnx]; simp [Function.comp_def, get_gcT, get, put, gcI, pullI, push1, pushI, pullS, pushS, gcH, patL, canL, canH, canTL, canT, segR, ix, upd, up1, mapC_rows, mapC_gone, pushC_rows, pushC_gone, pullP, pullV, pullSS, pullD, pullT, pullF, pushP, pushV, pushSS, pushD, pushT, pushF, pullD16, pushD16, prP, prV, prSS, prD, AHS, AHo, zS, rowA, cT, cF, pull_I, push_I, pull_PE, push_PE, cP_s, setPEs, encPEs_pull, startI, setA, hq1, hq2, hbl])
  · have q : decide ((i : Int) < (a.ps.length : Int)) = false := decide_eq_false (by omega)
    have hin : i = a.ps.length := by omega
    subst hin
    have hbl := fr.len
    have hbs := fr.sz
    rw [hl0] at hbl
    rw [hs0] at hbs
    have hmod : fin = chooseA (itA startI (zeroB (noT a)) a.ps.length) := by rw [← hfin]; rfl
    rw [hmod]
    clear hmod hfin fr
    generalize itA startI (zeroB (noT a)) a.ps.length = b at *
    have cc := c_choose b (by omega) (by omega)
    have frc := chooseA_fr (n := 100) b (by omega)
    generalize chooseA b = c at *
    have ce := c_end c
    have hcl := frc.len
    unfold AHS AHo
    have hcP := True.intro
    repeat' first
      | with_reducible rfl
      | simp only [hcP, rowA, q, g2, g3, g4, g18, g19, g20, mapC_rows, mapC_gone, pushC_rows, pushC_gone, pullP, pullV, pullSS, pullD, pullT, pullF, pushP, pushV, pushSS, pushD, pushT, pushF, pullD16, pushD16, RS_, FB_, segR, ST_, seval, ne_eq, bne, forall_const, implies_true, TY_, WLS]
      | (with_reducible refine drawK_id ?_); refine drawK_auto hmix (by kernel_rfl) ?_
      | (with_reducible refine draw_fin ?_ ?_); · kernel_rfl
      | (with_reducible refine draw_id ?_); kernel_rfl
      | ((with_reducible refine callK_id (f := 27) ?_); refine callK_funW [] [6, 7, 8, 9, 10, 11, 12] (cc) (by simp [AH, Function.comp_def, pullHW, rowA, pullS, ix, pull_PE, mapC_rows, mapC_gone, pushC_rows, pushC_gone, pullP, pullV, pullSS, pullD, pullT, pullF, pushP, pushV, pushSS, pushD, pushT, pushF, pullD16, pushD16]) rfl rfl (by decide) (by simp [cP, cV, cS, cD, cT, cF]) (by simp [pullI, pullS, ix]) ?_; rintro r Hn ⟨rfl, rfl⟩ -; clear hcP)
      | (with_reducible refine And.intro ?_ ?_; · omega)
    have hcP := True.intro
    repeat' first
      | with_reducible rfl
      | simp only [hcP, AH2, rowA, g2, g3, g4, mapC_rows, mapC_gone, pushC_rows, pushC_gone, pullP, pullV, pullSS, pullD, pullT, pullF, pushP, pushV, pushSS, pushD, pushT, pushF, pullD16, pushD16, RS_, FB_, segR, ST_, seval, ne_eq, bne, forall_const, implies_true, TY_, WLS]
      | (with_reducible refine drawK_id ?_); refine drawK_auto hmix (by kernel_rfl) ?_
      | (with_reducible refine draw_fin ?_ ?_); · kernel_rfl
      | (with_reducible refine draw_id ?_); kernel_rfl
      | ((with_reducible refine callK_id (f := 28) ?_); refine callK_funW [] [6, 7, 8, 9, 10, 13, 14] (ce) (by simp [AH, Function.comp_def, pullHW, rowA, pullS, ix, pull_PE, mapC_rows, mapC_gone, pushC_rows, pushC_gone, pullP, pullV, pullSS, pullD, pullT, pullF, pushP, pushV, pushSS, pushD, pushT, pushF, pullD16, pushD16]) rfl rfl (by decide) (by simp [cP, cV, cS, cD, cT, cF]) (by simp [pullI, pullS, ix]) ?_; rintro r Hn ⟨rfl, rfl⟩ -; clear hcP)
      | (with_reducible refine And.intro ?_ ?_; · omega)
    repeat' first
      | with_reducible rfl
      | simp only [AH, zS, rowA, rowS, g2, g3, g4, mapC_rows, mapC_gone, pushC_rows, pushC_gone, pullP, pullV, pullSS, pullD, pullT, pullF, pushP, pushV, pushSS, pushD, pushT, pushF, pullD16, pushD16, RS_, FB_, segR, ST_, seval, ne_eq, bne, forall_const, implies_true, TY_, WLS]
      | (with_reducible refine drawK_id ?_); refine drawK_auto hmix (by kernel_rfl) ?_
      | (with_reducible refine draw_fin ?_ ?_); · kernel_rfl
      | (with_reducible refine draw_id ?_); kernel_rfl
      | (with_reducible refine And.intro ?_ ?_; · omega)
    all_goals (refine ⟨.t [.a (rowS 4 5 6 7 (c)), .a [.slice 8 0 (c).told.length, .slice 9 0 (c).fl.length]], [cP (c).ps, cV (c).vs, cS (c).ss, cD (c).ds, cT (c).told, cF (c).fl], (WkR.gc [0, 1, 2, 3, 7, 8, 9, 10, 13, 14] rfl (by decide)).to ?_ ?_, by simp, rfl, rfl⟩ <;> simp [Function.comp_def, get_gcT, get, put, gcI, pullI, push1, pushI, pullS, pushS, gcH, patL, canL, canH, canTL, canT, segR, ix, upd, up1, mapC_rows, mapC_gone, pushC_rows, pushC_gone, pullP, pullV, pullSS, pullD, pullT, pullF, pushP, pushV, pushSS, pushD, pushT, pushF, pullD16, pushD16, prP, prV, prSS, prD, rowS, pull_I, push_I, pull_PE, push_PE])
end Go.Ev
