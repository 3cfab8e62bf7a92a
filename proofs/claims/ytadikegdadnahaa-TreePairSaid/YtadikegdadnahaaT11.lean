/- A part of the proof: contracts of the functions that the statement reaches. -/
import Derived.Test.YtadikegdadnahaaT10
namespace Go.Ev
open Go.Proofs
set_option maxRecDepth 100000
set_option linter.unusedSimpArgs false
set_option linter.unusedVariables false
set_option maxHeartbeats 4000000
def rootD (p : PE) : PD := { pduV p.v with role := 2, top := true }
def beatI (b : AS) (i : Nat) (p : PE) : AS := if onP p then (if p.ro == 4 then tellA b i p else if p.ro == 3 then (if decide (0 < p.ch) then sendA b ((i : Int) + 1) (rootD p) else b) else b) else b
def beat0 (a : AS) : AS := { a with beat := IntKind.i64.wrap (a.beat - 1) }
def beat1 (a : AS) : AS := { a with beat := a.cf.he }
def beatA (a : AS) : AS := if decide (0 < IntKind.i64.wrap (a.beat - 1)) then beat0 a else itA beatI (beat1 a) a.ps.length
theorem beatI_fr (b : AS) (i : Nat) (p : PE) : FrA 1 b (beatI b i p) := by
  unfold beatI
  repeat' split
  · exact tellA_fr _ _ _
  · exact sendA_fr _ _ _
  all_goals exact (FrA.refl b).le (by omega)
theorem beatA_fr (a : AS) : FrA a.ps.length a (beatA a) := by
  unfold beatA
  split
  · exact ⟨rfl, rfl, by simp [beat0, szA]⟩
  · have h := itA_fr beatI_fr (beat1 a) a.ps.length
    exact ⟨h.len, h.cf, by have := h.sz; simp [beat1, szA] at this ⊢; omega⟩
def I_bt (a : AS) (m : Nat) (tm : TM) (H : Heap) : Prop := ∃ i : Nat, m = a.ps.length - i ∧ i ≤ a.ps.length ∧ get tm 0 = .s (.ptr 0 0 0) ∧ get tm 34 = .s (.slice 1 0 a.ps.length) ∧ get tm 35 = .s (.raw (.int .i64 a.ps.length)) ∧ get tm 36 = .s (.raw (.int .i64 (i : Int))) ∧ H = AH2 (itA beatI (beat1 a) i)
theorem c_beat (a : AS) (hn : a.ps.length ≤ 100) (hb : szA a ≤ 900000) : FunW Try.prog 36 [] (AH a) [.s (.ptr 0 0 0)] fun r Hn => r = .t [] ∧ Hn = AH2 (beatA a) := by
  refine funW_of fun X => ?_
  refine callK_inline (rs := []) (n := 72) Try.func36 rfl rfl rfl (by kernel_rfl) (by kernel_rfl) (by simp only [List.length_cons, List.length_nil]; decide) ?_
  unfold AH
  cases e0 : decide (0 < IntKind.i64.wrap (a.beat - 1)) with
  | true =>
    repeat' first
      | with_reducible rfl
      | simp only [rowA, e0, RS_, FB_, segR, ST_, seval, ne_eq, bne, forall_const, implies_true, TY_, WLS]
      | (with_reducible refine drawK_id ?_); refine drawK_auto hmix (by kernel_rfl) ?_
      | (with_reducible refine draw_fin ?_ ?_); · kernel_rfl
      | (with_reducible refine draw_id ?_); kernel_rfl
      | (with_reducible refine And.intro ?_ ?_; · omega)
    all_goals (refine ⟨.t [], AH2 (beatA a), (WkR.can [(17, 0, 0, 25), (1, 0, 0, 26)] [.inl 0, .inl 1, .inl 2, .inl 3, .inl 4, .inl 5, .inl 6, .inr 0, .inr 1] rfl (by simp [patL])).to rfl ?_, by simp [AH2], rfl, rfl⟩; simp [Function.comp_def, get_gcT, get, put, gcI, pullI, push1, pushI, pullS, pushS, gcH, patL, canL, canH, canTL, canT, segR, ix, upd, up1, mapC_rows, mapC_gone, pushC_rows, pushC_gone, pullP, pullV, pullSS, pullD, pullT, pullF, pushP, pushV, pushSS, pushD, pushT, pushF, pullD16, pushD16, AH2, rowA, cT, cF, pull_I, push_I, pull_PE, push_PE, beatA, e0, beat0])
  | false =>
    have hmod : beatA a = itA beatI (beat1 a) a.ps.length := by simp only [beatA, e0, Bool.false_eq_true, if_false]
    rw [hmod]
    clear hmod
    repeat' first
      | with_reducible rfl
      | simp only [rowA, e0, RS_, FB_, segR, ST_, seval, ne_eq, bne, forall_const, implies_true, TY_, WLS]
      | (with_reducible refine drawK_id ?_); refine drawK_auto hmix (by kernel_rfl) ?_
      | (with_reducible refine draw_fin ?_ ?_); · kernel_rfl
      | (with_reducible refine draw_id ?_); kernel_rfl
      | (with_reducible refine And.intro ?_ ?_; · omega)
    refine loopK_wk (by kernel_rfl) (I_bt a) a.ps.length ⟨_, _, Wk.can [(17, 0, 0, 25), (1, 0, 0, 26)] [.inl 0, .inl 1, .inl 2, .inl 3, .inl 4, .inl 5, .inl 6, .inr 0, .inr 1] rfl (by simp [patL]), 0, by omega, by omega, ?_, ?_, ?_, ?_, ?_⟩ ?_
    · simp [Function.comp_def, get_gcT, get, put, gcI, pullI, push1, pushI, pullS, pushS, gcH, patL, canL, canH, canTL, canT, segR, ix, upd, up1, mapC_rows, mapC_gone, pushC_rows, pushC_gone, pullP, pullV, pullSS, pullD, pullT, pullF, pushP, pushV, pushSS, pushD, pushT, pushF, pullD16, pushD16, AH2, rowA, cT, cF, pull_I, push_I, pull_PE, push_PE, itA, beat1]
    · simp [Function.comp_def, get_gcT, get, put, gcI, pullI, push1, pushI, pullS, pushS, gcH, patL, canL, canH, canTL, canT, segR, ix, upd, up1, mapC_rows, mapC_gone, pushC_rows, pushC_gone, pullP, pullV, pullSS, pullD, pullT, pullF, pushP, pushV, pushSS, pushD, pushT, pushF, pullD16, pushD16, AH2, rowA, cT, cF, pull_I, push_I, pull_PE, push_PE, itA, beat1]
    · simp [Function.comp_def, get_gcT, get, put, gcI, pullI, push1, pushI, pullS, pushS, gcH, patL, canL, canH, canTL, canT, segR, ix, upd, up1, mapC_rows, mapC_gone, pushC_rows, pushC_gone, pullP, pullV, pullSS, pullD, pullT, pullF, pushP, pushV, pushSS, pushD, pushT, pushF, pullD16, pushD16, AH2, rowA, cT, cF, pull_I, push_I, pull_PE, push_PE, itA, beat1]
    · simp [Function.comp_def, get_gcT, get, put, gcI, pullI, push1, pushI, pullS, pushS, gcH, patL, canL, canH, canTL, canT, segR, ix, upd, up1, mapC_rows, mapC_gone, pushC_rows, pushC_gone, pullP, pullV, pullSS, pullD, pullT, pullF, pushP, pushV, pushSS, pushD, pushT, pushF, pullD16, pushD16, AH2, rowA, cT, cF, pull_I, push_I, pull_PE, push_PE, itA, beat1]
    · simp [Function.comp_def, get_gcT, get, put, gcI, pullI, push1, pushI, pullS, pushS, gcH, patL, canL, canH, canTL, canT, segR, ix, upd, up1, mapC_rows, mapC_gone, pushC_rows, pushC_gone, pullP, pullV, pullSS, pullD, pullT, pullF, pushP, pushV, pushSS, pushD, pushT, pushF, pullD16, pushD16, AH2, rowA, cT, cF, pull_I, push_I, pull_PE, push_PE, itA, beat1]
    rintro m tm H ⟨i, rfl, hi, g0, g34, g35, g36, rfl⟩
    have fr := itA_fr beatI_fr (beat1 a) i
    have hb1 : (beat1 a).ps.length = a.ps.length := rfl
    have hb2 : szA (beat1 a) = szA a := rfl
    by_cases hq : i < a.ps.length
    · have q : decide ((i : Int) < (a.ps.length : Int)) = true := decide_eq_true (by omega)
      have hb0 : (0 : Int) ≤ (i : Int) := by omega
      have hbN : (i : Int) < (a.ps.length : Int) := by omega
      have hi1 : IntKind.i64.wrap ((i : Int) + 1) = ((i + 1 : Nat) : Int) := by rw [wr_i64 (by omega) (by omega)]; rfl
      obtain ⟨p, hp⟩ : ∃ p, ((itA beatI (beat1 a) i).ps)[i]? = some p := ⟨_, List.getElem?_eq_getElem (by rw [fr.len]; omega)⟩
      have hpr : (((itA beatI (beat1 a) i).ps).map encPE)[i]? = some (encPE p) := by rw [List.getElem?_map, hp]; rfl
      have hnx := itA_next hp
      have hbl := fr.len
      rw [hb1] at hbl
      have hbs := fr.sz
      clear fr
      generalize itA beatI (beat1 a) i = b at *
      have hbN' : (i : Int) < (b.ps.length : Int) := by omega
      have hi2 : IntKind.i64.wrap ((i : Int) + 1) = (i : Int) + 1 := wr_i64 (by omega) (by omega)
      have ct := c_tell b i p (by omega) hp (by have := szA_t b; omega)
      have cs := c_send b ((i : Int) + 1) (rootD p) (by have := szA_t b; omega)
      have hps := encPEs_get hp
      have hcP := cP_s
      unfold AH2
      cases e1 : onP p with
      | false =>
        repeat' first
          | with_reducible rfl
          | simp only [rowA, hcP, encPEs_len, q, hb0, hbN, hbN', hbl, hi2, hps, encPE, encPD, pduV, g0, g34, g35, g36, Int.toNat_natCast, e1, RS_, FB_, segR, ST_, seval, ne_eq, bne, forall_const, implies_true, TY_, WLS]
          | (with_reducible refine drawK_id ?_); refine drawK_auto hmix (by kernel_rfl) ?_
          | (with_reducible refine draw_fin ?_ ?_); · kernel_rfl
          | (with_reducible refine draw_id ?_); kernel_rfl
          | (with_reducible refine callK_id (f := 14) ?_); refine callK_fun (c_On p) rfl rfl ?_
          | (with_reducible refine callK_id (f := 62) ?_); refine callK_fun (c_pdu') rfl rfl ?_
          | (with_reducible refine And.intro ?_ ?_; · omega)
        refine ⟨a.ps.length - (i + 1), _, _, by omega, Wk.can [(17, 0, 0, 25), (1, 0, 0, 26)] [.inl 0, .inl 1, .inl 2, .inl 3, .inl 4, .inl 5, .inl 6, .inr 0, .inr 1] rfl (by simp [patL]), i + 1, rfl, by omega, ?_, ?_, ?_, ?_, ?_⟩ <;> first | (simp [Function.comp_def, get_gcT, get, put, gcI, pullI, push1, pushI, pullS, pushS, gcH, patL, canL, canH, canTL, canT, segR, ix, upd, up1, mapC_rows, mapC_gone, pushC_rows, pushC_gone, pullP, pullV, pullSS, pullD, pullT, pullF, pushP, pushV, pushSS, pushD, pushT, pushF, pullD16, pushD16, AH2, rowA, cP_s, encPEs_pull, encPEs_push, cT, cF, pull_I, push_I, pull_PE, push_PE, g0, g34, g35, g36, hi1]; done) | (rw [hnx]; simp [Function.comp_def, get_gcT, get, put, gcI, pullI, push1, pushI, pullS, pushS, gcH, patL, canL, canH, canTL, canT, segR, ix, upd, up1, mapC_rows, mapC_gone, pushC_rows, pushC_gone, pullP, pullV, pullSS, pullD, pullT, pullF, pushP, pushV, pushSS, pushD, pushT, pushF, pullD16, pushD16, AH2, rowA, cP_s, encPEs_pull, encPEs_push, cT, cF, pull_I, push_I, pull_PE, push_PE, beatI, hbl, e1])
      | true =>
        cases e2 : (p.ro == 4) with
        | true =>
          repeat' first
            | with_reducible rfl
            | simp only [rowA, hcP, encPEs_len, q, hb0, hbN, hbN', hbl, hi2, hps, encPE, encPD, pduV, g0, g34, g35, g36, Int.toNat_natCast, e1, e2, RS_, FB_, segR, ST_, seval, ne_eq, bne, forall_const, implies_true, TY_, WLS]
            | (with_reducible refine drawK_id ?_); refine drawK_auto hmix (by kernel_rfl) ?_
            | (with_reducible refine draw_fin ?_ ?_); · kernel_rfl
            | (with_reducible refine draw_id ?_); kernel_rfl
            | (with_reducible refine callK_id (f := 14) ?_); refine callK_fun (c_On p) rfl rfl ?_
            | (with_reducible refine callK_id (f := 62) ?_); refine callK_fun (c_pdu') rfl rfl ?_
            | ((with_reducible refine callK_id (f := 58) ?_); refine callK_funW [] [0, 1, 2, 3, 4, 7, 8] (ct) (by simp [AH, Function.comp_def, pullHW, rowA, pullS, ix, pull_PE, mapC_rows, mapC_gone, pushC_rows, pushC_gone, pullP, pullV, pullSS, pullD, pullT, pullF, pushP, pushV, pushSS, pushD, pushT, pushF, pullD16, pushD16, cP_s, encPEs_pull, hbl]) rfl rfl (by decide) (by simp [cP, cV, cS, cD, cT, cF]) (by simp [pullI, pullS, ix]) ?_; rintro r Hn ⟨rfl, rfl⟩ -; clear hcP)
            | (with_reducible refine And.intro ?_ ?_; · omega)
          repeat' first
            | with_reducible rfl
            | simp only [AH2, rowA, hi1, g36, mapC_rows, mapC_gone, pushC_rows, pushC_gone, pullP, pullV, pullSS, pullD, pullT, pullF, pushP, pushV, pushSS, pushD, pushT, pushF, pullD16, pushD16, pull_I, push_I, RS_, FB_, segR, ST_, seval, ne_eq, bne, forall_const, implies_true, TY_, WLS]
            | (with_reducible refine drawK_id ?_); refine drawK_auto hmix (by kernel_rfl) ?_
            | (with_reducible refine draw_fin ?_ ?_); · kernel_rfl
            | (with_reducible refine draw_id ?_); kernel_rfl
            | (with_reducible refine And.intro ?_ ?_; · omega)
          refine ⟨a.ps.length - (i + 1), _, _, by omega, Wk.can [(17, 0, 0, 25), (1, 0, 0, 26)] [.inl 0, .inl 1, .inl 2, .inl 3, .inl 4, .inl 5, .inl 6, .inr 0, .inr 1] rfl (by simp [patL]), i + 1, rfl, by omega, ?_, ?_, ?_, ?_, ?_⟩ <;> first | (simp [Function.comp_def, get_gcT, get, put, gcI, pullI, push1, pushI, pullS, pushS, gcH, patL, canL, canH, canTL, canT, segR, ix, upd, up1, mapC_rows, mapC_gone, pushC_rows, pushC_gone, pullP, pullV, pullSS, pullD, pullT, pullF, pushP, pushV, pushSS, pushD, pushT, pushF, pullD16, pushD16, AH2, rowA, cP_s, encPEs_pull, encPEs_push, cT, cF, pull_I, push_I, pull_PE, push_PE, g0, g34, g35, g36, hi1]; done) | (rw [hnx]; simp [Function.comp_def, get_gcT, get, put, gcI, pullI, push1, pushI, pullS, pushS, gcH, patL, canL, canH, canTL, canT, segR, ix, upd, up1, mapC_rows, mapC_gone, pushC_rows, pushC_gone, pullP, pullV, pullSS, pullD, pullT, pullF, pushP, pushV, pushSS, pushD, pushT, pushF, pullD16, pushD16, AH2, rowA, cP_s, encPEs_pull, encPEs_push, cT, cF, pull_I, push_I, pull_PE, push_PE, beatI, hbl, e1, e2])
        | false =>
          cases e3 : (p.ro == 3) with
          | false =>
            repeat' first
              | with_reducible rfl
              | simp only [rowA, hcP, encPEs_len, q, hb0, hbN, hbN', hbl, hi2, hps, encPE, encPD, pduV, g0, g34, g35, g36, Int.toNat_natCast, e1, e2, e3, RS_, FB_, segR, ST_, seval, ne_eq, bne, forall_const, implies_true, TY_, WLS]
              | (with_reducible refine drawK_id ?_); refine drawK_auto hmix (by kernel_rfl) ?_
              | (with_reducible refine draw_fin ?_ ?_); · kernel_rfl
              | (with_reducible refine draw_id ?_); kernel_rfl
              | (with_reducible refine callK_id (f := 14) ?_); refine callK_fun (c_On p) rfl rfl ?_
              | (with_reducible refine callK_id (f := 62) ?_); refine callK_fun (c_pdu') rfl rfl ?_
              | (with_reducible refine And.intro ?_ ?_; · omega)
            refine ⟨a.ps.length - (i + 1), _, _, by omega, Wk.can [(17, 0, 0, 25), (1, 0, 0, 26)] [.inl 0, .inl 1, .inl 2, .inl 3, .inl 4, .inl 5, .inl 6, .inr 0, .inr 1] rfl (by simp [patL]), i + 1, rfl, by omega, ?_, ?_, ?_, ?_, ?_⟩ <;> first | (simp [Function.comp_def, get_gcT, get, put, gcI, pullI, push1, pushI, pullS, pushS, gcH, patL, canL, canH, canTL, canT, segR, ix, upd, up1, mapC_rows, mapC_gone, pushC_rows, pushC_gone, pullP, pullV, pullSS, pullD, pullT, pullF, pushP, pushV, pushSS, pushD, pushT, pushF, pullD16, pushD16, AH2, rowA, cP_s, encPEs_pull, encPEs_push, cT, cF, pull_I, push_I, pull_PE, push_PE, g0, g34, g35, g36, hi1]; done) | (rw [hnx]; simp [Function.comp_def, get_gcT, get, put, gcI, pullI, push1, pushI, pullS, pushS, gcH, patL, canL, canH, canTL, canT, segR, ix, upd, up1, mapC_rows, mapC_gone, pushC_rows, pushC_gone, pullP, pullV, pullSS, pullD, pullT, pullF, pushP, pushV, pushSS, pushD, pushT, pushF, pullD16, pushD16, AH2, rowA, cP_s, encPEs_pull, encPEs_push, cT, cF, pull_I, push_I, pull_PE, push_PE, beatI, hbl, e1, e2, e3])
          | true =>
            cases e4 : decide (0 < p.ch) with
            | false =>
              repeat' first
                | with_reducible rfl
                | simp only [rowA, hcP, encPEs_len, q, hb0, hbN, hbN', hbl, hi2, hps, encPE, encPD, pduV, g0, g34, g35, g36, Int.toNat_natCast, e1, e2, e3, e4, RS_, FB_, segR, ST_, seval, ne_eq, bne, forall_const, implies_true, TY_, WLS]
                | (with_reducible refine drawK_id ?_); refine drawK_auto hmix (by kernel_rfl) ?_
                | (with_reducible refine draw_fin ?_ ?_); · kernel_rfl
                | (with_reducible refine draw_id ?_); kernel_rfl
                | (with_reducible refine callK_id (f := 14) ?_); refine callK_fun (c_On p) rfl rfl ?_
                | (with_reducible refine callK_id (f := 62) ?_); refine callK_fun (c_pdu') rfl rfl ?_
                | (with_reducible refine And.intro ?_ ?_; · omega)
              refine ⟨a.ps.length - (i + 1), _, _, by omega, Wk.can [(17, 0, 0, 25), (1, 0, 0, 26)] [.inl 0, .inl 1, .inl 2, .inl 3, .inl 4, .inl 5, .inl 6, .inr 0, .inr 1] rfl (by simp [patL]), i + 1, rfl, by omega, ?_, ?_, ?_, ?_, ?_⟩ <;> first | (simp [Function.comp_def, get_gcT, get, put, gcI, pullI, push1, pushI, pullS, pushS, gcH, patL, canL, canH, canTL, canT, segR, ix, upd, up1, mapC_rows, mapC_gone, pushC_rows, pushC_gone, pullP, pullV, pullSS, pullD, pullT, pullF, pushP, pushV, pushSS, pushD, pushT, pushF, pullD16, pushD16, AH2, rowA, cP_s, encPEs_pull, encPEs_push, cT, cF, pull_I, push_I, pull_PE, push_PE, g0, g34, g35, g36, hi1]; done) | (rw [hnx]; simp [Function.comp_def, get_gcT, get, put, gcI, pullI, push1, pushI, pullS, pushS, gcH, patL, canL, canH, canTL, canT, segR, ix, upd, up1, mapC_rows, mapC_gone, pushC_rows, pushC_gone, pullP, pullV, pullSS, pullD, pullT, pullF, pushP, pushV, pushSS, pushD, pushT, pushF, pullD16, pushD16, AH2, rowA, cP_s, encPEs_pull, encPEs_push, cT, cF, pull_I, push_I, pull_PE, push_PE, beatI, hbl, e1, e2, e3, e4])
            | true =>
              repeat' first
                | with_reducible rfl
                | simp only [rowA, hcP, encPEs_len, q, hb0, hbN, hbN', hbl, hi2, hps, encPE, encPD, pduV, g0, g34, g35, g36, Int.toNat_natCast, e1, e2, e3, e4, RS_, FB_, segR, ST_, seval, ne_eq, bne, forall_const, implies_true, TY_, WLS]
                | (with_reducible refine drawK_id ?_); refine drawK_auto hmix (by kernel_rfl) ?_
                | (with_reducible refine draw_fin ?_ ?_); · kernel_rfl
                | (with_reducible refine draw_id ?_); kernel_rfl
                | (with_reducible refine callK_id (f := 14) ?_); refine callK_fun (c_On p) rfl rfl ?_
                | (with_reducible refine callK_id (f := 62) ?_); refine callK_fun (c_pdu') rfl rfl ?_
                | ((with_reducible refine callK_id (f := 63) ?_); refine callK_funW [] [0, 1, 2, 3, 4, 7, 8] (cs) (by simp [AH, Function.comp_def, pullHW, rowA, pullS, ix, pull_PE, mapC_rows, mapC_gone, pushC_rows, pushC_gone, pullP, pullV, pullSS, pullD, pullT, pullF, pushP, pushV, pushSS, pushD, pushT, pushF, pullD16, pushD16, cP_s, encPEs_pull, hbl]) rfl rfl (by decide) (by simp [cP, cV, cS, cD, cT, cF]) (by simp [pullI, pullS, ix, encPD, rootD, pduV]) ?_; rintro r Hn ⟨rfl, rfl⟩ -; clear hcP)
                | (with_reducible refine And.intro ?_ ?_; · omega)
              repeat' first
                | with_reducible rfl
                | simp only [AH2, rowA, hi1, g36, mapC_rows, mapC_gone, pushC_rows, pushC_gone, pullP, pullV, pullSS, pullD, pullT, pullF, pushP, pushV, pushSS, pushD, pushT, pushF, pullD16, pushD16, pull_I, push_I, RS_, FB_, segR, ST_, seval, ne_eq, bne, forall_const, implies_true, TY_, WLS]
                | (with_reducible refine drawK_id ?_); refine drawK_auto hmix (by kernel_rfl) ?_
                | (with_reducible refine draw_fin ?_ ?_); · kernel_rfl
                | (with_reducible refine draw_id ?_); kernel_rfl
                | (with_reducible refine And.intro ?_ ?_; · omega)
              refine ⟨a.ps.length - (i + 1), _, _, by omega, Wk.can [(17, 0, 0, 25), (1, 0, 0, 26)] [.inl 0, .inl 1, .inl 2, .inl 3, .inl 4, .inl 5, .inl 6, .inr 0, .inr 1] rfl (by simp [patL]), i + 1, rfl, by omega, ?_, ?_, ?_, ?_, ?_⟩ <;> first | (simp [Function.comp_def, get_gcT, get, put, gcI, pullI, push1, pushI, pullS, pushS, gcH, patL, canL, canH, canTL, canT, segR, ix, upd, up1, mapC_rows, mapC_gone, pushC_rows, pushC_gone, pullP, pullV, pullSS, pullD, pullT, pullF, pushP, pushV, pushSS, pushD, pushT, pushF, pullD16, pushD16, AH2, rowA, cP_s, encPEs_pull, encPEs_push, cT, cF, pull_I, push_I, pull_PE, push_PE, g0, g34, g35, g36, hi1]; done) | (rw [hnx]; simp [Function.comp_def, get_gcT, get, put, gcI, pullI, push1, pushI, pullS, pushS, gcH, patL, canL, canH, canTL, canT, segR, ix, upd, up1, mapC_rows, mapC_gone, pushC_rows, pushC_gone, pullP, pullV, pullSS, pullD, pullT, pullF, pushP, pushV, pushSS, pushD, pushT, pushF, pullD16, pushD16, AH2, rowA, cP_s, encPEs_pull, encPEs_push, cT, cF, pull_I, push_I, pull_PE, push_PE, beatI, hbl, e1, e2, e3, e4])
    · have q : decide ((i : Int) < (a.ps.length : Int)) = false := decide_eq_false (by omega)
      have hin : i = a.ps.length := by omega
      subst hin
      unfold AH2
      repeat' first
        | with_reducible rfl
        | simp only [q, g0, g34, g35, g36, rowA, RS_, FB_, segR, ST_, seval, ne_eq, bne, forall_const, implies_true, TY_, WLS]
        | with_reducible refine gdb_split (fun h => ?_) (fun h => ?_)
        | (with_reducible refine drawK_id ?_); refine drawK_auto hmix (by kernel_rfl) ?_
        | (with_reducible refine draw_fin ?_ ?_); · kernel_rfl
        | (with_reducible refine draw_id ?_); kernel_rfl
        | (with_reducible refine And.intro ?_ ?_; · omega)
      all_goals (refine ⟨.t [], AH2 (itA beatI (beat1 a) a.ps.length), (WkR.can [(17, 0, 0, 25), (1, 0, 0, 26)] [.inl 0, .inl 1, .inl 2, .inl 3, .inl 4, .inl 5, .inl 6, .inr 0, .inr 1] rfl (by simp [patL])).to rfl ?_, by simp [AH2], rfl, rfl⟩; simp [Function.comp_def, get_gcT, get, put, gcI, pullI, push1, pushI, pullS, pushS, gcH, patL, canL, canH, canTL, canT, segR, ix, upd, up1, mapC_rows, mapC_gone, pushC_rows, pushC_gone, pullP, pullV, pullSS, pullD, pullT, pullF, pushP, pushV, pushSS, pushD, pushT, pushF, pullD16, pushD16, AH2, rowA, cT, cF, pull_I, push_I, pull_PE, push_PE, ])
end Go.Ev
