/- A part of the proof: contracts of the functions that the statement reaches. -/
import Derived.Test.YtadikegdadnahaaT14
namespace Go.Ev
open Go.Proofs
set_option maxRecDepth 100000
set_option linter.unusedSimpArgs false
set_option linter.unusedVariables false
set_option maxHeartbeats 4000000
def unplain (p : PE) : PE := { p with pl := false }
def hear2 (a2 : AS) (i : Nat) (d : PD) : AS := if d.kind == 128 then a2 else match a2.ps[i]? with
  | some p2 => if (if d.kind == 2 then (if d.role == 2 then true else d.role == 1) else false) then replyA a2 i p2 d else newsA a2 i p2 d
  | none => a2
def hear1 (a : AS) (i : Nat) (p : PE) (d : PD) : AS := if (if d.kind == 128 then true else d.top) then sprA (setA a i (unplain p)) (i : Int) false else setA a i (unplain p)
def hearT (a : AS) (port : Int) (d : PD) : AS :=
  if decide (port < 1) then a else if decide ((a.ps.length : Int) ≤ port - 1) then a else match a.ps[(port - 1).toNat]? with
    | some p => if onP p then hear2 (hear1 a (port - 1).toNat p d) (port - 1).toNat d else a
    | none => a
theorem hear1_fr (a : AS) (i : Nat) (p : PE) (d : PD) : FrA a.ps.length a (hear1 a i p d) := by
  have h := setA_fr a i (unplain p)
  have h2 := h.trans (sprA_fr (setA a i (unplain p)) (i : Int) false)
  rw [h.len, Nat.zero_add] at h2
  unfold hear1
  repeat' split
  all_goals first | exact h2 | exact h.le (by omega)
theorem c_HearT (a : AS) (h : OkS a) (port : Int) (hp0 : -1000000 ≤ port ∧ port ≤ 1000000) (d : PD) (hage : 0 ≤ d.age ∧ d.age ≤ 65535) : FunW Try.prog 10 [rP a.ps, rV a.vs, rS a.ss, rD a.ds] [] [.a (rowS 0 1 2 3 a), .s (.raw (.int .i64 port)), .a (encPD d)] (PostS (hearT (noT a) port d)) := by
  refine funW_of fun X => ?_
  refine callK_inline (rs := [.cell 6 42, .cell 7 47]) (n := 90) Try.func10 rfl rfl rfl (by kernel_rfl) (by kernel_rfl) (by simp only [List.length_cons, List.length_nil]; decide) ?_
  obtain ⟨b, hb⟩ : ∃ b, noT a = b := ⟨_, rfl⟩
  have hps : b.ps = a.ps := by rw [← hb]; rfl
  have hsz : szA b = 0 := by rw [← hb]; rfl
  have hn := h.ps
  have h1 := c_begin a h
  rw [hb] at h1 ⊢
  have ce := c_end b
  have hcP := True.intro
  have hw : IntKind.i64.wrap (port - 1) = port - 1 := wr_i64 (by omega) (by omega)
  repeat' first
    | with_reducible rfl
    | simp only [rowS, encPD, hcP, mapC_rows, mapC_gone, pushC_rows, pushC_gone, pullP, pullV, pullSS, pullD, pullT, pullF, pushP, pushV, pushSS, pushD, pushT, pushF, pullD16, pushD16, RS_, FB_, segR, ST_, seval, ne_eq, bne, forall_const, implies_true, TY_, WLS]
    | (with_reducible refine drawK_id ?_); refine drawK_auto hmix (by kernel_rfl) ?_
    | (with_reducible refine draw_fin ?_ ?_); · kernel_rfl
    | (with_reducible refine draw_id ?_); kernel_rfl
    | ((with_reducible refine callK_id (f := 25) ?_); refine callK_funW [0, 1, 2, 3] [] h1 (by simp [pullHW, roC_rP, roC_rV, roC_rS, roC_rD]) rfl rfl (by decide) (by simp [rP, rV, rS, rD]) (by simp [pullI, pullS, ix, rowS]) ?_; rintro r Hn ⟨rfl, rfl⟩ -; clear hcP)
    | (with_reducible refine And.intro ?_ ?_; · omega)
  cases e1 : decide (port < 1) with
  | true =>
    have hmod : hearT b port d = b := by simp only [hearT, e1, if_true]
    have hcP := True.intro
    repeat' first
      | with_reducible rfl
      | simp only [hcP, AHo, rowA, rowS, hw, mapC_rows, mapC_gone, pushC_rows, pushC_gone, pullP, pullV, pullSS, pullD, pullT, pullF, pushP, pushV, pushSS, pushD, pushT, pushF, pullD16, pushD16, e1, RS_, FB_, segR, ST_, seval, ne_eq, bne, forall_const, implies_true, TY_, WLS]
      | (with_reducible refine drawK_id ?_); refine drawK_auto hmix (by kernel_rfl) ?_
      | (with_reducible refine draw_fin ?_ ?_); · kernel_rfl
      | (with_reducible refine draw_id ?_); kernel_rfl
      | ((with_reducible refine callK_id (f := 28) ?_); refine callK_funW [] [8, 9, 10, 11, 12, 13, 14] (ce) (by simp [AH, Function.comp_def, pullHW, rowA, pullS, ix, pull_PE, encPEs_pull, mapC_rows, mapC_gone, pushC_rows, pushC_gone, pullP, pullV, pullSS, pullD, pullT, pullF, pushP, pushV, pushSS, pushD, pushT, pushF, pullD16, pushD16]) rfl rfl (by decide) (by simp [cP, cV, cS, cD, cT, cF]) (by simp [pullI, pullS, ix]) ?_; rintro r Hn ⟨rfl, rfl⟩ -; clear hcP)
      | (with_reducible refine And.intro ?_ ?_; · omega)
    repeat' first
      | with_reducible rfl
      | simp only [AH, rowA, rowS, mapC_rows, mapC_gone, pushC_rows, pushC_gone, pullP, pullV, pullSS, pullD, pullT, pullF, pushP, pushV, pushSS, pushD, pushT, pushF, pullD16, pushD16, RS_, FB_, segR, ST_, seval, ne_eq, bne, forall_const, implies_true, TY_, WLS]
      | (with_reducible refine drawK_id ?_); refine drawK_auto hmix (by kernel_rfl) ?_
      | (with_reducible refine draw_fin ?_ ?_); · kernel_rfl
      | (with_reducible refine draw_id ?_); kernel_rfl
      | (with_reducible refine And.intro ?_ ?_; · omega)
    rw [hmod]
    all_goals (refine ⟨.t [.a (rowS 4 5 6 7 (b)), .a [.slice 8 0 (b).told.length, .slice 9 0 (b).fl.length]], [cP (b).ps, cV (b).vs, cS (b).ss, cD (b).ds, cT (b).told, cF (b).fl], (WkR.gc [0, 1, 2, 3, 9, 10, 11, 12, 13, 14] rfl (by decide)).to ?_ ?_, by simp, rfl, rfl⟩ <;> simp [Function.comp_def, get_gcT, get, put, gcI, pullI, push1, pushI, pullS, pushS, gcH, patL, canL, canH, canTL, canT, segR, ix, upd, up1, mapC_rows, mapC_gone, pushC_rows, pushC_gone, pullP, pullV, pullSS, pullD, pullT, pullF, pushP, pushV, pushSS, pushD, pushT, pushF, pullD16, pushD16, prP, prV, prSS, prD, rowS, pull_I, push_I, pull_PE, push_PE])
  | false =>
  cases e2 : decide ((b.ps.length : Int) ≤ port - 1) with
  | true =>
    have hmod : hearT b port d = b := by simp only [hearT, e1, e2, Bool.false_eq_true, if_true, if_false]
    have hcP := True.intro
    repeat' first
      | with_reducible rfl
      | simp only [hcP, AHo, rowA, rowS, hw, mapC_rows, mapC_gone, pushC_rows, pushC_gone, pullP, pullV, pullSS, pullD, pullT, pullF, pushP, pushV, pushSS, pushD, pushT, pushF, pullD16, pushD16, e1, e2, RS_, FB_, segR, ST_, seval, ne_eq, bne, forall_const, implies_true, TY_, WLS]
      | (with_reducible refine drawK_id ?_); refine drawK_auto hmix (by kernel_rfl) ?_
      | (with_reducible refine draw_fin ?_ ?_); · kernel_rfl
      | (with_reducible refine draw_id ?_); kernel_rfl
      | ((with_reducible refine callK_id (f := 28) ?_); refine callK_funW [] [8, 9, 10, 11, 12, 13, 14] (ce) (by simp [AH, Function.comp_def, pullHW, rowA, pullS, ix, pull_PE, encPEs_pull, mapC_rows, mapC_gone, pushC_rows, pushC_gone, pullP, pullV, pullSS, pullD, pullT, pullF, pushP, pushV, pushSS, pushD, pushT, pushF, pullD16, pushD16]) rfl rfl (by decide) (by simp [cP, cV, cS, cD, cT, cF]) (by simp [pullI, pullS, ix]) ?_; rintro r Hn ⟨rfl, rfl⟩ -; clear hcP)
      | (with_reducible refine And.intro ?_ ?_; · omega)
    repeat' first
      | with_reducible rfl
      | simp only [AH, rowA, rowS, mapC_rows, mapC_gone, pushC_rows, pushC_gone, pullP, pullV, pullSS, pullD, pullT, pullF, pushP, pushV, pushSS, pushD, pushT, pushF, pullD16, pushD16, RS_, FB_, segR, ST_, seval, ne_eq, bne, forall_const, implies_true, TY_, WLS]
      | (with_reducible refine drawK_id ?_); refine drawK_auto hmix (by kernel_rfl) ?_
      | (with_reducible refine draw_fin ?_ ?_); · kernel_rfl
      | (with_reducible refine draw_id ?_); kernel_rfl
      | (with_reducible refine And.intro ?_ ?_; · omega)
    rw [hmod]
    all_goals (refine ⟨.t [.a (rowS 4 5 6 7 (b)), .a [.slice 8 0 (b).told.length, .slice 9 0 (b).fl.length]], [cP (b).ps, cV (b).vs, cS (b).ss, cD (b).ds, cT (b).told, cF (b).fl], (WkR.gc [0, 1, 2, 3, 9, 10, 11, 12, 13, 14] rfl (by decide)).to ?_ ?_, by simp, rfl, rfl⟩ <;> simp [Function.comp_def, get_gcT, get, put, gcI, pullI, push1, pushI, pullS, pushS, gcH, patL, canL, canH, canTL, canT, segR, ix, upd, up1, mapC_rows, mapC_gone, pushC_rows, pushC_gone, pullP, pullV, pullSS, pullD, pullT, pullF, pushP, pushV, pushSS, pushD, pushT, pushF, pullD16, pushD16, prP, prV, prSS, prD, rowS, pull_I, push_I, pull_PE, push_PE])
  | false =>
    have r1 := of_decide_eq_false e1
    have r2 := of_decide_eq_false e2
    obtain ⟨i, hi⟩ : ∃ i : Nat, port - 1 = (i : Int) := ⟨(port - 1).toNat, by omega⟩
    have hti : (port - 1).toNat = i := by omega
    have hlt : i < b.ps.length := by omega
    obtain ⟨p, hp⟩ : ∃ p, b.ps[i]? = some p := ⟨_, List.getElem?_eq_getElem hlt⟩
    have hpp := encPEs_get hp
    have hb0 : (0 : Int) ≤ (i : Int) := by omega
    have hbN : (i : Int) < (b.ps.length : Int) := by omega
    rw [hi] at e2
    replace hw := hw.trans hi
    cases e3 : onP p with
    | false =>
      have hmod : hearT b port d = b := by simp only [hearT, e1, hi, e2, hti, Int.toNat_natCast, hp, e3, Bool.false_eq_true, if_false]
      have hcP := True.intro
      repeat' first
        | with_reducible rfl
        | simp only [hcP, encPEs_len, AHo, rowA, rowS, hw, mapC_rows, mapC_gone, pushC_rows, pushC_gone, pullV, pullSS, pullD, pullT, pushV, pushSS, pushD, pushT, pullD16, pushD16, encPEs_pull, encPEs_push, cP_s, cF_s, sIs_len, sIs_pull, sIs_push, e1, e2, hb0, hbN, hpp, encPE, hlt, Int.toNat_natCast, List.length_set, e3, RS_, FB_, segR, ST_, seval, ne_eq, bne, forall_const, implies_true, TY_, WLS]
        | (with_reducible refine drawK_id ?_); refine drawK_auto hmix (by kernel_rfl) ?_
        | (with_reducible refine draw_fin ?_ ?_); · kernel_rfl
        | (with_reducible refine draw_id ?_); kernel_rfl
        | (with_reducible refine callK_id (f := 14) ?_); refine callK_fun (c_On p) rfl rfl ?_
        | ((with_reducible refine callK_id (f := 28) ?_); refine callK_funW [] [8, 9, 10, 11, 12, 13, 14] (ce) (by simp [AH, Function.comp_def, pullHW, rowA, pullS, ix, pull_PE, encPEs_pull, mapC_rows, mapC_gone, pushC_rows, pushC_gone, pullP, pullV, pullSS, pullD, pullT, pullF, pushP, pushV, pushSS, pushD, pushT, pushF, pullD16, pushD16, cP_s, cF_s, sIs_pull]) rfl rfl (by decide) (by simp [cP, cV, cS, cD, cT, cF]) (by simp [pullI, pullS, ix]) ?_; rintro r Hn ⟨rfl, rfl⟩ -; clear hcP)
        | (with_reducible refine And.intro ?_ ?_; · omega)
      repeat' first
        | with_reducible rfl
        | simp only [AH, rowA, rowS, mapC_rows, mapC_gone, pushC_rows, pushC_gone, pullP, pullV, pullSS, pullD, pullT, pullF, pushP, pushV, pushSS, pushD, pushT, pushF, pullD16, pushD16, RS_, FB_, segR, ST_, seval, ne_eq, bne, forall_const, implies_true, TY_, WLS]
        | (with_reducible refine drawK_id ?_); refine drawK_auto hmix (by kernel_rfl) ?_
        | (with_reducible refine draw_fin ?_ ?_); · kernel_rfl
        | (with_reducible refine draw_id ?_); kernel_rfl
        | (with_reducible refine And.intro ?_ ?_; · omega)
      rw [hmod]
      all_goals (refine ⟨.t [.a (rowS 4 5 6 7 (b)), .a [.slice 8 0 (b).told.length, .slice 9 0 (b).fl.length]], [cP (b).ps, cV (b).vs, cS (b).ss, cD (b).ds, cT (b).told, cF (b).fl], (WkR.gc [0, 1, 2, 3, 9, 10, 11, 12, 13, 14] rfl (by decide)).to ?_ ?_, by simp, rfl, rfl⟩ <;> simp [Function.comp_def, get_gcT, get, put, gcI, pullI, push1, pushI, pullS, pushS, gcH, patL, canL, canH, canTL, canT, segR, ix, upd, up1, mapC_rows, mapC_gone, pushC_rows, pushC_gone, pullP, pullV, pullSS, pullD, pullT, pullF, pushP, pushV, pushSS, pushD, pushT, pushF, pullD16, pushD16, prP, prV, prSS, prD, rowS, pull_I, push_I, pull_PE, push_PE])
    | true =>
      have hmod : hearT b port d = hear2 (hear1 b i p d) i d := by simp only [hearT, e1, hi, e2, hti, Int.toNat_natCast, hp, e3, Bool.false_eq_true, if_false, if_true]
      rw [hmod]
      have f1 := setA_fr b i (unplain p)
      have cs := c_spread (setA b i (unplain p)) (i : Int) false (by rw [f1.len, hps]; exact hn) (by have := f1.sz; omega)
      have f2 := hear1_fr b i p d
      have hmod1 : hear1 b i p d = if (if d.kind == 128 then true else d.top) then sprA (setA b i (unplain p)) (i : Int) false else setA b i (unplain p) := rfl
      obtain ⟨c, hc⟩ : ∃ c, hear1 b i p d = c := ⟨_, rfl⟩
      rw [hc] at hmod1 f2 ⊢
      have hcl := f2.len
      have hcs := f2.sz
      have hbl : b.ps.length ≤ 100 := by rw [hps]; exact hn
      obtain ⟨p2, hp2⟩ : ∃ p2, c.ps[i]? = some p2 := ⟨_, List.getElem?_eq_getElem (by omega)⟩
      have hmod2 : hear2 c i d = if d.kind == 128 then c else if (if d.kind == 2 then (if d.role == 2 then true else d.role == 1) else false) then replyA c i p2 d else newsA c i p2 d := by simp only [hear2, hp2]
      rw [hmod2]
      have cr := c_reply c i p2 d (by omega) hp2 (by omega)
      have cn := c_news c i p2 d (by omega) hp2 hage (by omega)
      clear hmod hmod2 f1 f2 hc ce
      cases e4 : (d.kind == 128) with
      | true =>
        have hc1 : c = sprA (setA b i (unplain p)) (i : Int) false := by rw [hmod1, e4]; rfl
        subst hc1
        have hcP := True.intro
        repeat' first
          | with_reducible rfl
          | simp only [hcP, encPEs_len, AHo, rowA, rowS, hw, mapC_rows, mapC_gone, pushC_rows, pushC_gone, pullV, pullSS, pullD, pullT, pushV, pushSS, pushD, pushT, pullD16, pushD16, encPEs_pull, encPEs_push, cP_s, cF_s, sIs_len, sIs_pull, sIs_push, e1, e2, hb0, hbN, hpp, encPE, hlt, Int.toNat_natCast, List.length_set, e3, e4, RS_, FB_, segR, ST_, seval, ne_eq, bne, forall_const, implies_true, TY_, WLS]
          | (with_reducible refine drawK_id ?_); refine drawK_auto hmix (by kernel_rfl) ?_
          | (with_reducible refine draw_fin ?_ ?_); · kernel_rfl
          | (with_reducible refine draw_id ?_); kernel_rfl
          | (with_reducible refine callK_id (f := 14) ?_); refine callK_fun (c_On p) rfl rfl ?_
          | ((with_reducible refine callK_id (f := 29) ?_); refine callK_funW [] [8, 9, 10, 11, 12, 13, 14] (cs) (by simp [AH, Function.comp_def, pullHW, rowA, pullS, ix, pull_PE, encPEs_pull, mapC_rows, mapC_gone, pushC_rows, pushC_gone, pullP, pullV, pullSS, pullD, pullT, pullF, pushP, pushV, pushSS, pushD, pushT, pushF, pullD16, pushD16, cP_s, cF_s, setPEs, sIs_pull, setA, unplain, Function.comp_def]) rfl rfl (by decide) (by simp [cP, cV, cS, cD, cT, cF]) (by simp [pullI, pullS, ix]) ?_; rintro r Hn ⟨rfl, rfl⟩ -; clear hcP)
          | (with_reducible refine And.intro ?_ ?_; · omega)
        generalize hee : sprA (setA b i (unplain p)) (i : Int) false = e at *
        have ce := c_end e
        have hcP := True.intro
        repeat' first
          | with_reducible rfl
          | simp only [hcP, AH2, rowA, rowS, encPD, mapC_rows, mapC_gone, pushC_rows, pushC_gone, pullP, pullV, pullSS, pullD, pullT, pullF, pushP, pushV, pushSS, pushD, pushT, pushF, pullD16, pushD16, e4, RS_, FB_, segR, ST_, seval, ne_eq, bne, forall_const, implies_true, TY_, WLS]
          | (with_reducible refine drawK_id ?_); refine drawK_auto hmix (by kernel_rfl) ?_
          | (with_reducible refine draw_fin ?_ ?_); · kernel_rfl
          | (with_reducible refine draw_id ?_); kernel_rfl
          | ((with_reducible refine callK_id (f := 28) ?_); refine callK_funW [] [8, 9, 10, 11, 12, 15, 16] (ce) (by simp [AH, Function.comp_def, pullHW, rowA, pullS, ix, pull_PE, encPEs_pull, mapC_rows, mapC_gone, pushC_rows, pushC_gone, pullP, pullV, pullSS, pullD, pullT, pullF, pushP, pushV, pushSS, pushD, pushT, pushF, pullD16, pushD16]) rfl rfl (by decide) (by simp [cP, cV, cS, cD, cT, cF]) (by simp [pullI, pullS, ix]) ?_; rintro r Hn ⟨rfl, rfl⟩ -; clear hcP)
          | (with_reducible refine And.intro ?_ ?_; · omega)
        repeat' first
          | with_reducible rfl
          | simp only [AH, rowA, rowS, mapC_rows, mapC_gone, pushC_rows, pushC_gone, pullP, pullV, pullSS, pullD, pullT, pullF, pushP, pushV, pushSS, pushD, pushT, pushF, pullD16, pushD16, RS_, FB_, segR, ST_, seval, ne_eq, bne, forall_const, implies_true, TY_, WLS]
          | (with_reducible refine drawK_id ?_); refine drawK_auto hmix (by kernel_rfl) ?_
          | (with_reducible refine draw_fin ?_ ?_); · kernel_rfl
          | (with_reducible refine draw_id ?_); kernel_rfl
          | (with_reducible refine And.intro ?_ ?_; · omega)
        all_goals (refine ⟨.t [.a (rowS 4 5 6 7 (e)), .a [.slice 8 0 (e).told.length, .slice 9 0 (e).fl.length]], [cP (e).ps, cV (e).vs, cS (e).ss, cD (e).ds, cT (e).told, cF (e).fl], (WkR.gc [0, 1, 2, 3, 9, 10, 11, 12, 15, 16] rfl (by decide)).to ?_ ?_, by simp, rfl, rfl⟩ <;> simp [Function.comp_def, get_gcT, get, put, gcI, pullI, push1, pushI, pullS, pushS, gcH, patL, canL, canH, canTL, canT, segR, ix, upd, up1, mapC_rows, mapC_gone, pushC_rows, pushC_gone, pullP, pullV, pullSS, pullD, pullT, pullF, pushP, pushV, pushSS, pushD, pushT, pushF, pullD16, pushD16, prP, prV, prSS, prD, rowS, pull_I, push_I, pull_PE, push_PE])
      | false =>
        cases e5 : d.top with
        | true =>
          have hc1 : c = sprA (setA b i (unplain p)) (i : Int) false := by rw [hmod1, e4, e5]; rfl
          subst hc1
          have hcP := True.intro
          repeat' first
            | with_reducible rfl
            | simp only [hcP, encPEs_len, AHo, rowA, rowS, hw, mapC_rows, mapC_gone, pushC_rows, pushC_gone, pullV, pullSS, pullD, pullT, pushV, pushSS, pushD, pushT, pullD16, pushD16, encPEs_pull, encPEs_push, cP_s, cF_s, sIs_len, sIs_pull, sIs_push, e1, e2, hb0, hbN, hpp, encPE, hlt, Int.toNat_natCast, List.length_set, e3, e4, e5, RS_, FB_, segR, ST_, seval, ne_eq, bne, forall_const, implies_true, TY_, WLS]
            | (with_reducible refine drawK_id ?_); refine drawK_auto hmix (by kernel_rfl) ?_
            | (with_reducible refine draw_fin ?_ ?_); · kernel_rfl
            | (with_reducible refine draw_id ?_); kernel_rfl
            | (with_reducible refine callK_id (f := 14) ?_); refine callK_fun (c_On p) rfl rfl ?_
            | ((with_reducible refine callK_id (f := 29) ?_); refine callK_funW [] [8, 9, 10, 11, 12, 13, 14] (cs) (by simp [AH, Function.comp_def, pullHW, rowA, pullS, ix, pull_PE, encPEs_pull, mapC_rows, mapC_gone, pushC_rows, pushC_gone, pullP, pullV, pullSS, pullD, pullT, pullF, pushP, pushV, pushSS, pushD, pushT, pushF, pullD16, pushD16, cP_s, cF_s, setPEs, sIs_pull, setA, unplain, Function.comp_def]) rfl rfl (by decide) (by simp [cP, cV, cS, cD, cT, cF]) (by simp [pullI, pullS, ix]) ?_; rintro r Hn ⟨rfl, rfl⟩ -; clear hcP)
            | (with_reducible refine And.intro ?_ ?_; · omega)
          cases k1 : (d.kind == 2) with
          | false =>
            have hcP := True.intro
            repeat' first
              | with_reducible rfl
              | simp only [hcP, AH2, rowA, rowS, encPD, mapC_rows, mapC_gone, pushC_rows, pushC_gone, pullP, pullV, pullSS, pullD, pullT, pullF, pushP, pushV, pushSS, pushD, pushT, pushF, pullD16, pushD16, e4, k1, RS_, FB_, segR, ST_, seval, ne_eq, bne, forall_const, implies_true, TY_, WLS]
              | (with_reducible refine drawK_id ?_); refine drawK_auto hmix (by kernel_rfl) ?_
              | (with_reducible refine draw_fin ?_ ?_); · kernel_rfl
              | (with_reducible refine draw_id ?_); kernel_rfl
              | ((with_reducible refine callK_id (f := 31) ?_); refine callK_funW [] [8, 9, 10, 11, 12, 15, 16] (cn) (by simp [AH, Function.comp_def, pullHW, rowA, pullS, ix, pull_PE, encPEs_pull, mapC_rows, mapC_gone, pushC_rows, pushC_gone, pullP, pullV, pullSS, pullD, pullT, pullF, pushP, pushV, pushSS, pushD, pushT, pushF, pullD16, pushD16]) rfl rfl (by decide) (by simp [cP, cV, cS, cD, cT, cF]) (by simp [pullI, pullS, ix, encPD, e5]) ?_; rintro r Hn ⟨rfl, rfl⟩ -; clear hcP)
              | (with_reducible refine And.intro ?_ ?_; · omega)
            generalize newsA _ i p2 d = e at *
            have ce := c_end e
            have hcP := True.intro
            repeat' first
              | with_reducible rfl
              | simp only [hcP, AH2, rowA, rowS, mapC_rows, mapC_gone, pushC_rows, pushC_gone, pullP, pullV, pullSS, pullD, pullT, pullF, pushP, pushV, pushSS, pushD, pushT, pushF, pullD16, pushD16, RS_, FB_, segR, ST_, seval, ne_eq, bne, forall_const, implies_true, TY_, WLS]
              | (with_reducible refine drawK_id ?_); refine drawK_auto hmix (by kernel_rfl) ?_
              | (with_reducible refine draw_fin ?_ ?_); · kernel_rfl
              | (with_reducible refine draw_id ?_); kernel_rfl
              | ((with_reducible refine callK_id (f := 28) ?_); refine callK_funW [] [8, 9, 10, 11, 12, 17, 18] (ce) (by simp [AH, Function.comp_def, pullHW, rowA, pullS, ix, pull_PE, encPEs_pull, mapC_rows, mapC_gone, pushC_rows, pushC_gone, pullP, pullV, pullSS, pullD, pullT, pullF, pushP, pushV, pushSS, pushD, pushT, pushF, pullD16, pushD16]) rfl rfl (by decide) (by simp [cP, cV, cS, cD, cT, cF]) (by simp [pullI, pullS, ix]) ?_; rintro r Hn ⟨rfl, rfl⟩ -; clear hcP)
              | (with_reducible refine And.intro ?_ ?_; · omega)
            repeat' first
              | with_reducible rfl
              | simp only [AH, rowA, rowS, mapC_rows, mapC_gone, pushC_rows, pushC_gone, pullP, pullV, pullSS, pullD, pullT, pullF, pushP, pushV, pushSS, pushD, pushT, pushF, pullD16, pushD16, RS_, FB_, segR, ST_, seval, ne_eq, bne, forall_const, implies_true, TY_, WLS]
              | (with_reducible refine drawK_id ?_); refine drawK_auto hmix (by kernel_rfl) ?_
              | (with_reducible refine draw_fin ?_ ?_); · kernel_rfl
              | (with_reducible refine draw_id ?_); kernel_rfl
              | (with_reducible refine And.intro ?_ ?_; · omega)
            all_goals (refine ⟨.t [.a (rowS 4 5 6 7 (e)), .a [.slice 8 0 (e).told.length, .slice 9 0 (e).fl.length]], [cP (e).ps, cV (e).vs, cS (e).ss, cD (e).ds, cT (e).told, cF (e).fl], (WkR.gc [0, 1, 2, 3, 9, 10, 11, 12, 17, 18] rfl (by decide)).to ?_ ?_, by simp, rfl, rfl⟩ <;> simp [Function.comp_def, get_gcT, get, put, gcI, pullI, push1, pushI, pullS, pushS, gcH, patL, canL, canH, canTL, canT, segR, ix, upd, up1, mapC_rows, mapC_gone, pushC_rows, pushC_gone, pullP, pullV, pullSS, pullD, pullT, pullF, pushP, pushV, pushSS, pushD, pushT, pushF, pullD16, pushD16, prP, prV, prSS, prD, rowS, pull_I, push_I, pull_PE, push_PE])
          | true =>
            cases k2 : (d.role == 2) with
            | true =>
              have hcP := True.intro
              repeat' first
                | with_reducible rfl
                | simp only [hcP, AH2, rowA, rowS, encPD, mapC_rows, mapC_gone, pushC_rows, pushC_gone, pullP, pullV, pullSS, pullD, pullT, pullF, pushP, pushV, pushSS, pushD, pushT, pushF, pullD16, pushD16, e4, k1, k2, RS_, FB_, segR, ST_, seval, ne_eq, bne, forall_const, implies_true, TY_, WLS]
                | (with_reducible refine drawK_id ?_); refine drawK_auto hmix (by kernel_rfl) ?_
                | (with_reducible refine draw_fin ?_ ?_); · kernel_rfl
                | (with_reducible refine draw_id ?_); kernel_rfl
                | ((with_reducible refine callK_id (f := 30) ?_); refine callK_funW [] [8, 9, 10, 11, 12, 15, 16] (cr) (by simp [AH, Function.comp_def, pullHW, rowA, pullS, ix, pull_PE, encPEs_pull, mapC_rows, mapC_gone, pushC_rows, pushC_gone, pullP, pullV, pullSS, pullD, pullT, pullF, pushP, pushV, pushSS, pushD, pushT, pushF, pullD16, pushD16]) rfl rfl (by decide) (by simp [cP, cV, cS, cD, cT, cF]) (by simp [pullI, pullS, ix, encPD, e5]) ?_; rintro r Hn ⟨rfl, rfl⟩ -; clear hcP)
                | (with_reducible refine And.intro ?_ ?_; · omega)
              generalize replyA _ i p2 d = e at *
              have ce := c_end e
              have hcP := True.intro
              repeat' first
                | with_reducible rfl
                | simp only [hcP, AH2, rowA, rowS, mapC_rows, mapC_gone, pushC_rows, pushC_gone, pullP, pullV, pullSS, pullD, pullT, pullF, pushP, pushV, pushSS, pushD, pushT, pushF, pullD16, pushD16, RS_, FB_, segR, ST_, seval, ne_eq, bne, forall_const, implies_true, TY_, WLS]
                | (with_reducible refine drawK_id ?_); refine drawK_auto hmix (by kernel_rfl) ?_
                | (with_reducible refine draw_fin ?_ ?_); · kernel_rfl
                | (with_reducible refine draw_id ?_); kernel_rfl
                | ((with_reducible refine callK_id (f := 28) ?_); refine callK_funW [] [8, 9, 10, 11, 12, 17, 18] (ce) (by simp [AH, Function.comp_def, pullHW, rowA, pullS, ix, pull_PE, encPEs_pull, mapC_rows, mapC_gone, pushC_rows, pushC_gone, pullP, pullV, pullSS, pullD, pullT, pullF, pushP, pushV, pushSS, pushD, pushT, pushF, pullD16, pushD16]) rfl rfl (by decide) (by simp [cP, cV, cS, cD, cT, cF]) (by simp [pullI, pullS, ix]) ?_; rintro r Hn ⟨rfl, rfl⟩ -; clear hcP)
                | (with_reducible refine And.intro ?_ ?_; · omega)
              repeat' first
                | with_reducible rfl
                | simp only [AH, rowA, rowS, mapC_rows, mapC_gone, pushC_rows, pushC_gone, pullP, pullV, pullSS, pullD, pullT, pullF, pushP, pushV, pushSS, pushD, pushT, pushF, pullD16, pushD16, RS_, FB_, segR, ST_, seval, ne_eq, bne, forall_const, implies_true, TY_, WLS]
                | (with_reducible refine drawK_id ?_); refine drawK_auto hmix (by kernel_rfl) ?_
                | (with_reducible refine draw_fin ?_ ?_); · kernel_rfl
                | (with_reducible refine draw_id ?_); kernel_rfl
                | (with_reducible refine And.intro ?_ ?_; · omega)
              all_goals (refine ⟨.t [.a (rowS 4 5 6 7 (e)), .a [.slice 8 0 (e).told.length, .slice 9 0 (e).fl.length]], [cP (e).ps, cV (e).vs, cS (e).ss, cD (e).ds, cT (e).told, cF (e).fl], (WkR.gc [0, 1, 2, 3, 9, 10, 11, 12, 17, 18] rfl (by decide)).to ?_ ?_, by simp, rfl, rfl⟩ <;> simp [Function.comp_def, get_gcT, get, put, gcI, pullI, push1, pushI, pullS, pushS, gcH, patL, canL, canH, canTL, canT, segR, ix, upd, up1, mapC_rows, mapC_gone, pushC_rows, pushC_gone, pullP, pullV, pullSS, pullD, pullT, pullF, pushP, pushV, pushSS, pushD, pushT, pushF, pullD16, pushD16, prP, prV, prSS, prD, rowS, pull_I, push_I, pull_PE, push_PE])
            | false =>
              cases k3 : (d.role == 1) with
              | true =>
                have hcP := True.intro
                repeat' first
                  | with_reducible rfl
                  | simp only [hcP, AH2, rowA, rowS, encPD, mapC_rows, mapC_gone, pushC_rows, pushC_gone, pullP, pullV, pullSS, pullD, pullT, pullF, pushP, pushV, pushSS, pushD, pushT, pushF, pullD16, pushD16, e4, k1, k2, k3, RS_, FB_, segR, ST_, seval, ne_eq, bne, forall_const, implies_true, TY_, WLS]
                  | (with_reducible refine drawK_id ?_); refine drawK_auto hmix (by kernel_rfl) ?_
                  | (with_reducible refine draw_fin ?_ ?_); · kernel_rfl
                  | (with_reducible refine draw_id ?_); kernel_rfl
                  | ((with_reducible refine callK_id (f := 30) ?_); refine callK_funW [] [8, 9, 10, 11, 12, 15, 16] (cr) (by simp [AH, Function.comp_def, pullHW, rowA, pullS, ix, pull_PE, encPEs_pull, mapC_rows, mapC_gone, pushC_rows, pushC_gone, pullP, pullV, pullSS, pullD, pullT, pullF, pushP, pushV, pushSS, pushD, pushT, pushF, pullD16, pushD16]) rfl rfl (by decide) (by simp [cP, cV, cS, cD, cT, cF]) (by simp [pullI, pullS, ix, encPD, e5]) ?_; rintro r Hn ⟨rfl, rfl⟩ -; clear hcP)
                  | (with_reducible refine And.intro ?_ ?_; · omega)
                generalize replyA _ i p2 d = e at *
                have ce := c_end e
                have hcP := True.intro
                repeat' first
                  | with_reducible rfl
                  | simp only [hcP, AH2, rowA, rowS, mapC_rows, mapC_gone, pushC_rows, pushC_gone, pullP, pullV, pullSS, pullD, pullT, pullF, pushP, pushV, pushSS, pushD, pushT, pushF, pullD16, pushD16, RS_, FB_, segR, ST_, seval, ne_eq, bne, forall_const, implies_true, TY_, WLS]
                  | (with_reducible refine drawK_id ?_); refine drawK_auto hmix (by kernel_rfl) ?_
                  | (with_reducible refine draw_fin ?_ ?_); · kernel_rfl
                  | (with_reducible refine draw_id ?_); kernel_rfl
                  | ((with_reducible refine callK_id (f := 28) ?_); refine callK_funW [] [8, 9, 10, 11, 12, 17, 18] (ce) (by simp [AH, Function.comp_def, pullHW, rowA, pullS, ix, pull_PE, encPEs_pull, mapC_rows, mapC_gone, pushC_rows, pushC_gone, pullP, pullV, pullSS, pullD, pullT, pullF, pushP, pushV, pushSS, pushD, pushT, pushF, pullD16, pushD16]) rfl rfl (by decide) (by simp [cP, cV, cS, cD, cT, cF]) (by simp [pullI, pullS, ix]) ?_; rintro r Hn ⟨rfl, rfl⟩ -; clear hcP)
                  | (with_reducible refine And.intro ?_ ?_; · omega)
                repeat' first
                  | with_reducible rfl
                  | simp only [AH, rowA, rowS, mapC_rows, mapC_gone, pushC_rows, pushC_gone, pullP, pullV, pullSS, pullD, pullT, pullF, pushP, pushV, pushSS, pushD, pushT, pushF, pullD16, pushD16, RS_, FB_, segR, ST_, seval, ne_eq, bne, forall_const, implies_true, TY_, WLS]
                  | (with_reducible refine drawK_id ?_); refine drawK_auto hmix (by kernel_rfl) ?_
                  | (with_reducible refine draw_fin ?_ ?_); · kernel_rfl
                  | (with_reducible refine draw_id ?_); kernel_rfl
                  | (with_reducible refine And.intro ?_ ?_; · omega)
                all_goals (refine ⟨.t [.a (rowS 4 5 6 7 (e)), .a [.slice 8 0 (e).told.length, .slice 9 0 (e).fl.length]], [cP (e).ps, cV (e).vs, cS (e).ss, cD (e).ds, cT (e).told, cF (e).fl], (WkR.gc [0, 1, 2, 3, 9, 10, 11, 12, 17, 18] rfl (by decide)).to ?_ ?_, by simp, rfl, rfl⟩ <;> simp [Function.comp_def, get_gcT, get, put, gcI, pullI, push1, pushI, pullS, pushS, gcH, patL, canL, canH, canTL, canT, segR, ix, upd, up1, mapC_rows, mapC_gone, pushC_rows, pushC_gone, pullP, pullV, pullSS, pullD, pullT, pullF, pushP, pushV, pushSS, pushD, pushT, pushF, pullD16, pushD16, prP, prV, prSS, prD, rowS, pull_I, push_I, pull_PE, push_PE])
              | false =>
                have hcP := True.intro
                repeat' first
                  | with_reducible rfl
                  | simp only [hcP, AH2, rowA, rowS, encPD, mapC_rows, mapC_gone, pushC_rows, pushC_gone, pullP, pullV, pullSS, pullD, pullT, pullF, pushP, pushV, pushSS, pushD, pushT, pushF, pullD16, pushD16, e4, k1, k2, k3, RS_, FB_, segR, ST_, seval, ne_eq, bne, forall_const, implies_true, TY_, WLS]
                  | (with_reducible refine drawK_id ?_); refine drawK_auto hmix (by kernel_rfl) ?_
                  | (with_reducible refine draw_fin ?_ ?_); · kernel_rfl
                  | (with_reducible refine draw_id ?_); kernel_rfl
                  | ((with_reducible refine callK_id (f := 31) ?_); refine callK_funW [] [8, 9, 10, 11, 12, 15, 16] (cn) (by simp [AH, Function.comp_def, pullHW, rowA, pullS, ix, pull_PE, encPEs_pull, mapC_rows, mapC_gone, pushC_rows, pushC_gone, pullP, pullV, pullSS, pullD, pullT, pullF, pushP, pushV, pushSS, pushD, pushT, pushF, pullD16, pushD16]) rfl rfl (by decide) (by simp [cP, cV, cS, cD, cT, cF]) (by simp [pullI, pullS, ix, encPD, e5]) ?_; rintro r Hn ⟨rfl, rfl⟩ -; clear hcP)
                  | (with_reducible refine And.intro ?_ ?_; · omega)
                generalize newsA _ i p2 d = e at *
                have ce := c_end e
                have hcP := True.intro
                repeat' first
                  | with_reducible rfl
                  | simp only [hcP, AH2, rowA, rowS, mapC_rows, mapC_gone, pushC_rows, pushC_gone, pullP, pullV, pullSS, pullD, pullT, pullF, pushP, pushV, pushSS, pushD, pushT, pushF, pullD16, pushD16, RS_, FB_, segR, ST_, seval, ne_eq, bne, forall_const, implies_true, TY_, WLS]
                  | (with_reducible refine drawK_id ?_); refine drawK_auto hmix (by kernel_rfl) ?_
                  | (with_reducible refine draw_fin ?_ ?_); · kernel_rfl
                  | (with_reducible refine draw_id ?_); kernel_rfl
                  | ((with_reducible refine callK_id (f := 28) ?_); refine callK_funW [] [8, 9, 10, 11, 12, 17, 18] (ce) (by simp [AH, Function.comp_def, pullHW, rowA, pullS, ix, pull_PE, encPEs_pull, mapC_rows, mapC_gone, pushC_rows, pushC_gone, pullP, pullV, pullSS, pullD, pullT, pullF, pushP, pushV, pushSS, pushD, pushT, pushF, pullD16, pushD16]) rfl rfl (by decide) (by simp [cP, cV, cS, cD, cT, cF]) (by simp [pullI, pullS, ix]) ?_; rintro r Hn ⟨rfl, rfl⟩ -; clear hcP)
                  | (with_reducible refine And.intro ?_ ?_; · omega)
                repeat' first
                  | with_reducible rfl
                  | simp only [AH, rowA, rowS, mapC_rows, mapC_gone, pushC_rows, pushC_gone, pullP, pullV, pullSS, pullD, pullT, pullF, pushP, pushV, pushSS, pushD, pushT, pushF, pullD16, pushD16, RS_, FB_, segR, ST_, seval, ne_eq, bne, forall_const, implies_true, TY_, WLS]
                  | (with_reducible refine drawK_id ?_); refine drawK_auto hmix (by kernel_rfl) ?_
                  | (with_reducible refine draw_fin ?_ ?_); · kernel_rfl
                  | (with_reducible refine draw_id ?_); kernel_rfl
                  | (with_reducible refine And.intro ?_ ?_; · omega)
                all_goals (refine ⟨.t [.a (rowS 4 5 6 7 (e)), .a [.slice 8 0 (e).told.length, .slice 9 0 (e).fl.length]], [cP (e).ps, cV (e).vs, cS (e).ss, cD (e).ds, cT (e).told, cF (e).fl], (WkR.gc [0, 1, 2, 3, 9, 10, 11, 12, 17, 18] rfl (by decide)).to ?_ ?_, by simp, rfl, rfl⟩ <;> simp [Function.comp_def, get_gcT, get, put, gcI, pullI, push1, pushI, pullS, pushS, gcH, patL, canL, canH, canTL, canT, segR, ix, upd, up1, mapC_rows, mapC_gone, pushC_rows, pushC_gone, pullP, pullV, pullSS, pullD, pullT, pullF, pushP, pushV, pushSS, pushD, pushT, pushF, pullD16, pushD16, prP, prV, prSS, prD, rowS, pull_I, push_I, pull_PE, push_PE])
        | false =>
          have hc1 : c = setA b i (unplain p) := by rw [hmod1, e4, e5]; rfl
          subst hc1
          cases k1 : (d.kind == 2) with
          | false =>
            have hcP := True.intro
            repeat' first
              | with_reducible rfl
              | simp only [hcP, encPD, encPEs_len, AHo, rowA, rowS, hw, mapC_rows, mapC_gone, pushC_rows, pushC_gone, pullV, pullSS, pullD, pullT, pushV, pushSS, pushD, pushT, pullD16, pushD16, encPEs_pull, encPEs_push, cP_s, cF_s, sIs_len, sIs_pull, sIs_push, e1, e2, hb0, hbN, hpp, encPE, hlt, Int.toNat_natCast, List.length_set, e3, e4, e5, k1, RS_, FB_, segR, ST_, seval, ne_eq, bne, forall_const, implies_true, TY_, WLS]
              | (with_reducible refine drawK_id ?_); refine drawK_auto hmix (by kernel_rfl) ?_
              | (with_reducible refine draw_fin ?_ ?_); · kernel_rfl
              | (with_reducible refine draw_id ?_); kernel_rfl
              | (with_reducible refine callK_id (f := 14) ?_); refine callK_fun (c_On p) rfl rfl ?_
              | ((with_reducible refine callK_id (f := 31) ?_); refine callK_funW [] [8, 9, 10, 11, 12, 13, 14] (cn) (by simp [AH, Function.comp_def, pullHW, rowA, pullS, ix, pull_PE, encPEs_pull, mapC_rows, mapC_gone, pushC_rows, pushC_gone, pullP, pullV, pullSS, pullD, pullT, pullF, pushP, pushV, pushSS, pushD, pushT, pushF, pullD16, pushD16, cP_s, cF_s, setPEs, sIs_pull, setA, unplain, Function.comp_def]) rfl rfl (by decide) (by simp [cP, cV, cS, cD, cT, cF]) (by simp [pullI, pullS, ix, encPD, e5]) ?_; rintro r Hn ⟨rfl, rfl⟩ -; clear hcP)
              | (with_reducible refine And.intro ?_ ?_; · omega)
            generalize newsA _ i p2 d = e at *
            have ce := c_end e
            have hcP := True.intro
            repeat' first
              | with_reducible rfl
              | simp only [hcP, AH2, rowA, rowS, mapC_rows, mapC_gone, pushC_rows, pushC_gone, pullP, pullV, pullSS, pullD, pullT, pullF, pushP, pushV, pushSS, pushD, pushT, pushF, pullD16, pushD16, RS_, FB_, segR, ST_, seval, ne_eq, bne, forall_const, implies_true, TY_, WLS]
              | (with_reducible refine drawK_id ?_); refine drawK_auto hmix (by kernel_rfl) ?_
              | (with_reducible refine draw_fin ?_ ?_); · kernel_rfl
              | (with_reducible refine draw_id ?_); kernel_rfl
              | ((with_reducible refine callK_id (f := 28) ?_); refine callK_funW [] [8, 9, 10, 11, 12, 15, 16] (ce) (by simp [AH, Function.comp_def, pullHW, rowA, pullS, ix, pull_PE, encPEs_pull, mapC_rows, mapC_gone, pushC_rows, pushC_gone, pullP, pullV, pullSS, pullD, pullT, pullF, pushP, pushV, pushSS, pushD, pushT, pushF, pullD16, pushD16]) rfl rfl (by decide) (by simp [cP, cV, cS, cD, cT, cF]) (by simp [pullI, pullS, ix]) ?_; rintro r Hn ⟨rfl, rfl⟩ -; clear hcP)
              | (with_reducible refine And.intro ?_ ?_; · omega)
            repeat' first
              | with_reducible rfl
              | simp only [AH, rowA, rowS, mapC_rows, mapC_gone, pushC_rows, pushC_gone, pullP, pullV, pullSS, pullD, pullT, pullF, pushP, pushV, pushSS, pushD, pushT, pushF, pullD16, pushD16, RS_, FB_, segR, ST_, seval, ne_eq, bne, forall_const, implies_true, TY_, WLS]
              | (with_reducible refine drawK_id ?_); refine drawK_auto hmix (by kernel_rfl) ?_
              | (with_reducible refine draw_fin ?_ ?_); · kernel_rfl
              | (with_reducible refine draw_id ?_); kernel_rfl
              | (with_reducible refine And.intro ?_ ?_; · omega)
            all_goals (refine ⟨.t [.a (rowS 4 5 6 7 (e)), .a [.slice 8 0 (e).told.length, .slice 9 0 (e).fl.length]], [cP (e).ps, cV (e).vs, cS (e).ss, cD (e).ds, cT (e).told, cF (e).fl], (WkR.gc [0, 1, 2, 3, 9, 10, 11, 12, 15, 16] rfl (by decide)).to ?_ ?_, by simp, rfl, rfl⟩ <;> simp [Function.comp_def, get_gcT, get, put, gcI, pullI, push1, pushI, pullS, pushS, gcH, patL, canL, canH, canTL, canT, segR, ix, upd, up1, mapC_rows, mapC_gone, pushC_rows, pushC_gone, pullP, pullV, pullSS, pullD, pullT, pullF, pushP, pushV, pushSS, pushD, pushT, pushF, pullD16, pushD16, prP, prV, prSS, prD, rowS, pull_I, push_I, pull_PE, push_PE])
          | true =>
            cases k2 : (d.role == 2) with
            | true =>
              have hcP := True.intro
              repeat' first
                | with_reducible rfl
                | simp only [hcP, encPD, encPEs_len, AHo, rowA, rowS, hw, mapC_rows, mapC_gone, pushC_rows, pushC_gone, pullV, pullSS, pullD, pullT, pushV, pushSS, pushD, pushT, pullD16, pushD16, encPEs_pull, encPEs_push, cP_s, cF_s, sIs_len, sIs_pull, sIs_push, e1, e2, hb0, hbN, hpp, encPE, hlt, Int.toNat_natCast, List.length_set, e3, e4, e5, k1, k2, RS_, FB_, segR, ST_, seval, ne_eq, bne, forall_const, implies_true, TY_, WLS]
                | (with_reducible refine drawK_id ?_); refine drawK_auto hmix (by kernel_rfl) ?_
                | (with_reducible refine draw_fin ?_ ?_); · kernel_rfl
                | (with_reducible refine draw_id ?_); kernel_rfl
                | (with_reducible refine callK_id (f := 14) ?_); refine callK_fun (c_On p) rfl rfl ?_
                | ((with_reducible refine callK_id (f := 30) ?_); refine callK_funW [] [8, 9, 10, 11, 12, 13, 14] (cr) (by simp [AH, Function.comp_def, pullHW, rowA, pullS, ix, pull_PE, encPEs_pull, mapC_rows, mapC_gone, pushC_rows, pushC_gone, pullP, pullV, pullSS, pullD, pullT, pullF, pushP, pushV, pushSS, pushD, pushT, pushF, pullD16, pushD16, cP_s, cF_s, setPEs, sIs_pull, setA, unplain, Function.comp_def]) rfl rfl (by decide) (by simp [cP, cV, cS, cD, cT, cF]) (by simp [pullI, pullS, ix, encPD, e5]) ?_; rintro r Hn ⟨rfl, rfl⟩ -; clear hcP)
                | (with_reducible refine And.intro ?_ ?_; · omega)
              generalize replyA _ i p2 d = e at *
              have ce := c_end e
              have hcP := True.intro
              repeat' first
                | with_reducible rfl
                | simp only [hcP, AH2, rowA, rowS, mapC_rows, mapC_gone, pushC_rows, pushC_gone, pullP, pullV, pullSS, pullD, pullT, pullF, pushP, pushV, pushSS, pushD, pushT, pushF, pullD16, pushD16, RS_, FB_, segR, ST_, seval, ne_eq, bne, forall_const, implies_true, TY_, WLS]
                | (with_reducible refine drawK_id ?_); refine drawK_auto hmix (by kernel_rfl) ?_
                | (with_reducible refine draw_fin ?_ ?_); · kernel_rfl
                | (with_reducible refine draw_id ?_); kernel_rfl
                | ((with_reducible refine callK_id (f := 28) ?_); refine callK_funW [] [8, 9, 10, 11, 12, 15, 16] (ce) (by simp [AH, Function.comp_def, pullHW, rowA, pullS, ix, pull_PE, encPEs_pull, mapC_rows, mapC_gone, pushC_rows, pushC_gone, pullP, pullV, pullSS, pullD, pullT, pullF, pushP, pushV, pushSS, pushD, pushT, pushF, pullD16, pushD16]) rfl rfl (by decide) (by simp [cP, cV, cS, cD, cT, cF]) (by simp [pullI, pullS, ix]) ?_; rintro r Hn ⟨rfl, rfl⟩ -; clear hcP)
                | (with_reducible refine And.intro ?_ ?_; · omega)
              repeat' first
                | with_reducible rfl
                | simp only [AH, rowA, rowS, mapC_rows, mapC_gone, pushC_rows, pushC_gone, pullP, pullV, pullSS, pullD, pullT, pullF, pushP, pushV, pushSS, pushD, pushT, pushF, pullD16, pushD16, RS_, FB_, segR, ST_, seval, ne_eq, bne, forall_const, implies_true, TY_, WLS]
                | (with_reducible refine drawK_id ?_); refine drawK_auto hmix (by kernel_rfl) ?_
                | (with_reducible refine draw_fin ?_ ?_); · kernel_rfl
                | (with_reducible refine draw_id ?_); kernel_rfl
                | (with_reducible refine And.intro ?_ ?_; · omega)
              all_goals (refine ⟨.t [.a (rowS 4 5 6 7 (e)), .a [.slice 8 0 (e).told.length, .slice 9 0 (e).fl.length]], [cP (e).ps, cV (e).vs, cS (e).ss, cD (e).ds, cT (e).told, cF (e).fl], (WkR.gc [0, 1, 2, 3, 9, 10, 11, 12, 15, 16] rfl (by decide)).to ?_ ?_, by simp, rfl, rfl⟩ <;> simp [Function.comp_def, get_gcT, get, put, gcI, pullI, push1, pushI, pullS, pushS, gcH, patL, canL, canH, canTL, canT, segR, ix, upd, up1, mapC_rows, mapC_gone, pushC_rows, pushC_gone, pullP, pullV, pullSS, pullD, pullT, pullF, pushP, pushV, pushSS, pushD, pushT, pushF, pullD16, pushD16, prP, prV, prSS, prD, rowS, pull_I, push_I, pull_PE, push_PE])
            | false =>
              cases k3 : (d.role == 1) with
              | true =>
                have hcP := True.intro
                repeat' first
                  | with_reducible rfl
                  | simp only [hcP, encPD, encPEs_len, AHo, rowA, rowS, hw, mapC_rows, mapC_gone, pushC_rows, pushC_gone, pullV, pullSS, pullD, pullT, pushV, pushSS, pushD, pushT, pullD16, pushD16, encPEs_pull, encPEs_push, cP_s, cF_s, sIs_len, sIs_pull, sIs_push, e1, e2, hb0, hbN, hpp, encPE, hlt, Int.toNat_natCast, List.length_set, e3, e4, e5, k1, k2, k3, RS_, FB_, segR, ST_, seval, ne_eq, bne, forall_const, implies_true, TY_, WLS]
                  | (with_reducible refine drawK_id ?_); refine drawK_auto hmix (by kernel_rfl) ?_
                  | (with_reducible refine draw_fin ?_ ?_); · kernel_rfl
                  | (with_reducible refine draw_id ?_); kernel_rfl
                  | (with_reducible refine callK_id (f := 14) ?_); refine callK_fun (c_On p) rfl rfl ?_
                  | ((with_reducible refine callK_id (f := 30) ?_); refine callK_funW [] [8, 9, 10, 11, 12, 13, 14] (cr) (by simp [AH, Function.comp_def, pullHW, rowA, pullS, ix, pull_PE, encPEs_pull, mapC_rows, mapC_gone, pushC_rows, pushC_gone, pullP, pullV, pullSS, pullD, pullT, pullF, pushP, pushV, pushSS, pushD, pushT, pushF, pullD16, pushD16, cP_s, cF_s, setPEs, sIs_pull, setA, unplain, Function.comp_def]) rfl rfl (by decide) (by simp [cP, cV, cS, cD, cT, cF]) (by simp [pullI, pullS, ix, encPD, e5]) ?_; rintro r Hn ⟨rfl, rfl⟩ -; clear hcP)
                  | (with_reducible refine And.intro ?_ ?_; · omega)
                generalize replyA _ i p2 d = e at *
                have ce := c_end e
                have hcP := True.intro
                repeat' first
                  | with_reducible rfl
                  | simp only [hcP, AH2, rowA, rowS, mapC_rows, mapC_gone, pushC_rows, pushC_gone, pullP, pullV, pullSS, pullD, pullT, pullF, pushP, pushV, pushSS, pushD, pushT, pushF, pullD16, pushD16, RS_, FB_, segR, ST_, seval, ne_eq, bne, forall_const, implies_true, TY_, WLS]
                  | (with_reducible refine drawK_id ?_); refine drawK_auto hmix (by kernel_rfl) ?_
                  | (with_reducible refine draw_fin ?_ ?_); · kernel_rfl
                  | (with_reducible refine draw_id ?_); kernel_rfl
                  | ((with_reducible refine callK_id (f := 28) ?_); refine callK_funW [] [8, 9, 10, 11, 12, 15, 16] (ce) (by simp [AH, Function.comp_def, pullHW, rowA, pullS, ix, pull_PE, encPEs_pull, mapC_rows, mapC_gone, pushC_rows, pushC_gone, pullP, pullV, pullSS, pullD, pullT, pullF, pushP, pushV, pushSS, pushD, pushT, pushF, pullD16, pushD16]) rfl rfl (by decide) (by simp [cP, cV, cS, cD, cT, cF]) (by simp [pullI, pullS, ix]) ?_; rintro r Hn ⟨rfl, rfl⟩ -; clear hcP)
                  | (with_reducible refine And.intro ?_ ?_; · omega)
                repeat' first
                  | with_reducible rfl
                  | simp only [AH, rowA, rowS, mapC_rows, mapC_gone, pushC_rows, pushC_gone, pullP, pullV, pullSS, pullD, pullT, pullF, pushP, pushV, pushSS, pushD, pushT, pushF, pullD16, pushD16, RS_, FB_, segR, ST_, seval, ne_eq, bne, forall_const, implies_true, TY_, WLS]
                  | (with_reducible refine drawK_id ?_); refine drawK_auto hmix (by kernel_rfl) ?_
                  | (with_reducible refine draw_fin ?_ ?_); · kernel_rfl
                  | (with_reducible refine draw_id ?_); kernel_rfl
                  | (with_reducible refine And.intro ?_ ?_; · omega)
                all_goals (refine ⟨.t [.a (rowS 4 5 6 7 (e)), .a [.slice 8 0 (e).told.length, .slice 9 0 (e).fl.length]], [cP (e).ps, cV (e).vs, cS (e).ss, cD (e).ds, cT (e).told, cF (e).fl], (WkR.gc [0, 1, 2, 3, 9, 10, 11, 12, 15, 16] rfl (by decide)).to ?_ ?_, by simp, rfl, rfl⟩ <;> simp [Function.comp_def, get_gcT, get, put, gcI, pullI, push1, pushI, pullS, pushS, gcH, patL, canL, canH, canTL, canT, segR, ix, upd, up1, mapC_rows, mapC_gone, pushC_rows, pushC_gone, pullP, pullV, pullSS, pullD, pullT, pullF, pushP, pushV, pushSS, pushD, pushT, pushF, pullD16, pushD16, prP, prV, prSS, prD, rowS, pull_I, push_I, pull_PE, push_PE])
              | false =>
                have hcP := True.intro
                repeat' first
                  | with_reducible rfl
                  | simp only [hcP, encPD, encPEs_len, AHo, rowA, rowS, hw, mapC_rows, mapC_gone, pushC_rows, pushC_gone, pullV, pullSS, pullD, pullT, pushV, pushSS, pushD, pushT, pullD16, pushD16, encPEs_pull, encPEs_push, cP_s, cF_s, sIs_len, sIs_pull, sIs_push, e1, e2, hb0, hbN, hpp, encPE, hlt, Int.toNat_natCast, List.length_set, e3, e4, e5, k1, k2, k3, RS_, FB_, segR, ST_, seval, ne_eq, bne, forall_const, implies_true, TY_, WLS]
                  | (with_reducible refine drawK_id ?_); refine drawK_auto hmix (by kernel_rfl) ?_
                  | (with_reducible refine draw_fin ?_ ?_); · kernel_rfl
                  | (with_reducible refine draw_id ?_); kernel_rfl
                  | (with_reducible refine callK_id (f := 14) ?_); refine callK_fun (c_On p) rfl rfl ?_
                  | ((with_reducible refine callK_id (f := 31) ?_); refine callK_funW [] [8, 9, 10, 11, 12, 13, 14] (cn) (by simp [AH, Function.comp_def, pullHW, rowA, pullS, ix, pull_PE, encPEs_pull, mapC_rows, mapC_gone, pushC_rows, pushC_gone, pullP, pullV, pullSS, pullD, pullT, pullF, pushP, pushV, pushSS, pushD, pushT, pushF, pullD16, pushD16, cP_s, cF_s, setPEs, sIs_pull, setA, unplain, Function.comp_def]) rfl rfl (by decide) (by simp [cP, cV, cS, cD, cT, cF]) (by simp [pullI, pullS, ix, encPD, e5]) ?_; rintro r Hn ⟨rfl, rfl⟩ -; clear hcP)
                  | (with_reducible refine And.intro ?_ ?_; · omega)
                generalize newsA _ i p2 d = e at *
                have ce := c_end e
                have hcP := True.intro
                repeat' first
                  | with_reducible rfl
                  | simp only [hcP, AH2, rowA, rowS, mapC_rows, mapC_gone, pushC_rows, pushC_gone, pullP, pullV, pullSS, pullD, pullT, pullF, pushP, pushV, pushSS, pushD, pushT, pushF, pullD16, pushD16, RS_, FB_, segR, ST_, seval, ne_eq, bne, forall_const, implies_true, TY_, WLS]
                  | (with_reducible refine drawK_id ?_); refine drawK_auto hmix (by kernel_rfl) ?_
                  | (with_reducible refine draw_fin ?_ ?_); · kernel_rfl
                  | (with_reducible refine draw_id ?_); kernel_rfl
                  | ((with_reducible refine callK_id (f := 28) ?_); refine callK_funW [] [8, 9, 10, 11, 12, 15, 16] (ce) (by simp [AH, Function.comp_def, pullHW, rowA, pullS, ix, pull_PE, encPEs_pull, mapC_rows, mapC_gone, pushC_rows, pushC_gone, pullP, pullV, pullSS, pullD, pullT, pullF, pushP, pushV, pushSS, pushD, pushT, pushF, pullD16, pushD16]) rfl rfl (by decide) (by simp [cP, cV, cS, cD, cT, cF]) (by simp [pullI, pullS, ix]) ?_; rintro r Hn ⟨rfl, rfl⟩ -; clear hcP)
                  | (with_reducible refine And.intro ?_ ?_; · omega)
                repeat' first
                  | with_reducible rfl
                  | simp only [AH, rowA, rowS, mapC_rows, mapC_gone, pushC_rows, pushC_gone, pullP, pullV, pullSS, pullD, pullT, pullF, pushP, pushV, pushSS, pushD, pushT, pushF, pullD16, pushD16, RS_, FB_, segR, ST_, seval, ne_eq, bne, forall_const, implies_true, TY_, WLS]
                  | (with_reducible refine drawK_id ?_); refine drawK_auto hmix (by kernel_rfl) ?_
                  | (with_reducible refine draw_fin ?_ ?_); · kernel_rfl
                  | (with_reducible refine draw_id ?_); kernel_rfl
                  | (with_reducible refine And.intro ?_ ?_; · omega)
                all_goals (refine ⟨.t [.a (rowS 4 5 6 7 (e)), .a [.slice 8 0 (e).told.length, .slice 9 0 (e).fl.length]], [cP (e).ps, cV (e).vs, cS (e).ss, cD (e).ds, cT (e).told, cF (e).fl], (WkR.gc [0, 1, 2, 3, 9, 10, 11, 12, 15, 16] rfl (by decide)).to ?_ ?_, by simp, rfl, rfl⟩ <;> simp [Function.comp_def, get_gcT, get, put, gcI, pullI, push1, pushI, pullS, pushS, gcH, patL, canL, canH, canTL, canT, segR, ix, upd, up1, mapC_rows, mapC_gone, pushC_rows, pushC_gone, pullP, pullV, pullSS, pullD, pullT, pullF, pushP, pushV, pushSS, pushD, pushT, pushF, pullD16, pushD16, prP, prV, prSS, prD, rowS, pull_I, push_I, pull_PE, push_PE])
end Go.Ev
