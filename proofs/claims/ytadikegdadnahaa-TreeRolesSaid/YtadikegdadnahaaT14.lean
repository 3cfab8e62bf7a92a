/- A part of the proof: contracts of the functions that the statement reaches. -/
import Derived.Test.YtadikegdadnahaaT13
namespace Go.Ev
open Go.Proofs
set_option maxRecDepth 100000
set_option linter.unusedSimpArgs false
set_option linter.unusedVariables false
set_option maxHeartbeats 4000000
def sIs (l : List Int) : List (List SV) := l.map sI
theorem sIs_len (l : List Int) : (sIs l).length = l.length := List.length_map _
theorem sIs_pull (σ : List Nat) (l : List Int) : (sIs l).map (fun r => r.map (pullS σ)) = sIs l := by unfold sIs; rw [List.map_map]; rfl
theorem sIs_push (σ : List Nat) (l : List Int) : (sIs l).map (fun r => r.map (pushS σ)) = sIs l := by unfold sIs; rw [List.map_map]; rfl
theorem sIs_app (l : List Int) (x : Int) : sIs l ++ [[SV.raw (.int .i64 x)]] = sIs (l ++ [x]) := by unfold sIs; rw [List.map_append]; rfl
theorem cF_s (l : List Int) : cF l = .rows true 1 (sIs l) := rfl
def flushA (b : AS) (port : Int) (x : Bool) : AS := if x then { b with fl := b.fl ++ [port] } else b
def offB (p q : PE) : Bool := if onP p then !(onP q) else false
def switchT (a : AS) (port : Int) (up ad : Bool) : AS :=
  if decide (port < 1) then a else if decide ((a.ps.length : Int) < port) then a else match a.ps[(port - 1).toNat]? with
    | some p => chooseA (flushA (setA a (port - 1).toNat (switchP p up ad a.cf)) port (offB p (switchP p up ad a.cf)))
    | none => a
theorem flushA_fr (b : AS) (port : Int) (x : Bool) : FrA 1 b (flushA b port x) := by
  unfold flushA; split
  · exact ⟨rfl, rfl, by simp [szA]; omega⟩
  · exact (FrA.refl b).le (by omega)
theorem c_SwitchT (a : AS) (h : OkS a) (port : Int) (up ad : Bool) : FunW Try.prog 12 [rP a.ps, rV a.vs, rS a.ss, rD a.ds] [] [.a (rowS 0 1 2 3 a), .s (.raw (.int .i64 port)), .s (.raw (.bool up)), .s (.raw (.bool ad))] (PostS (switchT (noT a) port up ad)) := by
  refine funW_of fun X => ?_
  refine callK_inline (rs := [.cell 8 42, .cell 9 47]) (n := 82) Try.func12 rfl rfl rfl (by kernel_rfl) (by kernel_rfl) (by simp only [List.length_cons, List.length_nil]; decide) ?_
  obtain ⟨b, hb⟩ : ∃ b, noT a = b := ⟨_, rfl⟩
  have hps : b.ps = a.ps := by rw [← hb]; rfl
  have hsz : szA b = 0 := by rw [← hb]; rfl
  have hn := h.ps
  have h1 := c_begin a h
  rw [hb] at h1 ⊢
  have ce := c_end b
  have hcP := True.intro
  repeat' first
    | with_reducible rfl
    | simp only [rowS, hcP, mapC_rows, mapC_gone, pushC_rows, pushC_gone, pullP, pullV, pullSS, pullD, pullT, pullF, pushP, pushV, pushSS, pushD, pushT, pushF, pullD16, pushD16, RS_, FB_, segR, ST_, seval, ne_eq, bne, forall_const, implies_true, TY_, WLS]
    | (with_reducible refine drawK_id ?_); refine drawK_auto hmix (by kernel_rfl) ?_
    | (with_reducible refine draw_fin ?_ ?_); · kernel_rfl
    | (with_reducible refine draw_id ?_); kernel_rfl
    | ((with_reducible refine callK_id (f := 25) ?_); refine callK_funW [0, 1, 2, 3] [] h1 (by simp [pullHW, roC_rP, roC_rV, roC_rS, roC_rD]) rfl rfl (by decide) (by simp [rP, rV, rS, rD]) (by simp [pullI, pullS, ix, rowS]) ?_; rintro r Hn ⟨rfl, rfl⟩ -; clear hcP)
    | (with_reducible refine And.intro ?_ ?_; · omega)
  cases e1 : decide (port < 1) with
  | true =>
    have hmod : switchT b port up ad = b := by simp only [switchT, e1, if_true]
    have hcP := True.intro
    repeat' first
      | with_reducible rfl
      | simp only [hcP, AHo, rowA, rowS, mapC_rows, mapC_gone, pushC_rows, pushC_gone, pullP, pullV, pullSS, pullD, pullT, pullF, pushP, pushV, pushSS, pushD, pushT, pushF, pullD16, pushD16, e1, RS_, FB_, segR, ST_, seval, ne_eq, bne, forall_const, implies_true, TY_, WLS]
      | (with_reducible refine drawK_id ?_); refine drawK_auto hmix (by kernel_rfl) ?_
      | (with_reducible refine draw_fin ?_ ?_); · kernel_rfl
      | (with_reducible refine draw_id ?_); kernel_rfl
      | ((with_reducible refine callK_id (f := 28) ?_); refine callK_funW [] [7, 8, 9, 10, 11, 12, 13] (ce) (by simp [AH, Function.comp_def, pullHW, rowA, pullS, ix, pull_PE, encPEs_pull, mapC_rows, mapC_gone, pushC_rows, pushC_gone, pullP, pullV, pullSS, pullD, pullT, pullF, pushP, pushV, pushSS, pushD, pushT, pushF, pullD16, pushD16]) rfl rfl (by decide) (by simp [cP, cV, cS, cD, cT, cF]) (by simp [pullI, pullS, ix]) ?_; rintro r Hn ⟨rfl, rfl⟩ -; clear hcP)
      | (with_reducible refine And.intro ?_ ?_; · omega)
    repeat' first
      | with_reducible rfl
      | simp only [AH, rowA, rowS, mapC_rows, mapC_gone, pushC_rows, pushC_gone, pullP, pullV, pullSS, pullD, pullT, pullF, pushP, pushV, pushSS, pushD, pushT, pushF, pullD16, pushD16, RS_, FB_, segR, ST_, seval, ne_eq, bne, forall_const, implies_true, TY_, WLS]
      | (with_reducible refine drawK_id ?_); refine drawK_auto hmix (by kernel_rfl) ?_
      | (with_reducible refine draw_fin ?_ ?_); · kernel_rfl
      | (with_reducible refine draw_id ?_); kernel_rfl
      | (with_reducible refine And.intro ?_ ?_; · omega)
    rw [hmod]
    all_goals (refine ⟨.t [.a (rowS 4 5 6 7 (b)), .a [.slice 8 0 (b).told.length, .slice 9 0 (b).fl.length]], [cP (b).ps, cV (b).vs, cS (b).ss, cD (b).ds, cT (b).told, cF (b).fl], (WkR.gc [0, 1, 2, 3, 8, 9, 10, 11, 12, 13] rfl (by decide)).to ?_ ?_, by simp, rfl, rfl⟩ <;> simp [Function.comp_def, get_gcT, get, put, gcI, pullI, push1, pushI, pullS, pushS, gcH, patL, canL, canH, canTL, canT, segR, ix, upd, up1, mapC_rows, mapC_gone, pushC_rows, pushC_gone, pullP, pullV, pullSS, pullD, pullT, pullF, pushP, pushV, pushSS, pushD, pushT, pushF, pullD16, pushD16, prP, prV, prSS, prD, rowS, pull_I, push_I, pull_PE, push_PE])
  | false =>
  cases e2 : decide ((b.ps.length : Int) < port) with
  | true =>
    have hmod : switchT b port up ad = b := by simp only [switchT, e1, e2, Bool.false_eq_true, if_true, if_false]
    have hcP := True.intro
    repeat' first
      | with_reducible rfl
      | simp only [hcP, AHo, rowA, rowS, mapC_rows, mapC_gone, pushC_rows, pushC_gone, pullP, pullV, pullSS, pullD, pullT, pullF, pushP, pushV, pushSS, pushD, pushT, pushF, pullD16, pushD16, e1, e2, RS_, FB_, segR, ST_, seval, ne_eq, bne, forall_const, implies_true, TY_, WLS]
      | (with_reducible refine drawK_id ?_); refine drawK_auto hmix (by kernel_rfl) ?_
      | (with_reducible refine draw_fin ?_ ?_); · kernel_rfl
      | (with_reducible refine draw_id ?_); kernel_rfl
      | ((with_reducible refine callK_id (f := 28) ?_); refine callK_funW [] [7, 8, 9, 10, 11, 12, 13] (ce) (by simp [AH, Function.comp_def, pullHW, rowA, pullS, ix, pull_PE, encPEs_pull, mapC_rows, mapC_gone, pushC_rows, pushC_gone, pullP, pullV, pullSS, pullD, pullT, pullF, pushP, pushV, pushSS, pushD, pushT, pushF, pullD16, pushD16]) rfl rfl (by decide) (by simp [cP, cV, cS, cD, cT, cF]) (by simp [pullI, pullS, ix]) ?_; rintro r Hn ⟨rfl, rfl⟩ -; clear hcP)
      | (with_reducible refine And.intro ?_ ?_; · omega)
    repeat' first
      | with_reducible rfl
      | simp only [AH, rowA, rowS, mapC_rows, mapC_gone, pushC_rows, pushC_gone, pullP, pullV, pullSS, pullD, pullT, pullF, pushP, pushV, pushSS, pushD, pushT, pushF, pullD16, pushD16, RS_, FB_, segR, ST_, seval, ne_eq, bne, forall_const, implies_true, TY_, WLS]
      | (with_reducible refine drawK_id ?_); refine drawK_auto hmix (by kernel_rfl) ?_
      | (with_reducible refine draw_fin ?_ ?_); · kernel_rfl
      | (with_reducible refine draw_id ?_); kernel_rfl
      | (with_reducible refine And.intro ?_ ?_; · omega)
    rw [hmod]
    all_goals (refine ⟨.t [.a (rowS 4 5 6 7 (b)), .a [.slice 8 0 (b).told.length, .slice 9 0 (b).fl.length]], [cP (b).ps, cV (b).vs, cS (b).ss, cD (b).ds, cT (b).told, cF (b).fl], (WkR.gc [0, 1, 2, 3, 8, 9, 10, 11, 12, 13] rfl (by decide)).to ?_ ?_, by simp, rfl, rfl⟩ <;> simp [Function.comp_def, get_gcT, get, put, gcI, pullI, push1, pushI, pullS, pushS, gcH, patL, canL, canH, canTL, canT, segR, ix, upd, up1, mapC_rows, mapC_gone, pushC_rows, pushC_gone, pullP, pullV, pullSS, pullD, pullT, pullF, pushP, pushV, pushSS, pushD, pushT, pushF, pullD16, pushD16, prP, prV, prSS, prD, rowS, pull_I, push_I, pull_PE, push_PE])
  | false =>
    have r1 := of_decide_eq_false e1
    have r2 := of_decide_eq_false e2
    obtain ⟨i, hi⟩ : ∃ i : Nat, port = (i : Int) + 1 := ⟨(port - 1).toNat, by omega⟩
    have hti : (port - 1).toNat = i := by omega
    have hlt : i < b.ps.length := by omega
    obtain ⟨p, hp⟩ : ∃ p, b.ps[i]? = some p := ⟨_, List.getElem?_eq_getElem hlt⟩
    have hpp := encPEs_get hp
    have hw : IntKind.i64.wrap (port - 1) = (i : Int) := by rw [hi, wr_i64 (by have := hps ▸ hlt; omega) (by have := hps ▸ hlt; omega)]; omega
    have hb0 : (0 : Int) ≤ (i : Int) := by omega
    have hbN : (i : Int) < (b.ps.length : Int) := by omega
    obtain ⟨q, hq⟩ : ∃ q, switchP p up ad b.cf = q := ⟨_, rfl⟩
    have cw := c_Switch p up ad b.cf
    rw [hq] at cw
    obtain ⟨o, ho⟩ : ∃ o, offB p q = o := ⟨_, rfl⟩
    have hmod : switchT b port up ad = chooseA (flushA (setA b i q) port o) := by
      simp only [switchT, e1, e2, hti, hp, hq, ho, Bool.false_eq_true, if_false]
    have f1 := (setA_fr b i q).trans (flushA_fr (setA b i q) port o)
    have hl2 := f1.len
    have hs2 := f1.sz
    have cc := c_choose (flushA (setA b i q) port o) (by rw [hl2, hps]; exact hn) (by omega)
    rw [hmod]
    have hset : ∀ r, ((encPEs b.ps).set i r)[i]? = some r := fun r => by simp [encPEs_len, hlt]
    have hfl : b.fl.length ≤ 1000000 := by have := szA_f b; omega
    clear hmod f1 hs2
    cases e3 : onP p with
    | true =>
      cases e4 : onP q with
      | true =>
        have hcP := True.intro
        have hcP2 := cP_s
        have hov : o = false := by rw [← ho]; simp only [offB, e3, e4, if_true, if_false, Bool.false_eq_true, Bool.not_true, Bool.not_false]
        subst hov
        repeat' first
          | with_reducible rfl
          | simp only [hcP, hcP2, encPEs_len, AHo, rowA, rowS, mapC_rows, mapC_gone, pushC_rows, pushC_gone, pullV, pullSS, pullD, pullT, pushV, pushSS, pushD, pushT, pullD16, pushD16, encPEs_pull, encPEs_push, cF_s, sIs_len, sIs_pull, sIs_push, e1, e2, hw, hb0, hbN, hpp, hset, encPE, hlt, Int.toNat_natCast, List.length_set, List.length_map, e3, e4, RS_, FB_, segR, ST_, seval, ne_eq, bne, forall_const, implies_true, TY_, WLS]
          | (with_reducible refine drawK_id ?_); refine drawK_auto hmix (by kernel_rfl) ?_
          | (with_reducible refine draw_fin ?_ ?_); · kernel_rfl
          | (with_reducible refine draw_id ?_); kernel_rfl
          | (with_reducible refine callD_id (f := 26) ?_); refine callD_of (cw) rfl rfl ?_
          | ((with_reducible refine callK_id (f := 14) ?_); first | refine callK_fun (c_On p) rfl rfl ?_ | refine callK_fun (c_On q) rfl rfl ?_)
          | ((with_reducible refine callK_id (f := 27) ?_); refine callK_funW [] [7, 8, 9, 10, 11, 12, 13] (cc) (by simp [AH, Function.comp_def, pullHW, rowA, pullS, ix, pull_PE, encPEs_pull, mapC_rows, mapC_gone, pushC_rows, pushC_gone, pullP, pullV, pullSS, pullD, pullT, pullF, pushP, pushV, pushSS, pushD, pushT, pushF, pullD16, pushD16, flushA, setA, cP_s, setPEs, cF_s, sIs_app, sIs_pull, Function.comp_def]) rfl rfl (by decide) (by simp [cP, cV, cS, cD, cT, cF]) (by simp [pullI, pullS, ix]) ?_; rintro r Hn ⟨rfl, rfl⟩ -; clear hcP)
          | (with_reducible refine And.intro ?_ ?_; · omega)
        clear hcP2
        clear ce
        generalize chooseA _ = c
        have ce := c_end c
        have hcP := True.intro
        repeat' first
          | with_reducible rfl
          | simp only [hcP, AH2, rowA, rowS, mapC_rows, mapC_gone, pushC_rows, pushC_gone, pullP, pullV, pullSS, pullD, pullT, pullF, pushP, pushV, pushSS, pushD, pushT, pushF, pullD16, pushD16, RS_, FB_, segR, ST_, seval, ne_eq, bne, forall_const, implies_true, TY_, WLS]
          | (with_reducible refine drawK_id ?_); refine drawK_auto hmix (by kernel_rfl) ?_
          | (with_reducible refine draw_fin ?_ ?_); · kernel_rfl
          | (with_reducible refine draw_id ?_); kernel_rfl
          | ((with_reducible refine callK_id (f := 28) ?_); refine callK_funW [] [7, 8, 9, 10, 11, 14, 15] (ce) (by simp [AH, Function.comp_def, pullHW, rowA, pullS, ix, pull_PE, encPEs_pull, mapC_rows, mapC_gone, pushC_rows, pushC_gone, pullP, pullV, pullSS, pullD, pullT, pullF, pushP, pushV, pushSS, pushD, pushT, pushF, pullD16, pushD16]) rfl rfl (by decide) (by simp [cP, cV, cS, cD, cT, cF]) (by simp [pullI, pullS, ix]) ?_; rintro r Hn ⟨rfl, rfl⟩ -; clear hcP)
          | (with_reducible refine And.intro ?_ ?_; · omega)
        repeat' first
          | with_reducible rfl
          | simp only [AH, rowA, rowS, mapC_rows, mapC_gone, pushC_rows, pushC_gone, pullP, pullV, pullSS, pullD, pullT, pullF, pushP, pushV, pushSS, pushD, pushT, pushF, pullD16, pushD16, RS_, FB_, segR, ST_, seval, ne_eq, bne, forall_const, implies_true, TY_, WLS]
          | (with_reducible refine drawK_id ?_); refine drawK_auto hmix (by kernel_rfl) ?_
          | (with_reducible refine draw_fin ?_ ?_); · kernel_rfl
          | (with_reducible refine draw_id ?_); kernel_rfl
          | (with_reducible refine And.intro ?_ ?_; · omega)
        all_goals (refine ⟨.t [.a (rowS 4 5 6 7 (c)), .a [.slice 8 0 (c).told.length, .slice 9 0 (c).fl.length]], [cP (c).ps, cV (c).vs, cS (c).ss, cD (c).ds, cT (c).told, cF (c).fl], (WkR.gc [0, 1, 2, 3, 8, 9, 10, 11, 14, 15] rfl (by decide)).to ?_ ?_, by simp, rfl, rfl⟩ <;> simp [Function.comp_def, get_gcT, get, put, gcI, pullI, push1, pushI, pullS, pushS, gcH, patL, canL, canH, canTL, canT, segR, ix, upd, up1, mapC_rows, mapC_gone, pushC_rows, pushC_gone, pullP, pullV, pullSS, pullD, pullT, pullF, pushP, pushV, pushSS, pushD, pushT, pushF, pullD16, pushD16, prP, prV, prSS, prD, rowS, pull_I, push_I, pull_PE, push_PE])
      | false =>
        have hcP := True.intro
        have hcP2 := cP_s
        have hov : o = true := by rw [← ho]; simp only [offB, e3, e4, if_true, if_false, Bool.false_eq_true, Bool.not_true, Bool.not_false]
        subst hov
        repeat' first
          | with_reducible rfl
          | simp only [hcP, hcP2, encPEs_len, AHo, rowA, rowS, mapC_rows, mapC_gone, pushC_rows, pushC_gone, pullV, pullSS, pullD, pullT, pushV, pushSS, pushD, pushT, pullD16, pushD16, encPEs_pull, encPEs_push, cF_s, sIs_len, sIs_pull, sIs_push, e1, e2, hw, hb0, hbN, hpp, hset, encPE, hlt, Int.toNat_natCast, List.length_set, List.length_map, e3, e4, RS_, FB_, segR, ST_, seval, ne_eq, bne, forall_const, implies_true, TY_, WLS]
          | (with_reducible refine drawK_id ?_); refine drawK_auto hmix (by kernel_rfl) ?_
          | (with_reducible refine draw_fin ?_ ?_); · kernel_rfl
          | (with_reducible refine draw_id ?_); kernel_rfl
          | (with_reducible refine callD_id (f := 26) ?_); refine callD_of (cw) rfl rfl ?_
          | ((with_reducible refine callK_id (f := 14) ?_); first | refine callK_fun (c_On p) rfl rfl ?_ | refine callK_fun (c_On q) rfl rfl ?_)
          | ((with_reducible refine callK_id (f := 27) ?_); refine callK_funW [] [7, 8, 9, 10, 11, 12, 15] (cc) (by simp [AH, Function.comp_def, pullHW, rowA, pullS, ix, pull_PE, encPEs_pull, mapC_rows, mapC_gone, pushC_rows, pushC_gone, pullP, pullV, pullSS, pullD, pullT, pullF, pushP, pushV, pushSS, pushD, pushT, pushF, pullD16, pushD16, flushA, setA, cP_s, setPEs, cF_s, sIs_app, sIs_pull, Function.comp_def]) rfl rfl (by decide) (by simp [cP, cV, cS, cD, cT, cF]) (by simp [pullI, pullS, ix]) ?_; rintro r Hn ⟨rfl, rfl⟩ -; clear hcP)
          | (with_reducible refine And.intro ?_ ?_; · omega)
        clear hcP2
        clear ce
        generalize chooseA _ = c
        have ce := c_end c
        have hcP := True.intro
        repeat' first
          | with_reducible rfl
          | simp only [hcP, AH2, rowA, rowS, mapC_rows, mapC_gone, pushC_rows, pushC_gone, pullP, pullV, pullSS, pullD, pullT, pullF, pushP, pushV, pushSS, pushD, pushT, pushF, pullD16, pushD16, RS_, FB_, segR, ST_, seval, ne_eq, bne, forall_const, implies_true, TY_, WLS]
          | (with_reducible refine drawK_id ?_); refine drawK_auto hmix (by kernel_rfl) ?_
          | (with_reducible refine draw_fin ?_ ?_); · kernel_rfl
          | (with_reducible refine draw_id ?_); kernel_rfl
          | ((with_reducible refine callK_id (f := 28) ?_); refine callK_funW [] [7, 8, 9, 10, 11, 16, 17] (ce) (by simp [AH, Function.comp_def, pullHW, rowA, pullS, ix, pull_PE, encPEs_pull, mapC_rows, mapC_gone, pushC_rows, pushC_gone, pullP, pullV, pullSS, pullD, pullT, pullF, pushP, pushV, pushSS, pushD, pushT, pushF, pullD16, pushD16]) rfl rfl (by decide) (by simp [cP, cV, cS, cD, cT, cF]) (by simp [pullI, pullS, ix]) ?_; rintro r Hn ⟨rfl, rfl⟩ -; clear hcP)
          | (with_reducible refine And.intro ?_ ?_; · omega)
        repeat' first
          | with_reducible rfl
          | simp only [AH, rowA, rowS, mapC_rows, mapC_gone, pushC_rows, pushC_gone, pullP, pullV, pullSS, pullD, pullT, pullF, pushP, pushV, pushSS, pushD, pushT, pushF, pullD16, pushD16, RS_, FB_, segR, ST_, seval, ne_eq, bne, forall_const, implies_true, TY_, WLS]
          | (with_reducible refine drawK_id ?_); refine drawK_auto hmix (by kernel_rfl) ?_
          | (with_reducible refine draw_fin ?_ ?_); · kernel_rfl
          | (with_reducible refine draw_id ?_); kernel_rfl
          | (with_reducible refine And.intro ?_ ?_; · omega)
        all_goals (refine ⟨.t [.a (rowS 4 5 6 7 (c)), .a [.slice 8 0 (c).told.length, .slice 9 0 (c).fl.length]], [cP (c).ps, cV (c).vs, cS (c).ss, cD (c).ds, cT (c).told, cF (c).fl], (WkR.gc [0, 1, 2, 3, 8, 9, 10, 11, 16, 17] rfl (by decide)).to ?_ ?_, by simp, rfl, rfl⟩ <;> simp [Function.comp_def, get_gcT, get, put, gcI, pullI, push1, pushI, pullS, pushS, gcH, patL, canL, canH, canTL, canT, segR, ix, upd, up1, mapC_rows, mapC_gone, pushC_rows, pushC_gone, pullP, pullV, pullSS, pullD, pullT, pullF, pushP, pushV, pushSS, pushD, pushT, pushF, pullD16, pushD16, prP, prV, prSS, prD, rowS, pull_I, push_I, pull_PE, push_PE])
    | false =>
      have hcP := True.intro
      have hcP2 := cP_s
      have hov : o = false := by rw [← ho]; simp only [offB, e3, if_true, if_false, Bool.false_eq_true, Bool.not_true, Bool.not_false]
      subst hov
      repeat' first
        | with_reducible rfl
        | simp only [hcP, hcP2, encPEs_len, AHo, rowA, rowS, mapC_rows, mapC_gone, pushC_rows, pushC_gone, pullV, pullSS, pullD, pullT, pushV, pushSS, pushD, pushT, pullD16, pushD16, encPEs_pull, encPEs_push, cF_s, sIs_len, sIs_pull, sIs_push, e1, e2, hw, hb0, hbN, hpp, hset, encPE, hlt, Int.toNat_natCast, List.length_set, List.length_map, e3, RS_, FB_, segR, ST_, seval, ne_eq, bne, forall_const, implies_true, TY_, WLS]
        | (with_reducible refine drawK_id ?_); refine drawK_auto hmix (by kernel_rfl) ?_
        | (with_reducible refine draw_fin ?_ ?_); · kernel_rfl
        | (with_reducible refine draw_id ?_); kernel_rfl
        | (with_reducible refine callD_id (f := 26) ?_); refine callD_of (cw) rfl rfl ?_
        | ((with_reducible refine callK_id (f := 14) ?_); first | refine callK_fun (c_On p) rfl rfl ?_ | refine callK_fun (c_On q) rfl rfl ?_)
        | ((with_reducible refine callK_id (f := 27) ?_); refine callK_funW [] [7, 8, 9, 10, 11, 12, 13] (cc) (by simp [AH, Function.comp_def, pullHW, rowA, pullS, ix, pull_PE, encPEs_pull, mapC_rows, mapC_gone, pushC_rows, pushC_gone, pullP, pullV, pullSS, pullD, pullT, pullF, pushP, pushV, pushSS, pushD, pushT, pushF, pullD16, pushD16, flushA, setA, cP_s, setPEs, cF_s, sIs_app, sIs_pull, Function.comp_def]) rfl rfl (by decide) (by simp [cP, cV, cS, cD, cT, cF]) (by simp [pullI, pullS, ix]) ?_; rintro r Hn ⟨rfl, rfl⟩ -; clear hcP)
        | (with_reducible refine And.intro ?_ ?_; · omega)
      clear hcP2
      clear ce
      generalize chooseA _ = c
      have ce := c_end c
      have hcP := True.intro
      repeat' first
        | with_reducible rfl
        | simp only [hcP, AH2, rowA, rowS, mapC_rows, mapC_gone, pushC_rows, pushC_gone, pullP, pullV, pullSS, pullD, pullT, pullF, pushP, pushV, pushSS, pushD, pushT, pushF, pullD16, pushD16, RS_, FB_, segR, ST_, seval, ne_eq, bne, forall_const, implies_true, TY_, WLS]
        | (with_reducible refine drawK_id ?_); refine drawK_auto hmix (by kernel_rfl) ?_
        | (with_reducible refine draw_fin ?_ ?_); · kernel_rfl
        | (with_reducible refine draw_id ?_); kernel_rfl
        | ((with_reducible refine callK_id (f := 28) ?_); refine callK_funW [] [7, 8, 9, 10, 11, 14, 15] (ce) (by simp [AH, Function.comp_def, pullHW, rowA, pullS, ix, pull_PE, encPEs_pull, mapC_rows, mapC_gone, pushC_rows, pushC_gone, pullP, pullV, pullSS, pullD, pullT, pullF, pushP, pushV, pushSS, pushD, pushT, pushF, pullD16, pushD16]) rfl rfl (by decide) (by simp [cP, cV, cS, cD, cT, cF]) (by simp [pullI, pullS, ix]) ?_; rintro r Hn ⟨rfl, rfl⟩ -; clear hcP)
        | (with_reducible refine And.intro ?_ ?_; · omega)
      repeat' first
        | with_reducible rfl
        | simp only [AH, rowA, rowS, mapC_rows, mapC_gone, pushC_rows, pushC_gone, pullP, pullV, pullSS, pullD, pullT, pullF, pushP, pushV, pushSS, pushD, pushT, pushF, pullD16, pushD16, RS_, FB_, segR, ST_, seval, ne_eq, bne, forall_const, implies_true, TY_, WLS]
        | (with_reducible refine drawK_id ?_); refine drawK_auto hmix (by kernel_rfl) ?_
        | (with_reducible refine draw_fin ?_ ?_); · kernel_rfl
        | (with_reducible refine draw_id ?_); kernel_rfl
        | (with_reducible refine And.intro ?_ ?_; · omega)
      all_goals (refine ⟨.t [.a (rowS 4 5 6 7 (c)), .a [.slice 8 0 (c).told.length, .slice 9 0 (c).fl.length]], [cP (c).ps, cV (c).vs, cS (c).ss, cD (c).ds, cT (c).told, cF (c).fl], (WkR.gc [0, 1, 2, 3, 8, 9, 10, 11, 14, 15] rfl (by decide)).to ?_ ?_, by simp, rfl, rfl⟩ <;> simp [Function.comp_def, get_gcT, get, put, gcI, pullI, push1, pushI, pullS, pushS, gcH, patL, canL, canH, canTL, canT, segR, ix, upd, up1, mapC_rows, mapC_gone, pushC_rows, pushC_gone, pullP, pullV, pullSS, pullD, pullT, pullF, pushP, pushV, pushSS, pushD, pushT, pushF, pullD16, pushD16, prP, prV, prSS, prD, rowS, pull_I, push_I, pull_PE, push_PE])
end Go.Ev
