/- A part of the proof: contracts of the functions that the statement reaches. -/
import Derived.Test.YtadikegdadnahaaT16
namespace Go.Ev
open Go.Proofs
set_option maxRecDepth 100000
set_option linter.unusedSimpArgs false
set_option linter.unusedVariables false
set_option maxHeartbeats 4000000
theorem c_with (v : V4) : Fun Try.prog 46 [.a (encV v)] (.a (encPD (pduV v))) := by
  refine fun_of rfl fun X => ?_
  refine callK_inline (rs := [.cell 2 55]) (n := 12) Try.func46 rfl rfl rfl (by kernel_rfl) (by kernel_rfl) (by simp only [List.length_cons, List.length_nil]; decide) ?_
  repeat' first
    | with_reducible rfl
    | simp only [*, pduV, encPD, encV, RS_, FB_, mapC, pushC, segR, ST_, seval, ne_eq, bne, forall_const, implies_true, TY_, WLS]
    | with_reducible refine g_eq (fun h => ?_) (fun h => ?_)
    | with_reducible refine gdb_split (fun h => ?_) (fun h => ?_)
    | (with_reducible refine drawK_id ?_); refine drawK_auto hmix (by kernel_rfl) ?_
    | (with_reducible refine draw_fin ?_ ?_); · kernel_rfl
    | (with_reducible refine draw_id ?_); kernel_rfl
    | (with_reducible refine And.intro ?_ ?_; · omega)
theorem c_with' {v_0 v_1 v_2 v_3 : Int} : Fun Try.prog 46 [.a [.raw (.int .u64 v_0), .raw (.int .u32 v_1), .raw (.int .u64 v_2), .raw (.int .u16 v_3)]] (.a (encPD (pduV ⟨v_0, v_1, v_2, v_3⟩))) := c_with ⟨v_0, v_1, v_2, v_3⟩
theorem rF_s (l : List Int) : rF l = .rows false 1 (sIs l) := rfl
theorem rP_s (l : List PE) : rP l = .rows false 21 (encPEs l) := rfl
def leadOk (p : PE) : Bool := if onP p then !(edgeP p) else false
def leadL (p : PE) : Bool := if leadOk p then leadsP p else false
theorem c_lead (a : AS) (i : Nat) (p : PE) (hp : a.ps[i]? = some p) : FunR Try.prog 47 (AHr a) [.s (.ptr 0 0 0), .s (.raw (.int .i64 (i : Int)))] (.t [.s (.raw (.bool (leadOk p))), .s (.raw (.bool (leadL p)))]) := by
  refine funR_of rfl fun X => ?_
  refine callK_inline (rs := [.tmp 4, .tmp 5]) (n := 43) Try.func47 rfl rfl rfl (by kernel_rfl) (by kernel_rfl) (by simp only [List.length_cons, List.length_nil]; decide) ?_
  have hlt : i < a.ps.length := (List.getElem?_eq_some_iff.1 hp).1
  have hb0 : (0 : Int) ≤ (i : Int) := by omega
  have hbN : (i : Int) < (a.ps.length : Int) := by omega
  have hpr : (a.ps.map encPE)[i]? = some (encPE p) := by rw [List.getElem?_map, hp]; rfl
  unfold AHr rP
  repeat' first
    | with_reducible rfl
    | simp only [*, hb0, hbN, hpr, rowA, encPE, leadOk, leadL, leadsP, onP, edgeP, List.length_map, Int.toNat_natCast, RS_, FB_, mapC, pushC, segR, ST_, seval, ne_eq, bne, forall_const, implies_true, TY_, WLS]
    | with_reducible refine gdb_split (fun h => ?_) (fun h => ?_)
    | (with_reducible refine drawK_id ?_); refine drawK_auto hmix (by kernel_rfl) ?_
    | (with_reducible refine draw_fin ?_ ?_); · kernel_rfl
    | (with_reducible refine draw_id ?_); kernel_rfl
    | (with_reducible refine And.intro ?_ ?_; · omega)
def I_tch (c : AS) (j : Nat) (m : Nat) (tm : TM) (H : Heap) : Prop := ∃ i : Nat, m = c.ps.length - i ∧ i ≤ c.ps.length ∧ get tm 0 = .s (.ptr 0 0 0) ∧ get tm 1 = .s (.raw (.int .i64 (j : Int))) ∧ get tm 5 = .s (.raw (.int .i64 (i : Int))) ∧ H = AH2 (itA (sprI (j : Int) true) c i)
theorem c_tchanged (a : AS) (j : Nat) (p : PE) (hn : a.ps.length ≤ 100) (hp : a.ps[j]? = some p) (hb : szA a ≤ 900000) : FunW Try.prog 44 [] (AH a) [.s (.ptr 0 0 0), .s (.raw (.int .i64 (j : Int)))] fun r Hn => r = .t [] ∧ Hn = AH2 (changedA a j p) := by
  refine funW_of fun X => ?_
  refine callK_inline (rs := []) (n := 87) Try.func44 rfl rfl rfl (by kernel_rfl) (by kernel_rfl) (by simp only [List.length_cons, List.length_nil]; decide) ?_
  unfold AH
  have hlt : j < a.ps.length := (List.getElem?_eq_some_iff.1 hp).1
  have hb0 : (0 : Int) ≤ (j : Int) := by omega
  have hbN : (j : Int) < (a.ps.length : Int) := by omega
  have hps := encPEs_get hp
  have hedge : edgeP p = if p.ed then p.pl else false := rfl
  have hcP := cP_s
  cases e1 : p.ed with
  | true =>
    cases e2 : p.pl with
    | true =>
      rw [e1, e2] at hedge
      repeat' first
        | with_reducible rfl
        | simp only [rowA, hcP, encPEs_len, hb0, hbN, hps, hlt, encPE, Int.toNat_natCast, List.length_set, e1, e2, RS_, FB_, segR, ST_, seval, ne_eq, bne, forall_const, implies_true, TY_, WLS]
        | (with_reducible refine drawK_id ?_); refine drawK_auto hmix (by kernel_rfl) ?_
        | (with_reducible refine draw_fin ?_ ?_); · kernel_rfl
        | (with_reducible refine draw_id ?_); kernel_rfl
        | (with_reducible refine And.intro ?_ ?_; · omega)
      all_goals (refine ⟨.t [], AH2 (changedA a j p), (WkR.can [(17, 0, 0, 25), (1, 0, 0, 26)] [.inl 0, .inl 1, .inl 2, .inl 3, .inl 4, .inl 5, .inl 6, .inr 0, .inr 1] rfl (by simp [patL])).to rfl ?_, by simp [AH2], rfl, rfl⟩; simp [Function.comp_def, get_gcT, get, put, gcI, pullI, push1, pushI, pullS, pushS, gcH, patL, canL, canH, canTL, canT, segR, ix, upd, up1, mapC_rows, mapC_gone, pushC_rows, pushC_gone, pullP, pullV, pullSS, pullD, pullT, pullF, pushP, pushV, pushSS, pushD, pushT, pushF, pullD16, pushD16, AH2, rowA, cT, cF, pull_I, push_I, pull_PE, push_PE, changedA, hedge, cP_s, encPEs_pull])
    | false =>
      have hed : edgeP p = false := by rw [hedge, e1, e2]; rfl
      clear hedge
      repeat' first
        | with_reducible rfl
        | simp only [rowA, hcP, encPEs_len, hb0, hbN, hps, hlt, encPE, Int.toNat_natCast, List.length_set, e1, e2, RS_, FB_, segR, ST_, seval, ne_eq, bne, forall_const, implies_true, TY_, WLS]
        | (with_reducible refine drawK_id ?_); refine drawK_auto hmix (by kernel_rfl) ?_
        | (with_reducible refine draw_fin ?_ ?_); · kernel_rfl
        | (with_reducible refine draw_id ?_); kernel_rfl
        | (with_reducible refine And.intro ?_ ?_; · omega)
      have hcl : (chA a j p).ps.length = a.ps.length := by simp [chA]
      refine loopK_wk (by kernel_rfl) (I_tch (chA a j p) j) (chA a j p).ps.length ⟨_, _, Wk.can [(17, 0, 0, 25), (1, 0, 0, 26)] [.inl 0, .inl 1, .inl 2, .inl 3, .inl 4, .inl 5, .inl 6, .inr 0, .inr 1] rfl (by simp [patL]), 0, by omega, by omega, ?_, ?_, ?_, ?_⟩ ?_
      · simp [Function.comp_def, get_gcT, get, put, gcI, pullI, push1, pushI, pullS, pushS, gcH, patL, canL, canH, canTL, canT, segR, ix, upd, up1, mapC_rows, mapC_gone, pushC_rows, pushC_gone, pullP, pullV, pullSS, pullD, pullT, pullF, pushP, pushV, pushSS, pushD, pushT, pushF, pullD16, pushD16, AH2, rowA, cP_s, encPEs_pull, encPEs_push, cT, cF, pull_I, push_I, pull_PE, push_PE, itA, chA, setPEs, e1, e2]
      · simp [Function.comp_def, get_gcT, get, put, gcI, pullI, push1, pushI, pullS, pushS, gcH, patL, canL, canH, canTL, canT, segR, ix, upd, up1, mapC_rows, mapC_gone, pushC_rows, pushC_gone, pullP, pullV, pullSS, pullD, pullT, pullF, pushP, pushV, pushSS, pushD, pushT, pushF, pullD16, pushD16, AH2, rowA, cP_s, encPEs_pull, encPEs_push, cT, cF, pull_I, push_I, pull_PE, push_PE, itA, chA, setPEs, e1, e2]
      · simp [Function.comp_def, get_gcT, get, put, gcI, pullI, push1, pushI, pullS, pushS, gcH, patL, canL, canH, canTL, canT, segR, ix, upd, up1, mapC_rows, mapC_gone, pushC_rows, pushC_gone, pullP, pullV, pullSS, pullD, pullT, pullF, pushP, pushV, pushSS, pushD, pushT, pushF, pullD16, pushD16, AH2, rowA, cP_s, encPEs_pull, encPEs_push, cT, cF, pull_I, push_I, pull_PE, push_PE, itA, chA, setPEs, e1, e2]
      · simp [Function.comp_def, get_gcT, get, put, gcI, pullI, push1, pushI, pullS, pushS, gcH, patL, canL, canH, canTL, canT, segR, ix, upd, up1, mapC_rows, mapC_gone, pushC_rows, pushC_gone, pullP, pullV, pullSS, pullD, pullT, pullF, pushP, pushV, pushSS, pushD, pushT, pushF, pullD16, pushD16, AH2, rowA, cP_s, encPEs_pull, encPEs_push, cT, cF, pull_I, push_I, pull_PE, push_PE, itA, chA, setPEs, e1, e2]
      · rintro m tm H ⟨i, rfl, hi, g0, g1, g5, rfl⟩
        have fr := itA_fr (sprI_fr (j : Int) true) (chA a j p) i
        rw [hcl] at hi
        have hmod : changedA a j p = itA (sprI (j : Int) true) (chA a j p) (chA a j p).ps.length := by unfold changedA sprA; rw [hed]; rfl
        rw [hmod, hcl]
        have hsz : szA (chA a j p) = szA a := rfl
        clear hmod
        generalize chA a j p = c at *
        by_cases hq : i < a.ps.length
        · have q : decide ((i : Int) < (a.ps.length : Int)) = true := decide_eq_true (by omega)
          have hc0 : (0 : Int) ≤ (i : Int) := by omega
          have hcN : (i : Int) < (a.ps.length : Int) := by omega
          have hi1 : IntKind.i64.wrap ((i : Int) + 1) = ((i + 1 : Nat) : Int) := by rw [wr_i64 (by omega) (by omega)]; rfl
          obtain ⟨r, hr⟩ : ∃ r, ((itA (sprI (j : Int) true) c i).ps)[i]? = some r := ⟨_, List.getElem?_eq_getElem (by rw [fr.len]; omega)⟩
          have hrr : (((itA (sprI (j : Int) true) c i).ps).map encPE)[i]? = some (encPE r) := by rw [List.getElem?_map, hr]; rfl
          have hnx := itA_next hr
          have hbl := fr.len
          rw [hcl] at hbl
          have hbs := fr.sz
          have hrs := encPEs_get hr
          clear fr hrr
          generalize itA (sprI (j : Int) true) c i = b at *
          have cl := c_lead b i r hr
          have hfl : b.fl.length ≤ 1000000 := by have := szA_f b; omega
          have hi2 : IntKind.i64.wrap ((i : Int) + 1) = (i : Int) + 1 := wr_i64 (by omega) (by omega)
          unfold AH2
          have hll : leadL r = if leadOk r then leadsP r else false := rfl
          have hlo : leadOk r = if onP r then !(edgeP r) else false := rfl
          cases k1 : ((i : Int) == (j : Int)) with
          | true =>
            repeat' first
              | with_reducible rfl
              | simp only [rowA, q, hc0, hcN, hi2, hbl, hrs, encPEs_len, encPE, g0, g1, g5, cF_s, sIs_len, Int.toNat_natCast, k1, RS_, FB_, segR, ST_, seval, ne_eq, bne, forall_const, implies_true, TY_, WLS]
              | (with_reducible refine drawK_id ?_); refine drawK_auto hmix (by kernel_rfl) ?_
              | (with_reducible refine draw_fin ?_ ?_); · kernel_rfl
              | (with_reducible refine draw_id ?_); kernel_rfl
              | ((with_reducible refine callK_id (f := 47) ?_); refine callK_funR [0, 1, 2, 3, 4, 7, 8] (r := .t [.s (.raw (.bool (leadOk r))), .s (.raw (.bool (leadL r)))]) (by simpa [AHr, pullH, roC_rows, roP, roV, roSS, roD, roT, roF, rF_s, sIs_pull, rP_s, cP_s, encPEs_pull, rowA, pullS, pullI, ix, hbl] using cl) rfl ?_)
              | (with_reducible refine And.intro ?_ ?_; · omega)
            refine ⟨a.ps.length - (i + 1), _, _, by omega, Wk.can [(17, 0, 0, 25), (1, 0, 0, 26)] [.inl 0, .inl 1, .inl 2, .inl 3, .inl 4, .inl 5, .inl 6, .inr 0, .inr 1] rfl (by simp [patL]), i + 1, by rw [hcl], by omega, ?_, ?_, ?_, ?_⟩ <;> first | (simp [Function.comp_def, get_gcT, get, put, gcI, pullI, push1, pushI, pullS, pushS, gcH, patL, canL, canH, canTL, canT, segR, ix, upd, up1, mapC_rows, mapC_gone, pushC_rows, pushC_gone, pullP, pullV, pullSS, pullD, pullT, pullF, pushP, pushV, pushSS, pushD, pushT, pushF, pullD16, pushD16, AH2, rowA, cP_s, encPEs_pull, encPEs_push, sIs_len, cF_s, sIs_pull, sIs_push, sIs_app, cT, pull_PE, push_PE, g0, g1, g5, hi1]; done) | (rw [hnx]; simp [Function.comp_def, get_gcT, get, put, gcI, pullI, push1, pushI, pullS, pushS, gcH, patL, canL, canH, canTL, canT, segR, ix, upd, up1, mapC_rows, mapC_gone, pushC_rows, pushC_gone, pullP, pullV, pullSS, pullD, pullT, pullF, pushP, pushV, pushSS, pushD, pushT, pushF, pullD16, pushD16, AH2, rowA, cP_s, encPEs_pull, encPEs_push, sIs_len, cF_s, sIs_pull, sIs_push, sIs_app, cT, pull_PE, push_PE, sprI, setPEs, hbl, k1])
          | false =>
            cases k2 : onP r with
            | false =>
              simp only [k2, Bool.false_eq_true, if_false] at hlo
              simp only [hlo, Bool.false_eq_true, if_false] at hll
              repeat' first
                | with_reducible rfl
                | simp only [rowA, q, hc0, hcN, hi2, hbl, hrs, encPEs_len, encPE, g0, g1, g5, cF_s, sIs_len, Int.toNat_natCast, k1, k2, hlo, hll, RS_, FB_, segR, ST_, seval, ne_eq, bne, forall_const, implies_true, TY_, WLS]
                | (with_reducible refine drawK_id ?_); refine drawK_auto hmix (by kernel_rfl) ?_
                | (with_reducible refine draw_fin ?_ ?_); · kernel_rfl
                | (with_reducible refine draw_id ?_); kernel_rfl
                | ((with_reducible refine callK_id (f := 47) ?_); refine callK_funR [0, 1, 2, 3, 4, 7, 8] (r := .t [.s (.raw (.bool (leadOk r))), .s (.raw (.bool (leadL r)))]) (by simpa [AHr, pullH, roC_rows, roP, roV, roSS, roD, roT, roF, rF_s, sIs_pull, rP_s, cP_s, encPEs_pull, rowA, pullS, pullI, ix, hbl] using cl) rfl ?_)
                | (with_reducible refine And.intro ?_ ?_; · omega)
              refine ⟨a.ps.length - (i + 1), _, _, by omega, Wk.can [(17, 0, 0, 25), (1, 0, 0, 26)] [.inl 0, .inl 1, .inl 2, .inl 3, .inl 4, .inl 5, .inl 6, .inr 0, .inr 1] rfl (by simp [patL]), i + 1, by rw [hcl], by omega, ?_, ?_, ?_, ?_⟩ <;> first | (simp [Function.comp_def, get_gcT, get, put, gcI, pullI, push1, pushI, pullS, pushS, gcH, patL, canL, canH, canTL, canT, segR, ix, upd, up1, mapC_rows, mapC_gone, pushC_rows, pushC_gone, pullP, pullV, pullSS, pullD, pullT, pullF, pushP, pushV, pushSS, pushD, pushT, pushF, pullD16, pushD16, AH2, rowA, cP_s, encPEs_pull, encPEs_push, sIs_len, cF_s, sIs_pull, sIs_push, sIs_app, cT, pull_PE, push_PE, g0, g1, g5, hi1]; done) | (rw [hnx]; simp [Function.comp_def, get_gcT, get, put, gcI, pullI, push1, pushI, pullS, pushS, gcH, patL, canL, canH, canTL, canT, segR, ix, upd, up1, mapC_rows, mapC_gone, pushC_rows, pushC_gone, pullP, pullV, pullSS, pullD, pullT, pullF, pushP, pushV, pushSS, pushD, pushT, pushF, pullD16, pushD16, AH2, rowA, cP_s, encPEs_pull, encPEs_push, sIs_len, cF_s, sIs_pull, sIs_push, sIs_app, cT, pull_PE, push_PE, sprI, setPEs, hbl, k1, k2, hlo, hll])
            | true =>
              cases k3 : edgeP r with
              | true =>
                simp only [k2, k3, Bool.not_true, if_true] at hlo
                simp only [hlo, Bool.false_eq_true, if_false] at hll
                repeat' first
                  | with_reducible rfl
                  | simp only [rowA, q, hc0, hcN, hi2, hbl, hrs, encPEs_len, encPE, g0, g1, g5, cF_s, sIs_len, Int.toNat_natCast, k1, k2, k3, hlo, hll, RS_, FB_, segR, ST_, seval, ne_eq, bne, forall_const, implies_true, TY_, WLS]
                  | (with_reducible refine drawK_id ?_); refine drawK_auto hmix (by kernel_rfl) ?_
                  | (with_reducible refine draw_fin ?_ ?_); · kernel_rfl
                  | (with_reducible refine draw_id ?_); kernel_rfl
                  | ((with_reducible refine callK_id (f := 47) ?_); refine callK_funR [0, 1, 2, 3, 4, 7, 8] (r := .t [.s (.raw (.bool (leadOk r))), .s (.raw (.bool (leadL r)))]) (by simpa [AHr, pullH, roC_rows, roP, roV, roSS, roD, roT, roF, rF_s, sIs_pull, rP_s, cP_s, encPEs_pull, rowA, pullS, pullI, ix, hbl] using cl) rfl ?_)
                  | (with_reducible refine And.intro ?_ ?_; · omega)
                refine ⟨a.ps.length - (i + 1), _, _, by omega, Wk.can [(17, 0, 0, 25), (1, 0, 0, 26)] [.inl 0, .inl 1, .inl 2, .inl 3, .inl 4, .inl 5, .inl 6, .inr 0, .inr 1] rfl (by simp [patL]), i + 1, by rw [hcl], by omega, ?_, ?_, ?_, ?_⟩ <;> first | (simp [Function.comp_def, get_gcT, get, put, gcI, pullI, push1, pushI, pullS, pushS, gcH, patL, canL, canH, canTL, canT, segR, ix, upd, up1, mapC_rows, mapC_gone, pushC_rows, pushC_gone, pullP, pullV, pullSS, pullD, pullT, pullF, pushP, pushV, pushSS, pushD, pushT, pushF, pullD16, pushD16, AH2, rowA, cP_s, encPEs_pull, encPEs_push, sIs_len, cF_s, sIs_pull, sIs_push, sIs_app, cT, pull_PE, push_PE, g0, g1, g5, hi1]; done) | (rw [hnx]; simp [Function.comp_def, get_gcT, get, put, gcI, pullI, push1, pushI, pullS, pushS, gcH, patL, canL, canH, canTL, canT, segR, ix, upd, up1, mapC_rows, mapC_gone, pushC_rows, pushC_gone, pullP, pullV, pullSS, pullD, pullT, pullF, pushP, pushV, pushSS, pushD, pushT, pushF, pullD16, pushD16, AH2, rowA, cP_s, encPEs_pull, encPEs_push, sIs_len, cF_s, sIs_pull, sIs_push, sIs_app, cT, pull_PE, push_PE, sprI, setPEs, hbl, k1, k2, k3, hlo, hll])
              | false =>
                simp only [k2, k3, Bool.not_false, if_true] at hlo
                simp only [hlo, if_true] at hll
                cases k4 : leadsP r with
                | false =>
                  rw [k4] at hll
                  repeat' first
                    | with_reducible rfl
                    | simp only [rowA, q, hc0, hcN, hi2, hbl, hrs, encPEs_len, encPE, g0, g1, g5, cF_s, sIs_len, Int.toNat_natCast, k1, k2, k3, k4, hlo, hll, RS_, FB_, segR, ST_, seval, ne_eq, bne, forall_const, implies_true, TY_, WLS]
                    | (with_reducible refine drawK_id ?_); refine drawK_auto hmix (by kernel_rfl) ?_
                    | (with_reducible refine draw_fin ?_ ?_); · kernel_rfl
                    | (with_reducible refine draw_id ?_); kernel_rfl
                    | ((with_reducible refine callK_id (f := 47) ?_); refine callK_funR [0, 1, 2, 3, 4, 7, 8] (r := .t [.s (.raw (.bool (leadOk r))), .s (.raw (.bool (leadL r)))]) (by simpa [AHr, pullH, roC_rows, roP, roV, roSS, roD, roT, roF, rF_s, sIs_pull, rP_s, cP_s, encPEs_pull, rowA, pullS, pullI, ix, hbl] using cl) rfl ?_)
                    | (with_reducible refine And.intro ?_ ?_; · omega)
                  refine ⟨a.ps.length - (i + 1), _, _, by omega, Wk.can [(17, 0, 0, 25), (1, 0, 0, 26)] [.inl 0, .inl 1, .inl 2, .inl 3, .inl 4, .inl 5, .inl 6, .inr 0, .inr 1] rfl (by simp [patL]), i + 1, by rw [hcl], by omega, ?_, ?_, ?_, ?_⟩ <;> first | (simp [Function.comp_def, get_gcT, get, put, gcI, pullI, push1, pushI, pullS, pushS, gcH, patL, canL, canH, canTL, canT, segR, ix, upd, up1, mapC_rows, mapC_gone, pushC_rows, pushC_gone, pullP, pullV, pullSS, pullD, pullT, pullF, pushP, pushV, pushSS, pushD, pushT, pushF, pullD16, pushD16, AH2, rowA, cP_s, encPEs_pull, encPEs_push, sIs_len, cF_s, sIs_pull, sIs_push, sIs_app, cT, pull_PE, push_PE, g0, g1, g5, hi1]; done) | (rw [hnx]; simp [Function.comp_def, get_gcT, get, put, gcI, pullI, push1, pushI, pullS, pushS, gcH, patL, canL, canH, canTL, canT, segR, ix, upd, up1, mapC_rows, mapC_gone, pushC_rows, pushC_gone, pullP, pullV, pullSS, pullD, pullT, pullF, pushP, pushV, pushSS, pushD, pushT, pushF, pullD16, pushD16, AH2, rowA, cP_s, encPEs_pull, encPEs_push, sIs_len, cF_s, sIs_pull, sIs_push, sIs_app, cT, pull_PE, push_PE, sprI, setPEs, hbl, k1, k2, k3, k4, hlo, hll])
                | true =>
                  rw [k4] at hll
                  repeat' first
                    | with_reducible rfl
                    | simp only [rowA, q, hc0, hcN, hi2, hbl, hrs, encPEs_len, encPE, g0, g1, g5, cF_s, sIs_len, Int.toNat_natCast, k1, k2, k3, k4, hlo, hll, cP_s, RS_, FB_, segR, ST_, seval, ne_eq, bne, forall_const, implies_true, TY_, WLS]
                    | (with_reducible refine drawK_id ?_); refine drawK_auto hmix (by kernel_rfl) ?_
                    | (with_reducible refine draw_fin ?_ ?_); · kernel_rfl
                    | (with_reducible refine draw_id ?_); kernel_rfl
                    | ((with_reducible refine callK_id (f := 47) ?_); refine callK_funR [0, 1, 2, 3, 4, 7, 8] (r := .t [.s (.raw (.bool (leadOk r))), .s (.raw (.bool (leadL r)))]) (by simpa [AHr, pullH, roC_rows, roP, roV, roSS, roD, roT, roF, rF_s, sIs_pull, rP_s, cP_s, encPEs_pull, rowA, pullS, pullI, ix, hbl] using cl) rfl ?_)
                    | (with_reducible refine And.intro ?_ ?_; · omega)
                  refine ⟨a.ps.length - (i + 1), _, _, by omega, Wk.can [(17, 0, 0, 25), (1, 0, 0, 26)] [.inl 0, .inl 1, .inl 2, .inl 3, .inl 4, .inl 5, .inl 6, .inr 0, .inr 1] rfl (by simp [patL]), i + 1, by rw [hcl], by omega, ?_, ?_, ?_, ?_⟩ <;> first | (simp [Function.comp_def, get_gcT, get, put, gcI, pullI, push1, pushI, pullS, pushS, gcH, patL, canL, canH, canTL, canT, segR, ix, upd, up1, mapC_rows, mapC_gone, pushC_rows, pushC_gone, pullP, pullV, pullSS, pullD, pullT, pullF, pushP, pushV, pushSS, pushD, pushT, pushF, pullD16, pushD16, AH2, rowA, cP_s, encPEs_pull, encPEs_push, sIs_len, cF_s, sIs_pull, sIs_push, sIs_app, cT, pull_PE, push_PE, g0, g1, g5, hi1]; done) | (rw [hnx]; simp [Function.comp_def, get_gcT, get, put, gcI, pullI, push1, pushI, pullS, pushS, gcH, patL, canL, canH, canTL, canT, segR, ix, upd, up1, mapC_rows, mapC_gone, pushC_rows, pushC_gone, pullP, pullV, pullSS, pullD, pullT, pullF, pushP, pushV, pushSS, pushD, pushT, pushF, pullD16, pushD16, AH2, rowA, cP_s, encPEs_pull, encPEs_push, sIs_len, cF_s, sIs_pull, sIs_push, sIs_app, cT, pull_PE, push_PE, sprI, setPEs, hbl, k1, k2, k3, k4, hlo, hll, cP_s])
        · have q : decide ((i : Int) < (a.ps.length : Int)) = false := decide_eq_false (by omega)
          have hin : i = a.ps.length := by omega
          subst hin
          have hbl := fr.len
          rw [hcl] at hbl
          unfold AH2
          repeat' first
            | with_reducible rfl
            | simp only [q, hbl, g0, g1, g5, rowA, RS_, FB_, segR, ST_, seval, ne_eq, bne, forall_const, implies_true, TY_, WLS]
            | with_reducible refine gdb_split (fun h => ?_) (fun h => ?_)
            | (with_reducible refine drawK_id ?_); refine drawK_auto hmix (by kernel_rfl) ?_
            | (with_reducible refine draw_fin ?_ ?_); · kernel_rfl
            | (with_reducible refine draw_id ?_); kernel_rfl
            | (with_reducible refine And.intro ?_ ?_; · omega)
          all_goals (refine ⟨.t [], AH2 (itA (sprI (j : Int) true) c a.ps.length), (WkR.can [(17, 0, 0, 25), (1, 0, 0, 26)] [.inl 0, .inl 1, .inl 2, .inl 3, .inl 4, .inl 5, .inl 6, .inr 0, .inr 1] rfl (by simp [patL])).to rfl ?_, by simp [AH2], rfl, ?_⟩ <;> simp [Function.comp_def, get_gcT, get, put, gcI, pullI, push1, pushI, pullS, pushS, gcH, patL, canL, canH, canTL, canT, segR, ix, upd, up1, mapC_rows, mapC_gone, pushC_rows, pushC_gone, pullP, pullV, pullSS, pullD, pullT, pullF, pushP, pushV, pushSS, pushD, pushT, pushF, pullD16, pushD16, AH2, rowA, cP_s, encPEs_pull, encPEs_push, cT, cF, pull_I, push_I, pull_PE, push_PE, hbl])
  | false =>
    have hed : edgeP p = false := by rw [hedge, e1]; rfl
    clear hedge
    repeat' first
      | with_reducible rfl
      | simp only [rowA, hcP, encPEs_len, hb0, hbN, hps, hlt, encPE, Int.toNat_natCast, List.length_set, e1, RS_, FB_, segR, ST_, seval, ne_eq, bne, forall_const, implies_true, TY_, WLS]
      | (with_reducible refine drawK_id ?_); refine drawK_auto hmix (by kernel_rfl) ?_
      | (with_reducible refine draw_fin ?_ ?_); · kernel_rfl
      | (with_reducible refine draw_id ?_); kernel_rfl
      | (with_reducible refine And.intro ?_ ?_; · omega)
    have hcl : (chA a j p).ps.length = a.ps.length := by simp [chA]
    refine loopK_wk (by kernel_rfl) (I_tch (chA a j p) j) (chA a j p).ps.length ⟨_, _, Wk.can [(17, 0, 0, 25), (1, 0, 0, 26)] [.inl 0, .inl 1, .inl 2, .inl 3, .inl 4, .inl 5, .inl 6, .inr 0, .inr 1] rfl (by simp [patL]), 0, by omega, by omega, ?_, ?_, ?_, ?_⟩ ?_
    · simp [Function.comp_def, get_gcT, get, put, gcI, pullI, push1, pushI, pullS, pushS, gcH, patL, canL, canH, canTL, canT, segR, ix, upd, up1, mapC_rows, mapC_gone, pushC_rows, pushC_gone, pullP, pullV, pullSS, pullD, pullT, pullF, pushP, pushV, pushSS, pushD, pushT, pushF, pullD16, pushD16, AH2, rowA, cP_s, encPEs_pull, encPEs_push, cT, cF, pull_I, push_I, pull_PE, push_PE, itA, chA, setPEs, e1]
    · simp [Function.comp_def, get_gcT, get, put, gcI, pullI, push1, pushI, pullS, pushS, gcH, patL, canL, canH, canTL, canT, segR, ix, upd, up1, mapC_rows, mapC_gone, pushC_rows, pushC_gone, pullP, pullV, pullSS, pullD, pullT, pullF, pushP, pushV, pushSS, pushD, pushT, pushF, pullD16, pushD16, AH2, rowA, cP_s, encPEs_pull, encPEs_push, cT, cF, pull_I, push_I, pull_PE, push_PE, itA, chA, setPEs, e1]
    · simp [Function.comp_def, get_gcT, get, put, gcI, pullI, push1, pushI, pullS, pushS, gcH, patL, canL, canH, canTL, canT, segR, ix, upd, up1, mapC_rows, mapC_gone, pushC_rows, pushC_gone, pullP, pullV, pullSS, pullD, pullT, pullF, pushP, pushV, pushSS, pushD, pushT, pushF, pullD16, pushD16, AH2, rowA, cP_s, encPEs_pull, encPEs_push, cT, cF, pull_I, push_I, pull_PE, push_PE, itA, chA, setPEs, e1]
    · simp [Function.comp_def, get_gcT, get, put, gcI, pullI, push1, pushI, pullS, pushS, gcH, patL, canL, canH, canTL, canT, segR, ix, upd, up1, mapC_rows, mapC_gone, pushC_rows, pushC_gone, pullP, pullV, pullSS, pullD, pullT, pullF, pushP, pushV, pushSS, pushD, pushT, pushF, pullD16, pushD16, AH2, rowA, cP_s, encPEs_pull, encPEs_push, cT, cF, pull_I, push_I, pull_PE, push_PE, itA, chA, setPEs, e1]
    · rintro m tm H ⟨i, rfl, hi, g0, g1, g5, rfl⟩
      have fr := itA_fr (sprI_fr (j : Int) true) (chA a j p) i
      rw [hcl] at hi
      have hmod : changedA a j p = itA (sprI (j : Int) true) (chA a j p) (chA a j p).ps.length := by unfold changedA sprA; rw [hed]; rfl
      rw [hmod, hcl]
      have hsz : szA (chA a j p) = szA a := rfl
      clear hmod
      generalize chA a j p = c at *
      by_cases hq : i < a.ps.length
      · have q : decide ((i : Int) < (a.ps.length : Int)) = true := decide_eq_true (by omega)
        have hc0 : (0 : Int) ≤ (i : Int) := by omega
        have hcN : (i : Int) < (a.ps.length : Int) := by omega
        have hi1 : IntKind.i64.wrap ((i : Int) + 1) = ((i + 1 : Nat) : Int) := by rw [wr_i64 (by omega) (by omega)]; rfl
        obtain ⟨r, hr⟩ : ∃ r, ((itA (sprI (j : Int) true) c i).ps)[i]? = some r := ⟨_, List.getElem?_eq_getElem (by rw [fr.len]; omega)⟩
        have hrr : (((itA (sprI (j : Int) true) c i).ps).map encPE)[i]? = some (encPE r) := by rw [List.getElem?_map, hr]; rfl
        have hnx := itA_next hr
        have hbl := fr.len
        rw [hcl] at hbl
        have hbs := fr.sz
        have hrs := encPEs_get hr
        clear fr hrr
        generalize itA (sprI (j : Int) true) c i = b at *
        have cl := c_lead b i r hr
        have hfl : b.fl.length ≤ 1000000 := by have := szA_f b; omega
        have hi2 : IntKind.i64.wrap ((i : Int) + 1) = (i : Int) + 1 := wr_i64 (by omega) (by omega)
        unfold AH2
        have hll : leadL r = if leadOk r then leadsP r else false := rfl
        have hlo : leadOk r = if onP r then !(edgeP r) else false := rfl
        cases k1 : ((i : Int) == (j : Int)) with
        | true =>
          repeat' first
            | with_reducible rfl
            | simp only [rowA, q, hc0, hcN, hi2, hbl, hrs, encPEs_len, encPE, g0, g1, g5, cF_s, sIs_len, Int.toNat_natCast, k1, RS_, FB_, segR, ST_, seval, ne_eq, bne, forall_const, implies_true, TY_, WLS]
            | (with_reducible refine drawK_id ?_); refine drawK_auto hmix (by kernel_rfl) ?_
            | (with_reducible refine draw_fin ?_ ?_); · kernel_rfl
            | (with_reducible refine draw_id ?_); kernel_rfl
            | ((with_reducible refine callK_id (f := 47) ?_); refine callK_funR [0, 1, 2, 3, 4, 7, 8] (r := .t [.s (.raw (.bool (leadOk r))), .s (.raw (.bool (leadL r)))]) (by simpa [AHr, pullH, roC_rows, roP, roV, roSS, roD, roT, roF, rF_s, sIs_pull, rP_s, cP_s, encPEs_pull, rowA, pullS, pullI, ix, hbl] using cl) rfl ?_)
            | (with_reducible refine And.intro ?_ ?_; · omega)
          refine ⟨a.ps.length - (i + 1), _, _, by omega, Wk.can [(17, 0, 0, 25), (1, 0, 0, 26)] [.inl 0, .inl 1, .inl 2, .inl 3, .inl 4, .inl 5, .inl 6, .inr 0, .inr 1] rfl (by simp [patL]), i + 1, by rw [hcl], by omega, ?_, ?_, ?_, ?_⟩ <;> first | (simp [Function.comp_def, get_gcT, get, put, gcI, pullI, push1, pushI, pullS, pushS, gcH, patL, canL, canH, canTL, canT, segR, ix, upd, up1, mapC_rows, mapC_gone, pushC_rows, pushC_gone, pullP, pullV, pullSS, pullD, pullT, pullF, pushP, pushV, pushSS, pushD, pushT, pushF, pullD16, pushD16, AH2, rowA, cP_s, encPEs_pull, encPEs_push, sIs_len, cF_s, sIs_pull, sIs_push, sIs_app, cT, pull_PE, push_PE, g0, g1, g5, hi1]; done) | (rw [hnx]; simp [Function.comp_def, get_gcT, get, put, gcI, pullI, push1, pushI, pullS, pushS, gcH, patL, canL, canH, canTL, canT, segR, ix, upd, up1, mapC_rows, mapC_gone, pushC_rows, pushC_gone, pullP, pullV, pullSS, pullD, pullT, pullF, pushP, pushV, pushSS, pushD, pushT, pushF, pullD16, pushD16, AH2, rowA, cP_s, encPEs_pull, encPEs_push, sIs_len, cF_s, sIs_pull, sIs_push, sIs_app, cT, pull_PE, push_PE, sprI, setPEs, hbl, k1])
        | false =>
          cases k2 : onP r with
          | false =>
            simp only [k2, Bool.false_eq_true, if_false] at hlo
            simp only [hlo, Bool.false_eq_true, if_false] at hll
            repeat' first
              | with_reducible rfl
              | simp only [rowA, q, hc0, hcN, hi2, hbl, hrs, encPEs_len, encPE, g0, g1, g5, cF_s, sIs_len, Int.toNat_natCast, k1, k2, hlo, hll, RS_, FB_, segR, ST_, seval, ne_eq, bne, forall_const, implies_true, TY_, WLS]
              | (with_reducible refine drawK_id ?_); refine drawK_auto hmix (by kernel_rfl) ?_
              | (with_reducible refine draw_fin ?_ ?_); · kernel_rfl
              | (with_reducible refine draw_id ?_); kernel_rfl
              | ((with_reducible refine callK_id (f := 47) ?_); refine callK_funR [0, 1, 2, 3, 4, 7, 8] (r := .t [.s (.raw (.bool (leadOk r))), .s (.raw (.bool (leadL r)))]) (by simpa [AHr, pullH, roC_rows, roP, roV, roSS, roD, roT, roF, rF_s, sIs_pull, rP_s, cP_s, encPEs_pull, rowA, pullS, pullI, ix, hbl] using cl) rfl ?_)
              | (with_reducible refine And.intro ?_ ?_; · omega)
            refine ⟨a.ps.length - (i + 1), _, _, by omega, Wk.can [(17, 0, 0, 25), (1, 0, 0, 26)] [.inl 0, .inl 1, .inl 2, .inl 3, .inl 4, .inl 5, .inl 6, .inr 0, .inr 1] rfl (by simp [patL]), i + 1, by rw [hcl], by omega, ?_, ?_, ?_, ?_⟩ <;> first | (simp [Function.comp_def, get_gcT, get, put, gcI, pullI, push1, pushI, pullS, pushS, gcH, patL, canL, canH, canTL, canT, segR, ix, upd, up1, mapC_rows, mapC_gone, pushC_rows, pushC_gone, pullP, pullV, pullSS, pullD, pullT, pullF, pushP, pushV, pushSS, pushD, pushT, pushF, pullD16, pushD16, AH2, rowA, cP_s, encPEs_pull, encPEs_push, sIs_len, cF_s, sIs_pull, sIs_push, sIs_app, cT, pull_PE, push_PE, g0, g1, g5, hi1]; done) | (rw [hnx]; simp [Function.comp_def, get_gcT, get, put, gcI, pullI, push1, pushI, pullS, pushS, gcH, patL, canL, canH, canTL, canT, segR, ix, upd, up1, mapC_rows, mapC_gone, pushC_rows, pushC_gone, pullP, pullV, pullSS, pullD, pullT, pullF, pushP, pushV, pushSS, pushD, pushT, pushF, pullD16, pushD16, AH2, rowA, cP_s, encPEs_pull, encPEs_push, sIs_len, cF_s, sIs_pull, sIs_push, sIs_app, cT, pull_PE, push_PE, sprI, setPEs, hbl, k1, k2, hlo, hll])
          | true =>
            cases k3 : edgeP r with
            | true =>
              simp only [k2, k3, Bool.not_true, if_true] at hlo
              simp only [hlo, Bool.false_eq_true, if_false] at hll
              repeat' first
                | with_reducible rfl
                | simp only [rowA, q, hc0, hcN, hi2, hbl, hrs, encPEs_len, encPE, g0, g1, g5, cF_s, sIs_len, Int.toNat_natCast, k1, k2, k3, hlo, hll, RS_, FB_, segR, ST_, seval, ne_eq, bne, forall_const, implies_true, TY_, WLS]
                | (with_reducible refine drawK_id ?_); refine drawK_auto hmix (by kernel_rfl) ?_
                | (with_reducible refine draw_fin ?_ ?_); · kernel_rfl
                | (with_reducible refine draw_id ?_); kernel_rfl
                | ((with_reducible refine callK_id (f := 47) ?_); refine callK_funR [0, 1, 2, 3, 4, 7, 8] (r := .t [.s (.raw (.bool (leadOk r))), .s (.raw (.bool (leadL r)))]) (by simpa [AHr, pullH, roC_rows, roP, roV, roSS, roD, roT, roF, rF_s, sIs_pull, rP_s, cP_s, encPEs_pull, rowA, pullS, pullI, ix, hbl] using cl) rfl ?_)
                | (with_reducible refine And.intro ?_ ?_; · omega)
              refine ⟨a.ps.length - (i + 1), _, _, by omega, Wk.can [(17, 0, 0, 25), (1, 0, 0, 26)] [.inl 0, .inl 1, .inl 2, .inl 3, .inl 4, .inl 5, .inl 6, .inr 0, .inr 1] rfl (by simp [patL]), i + 1, by rw [hcl], by omega, ?_, ?_, ?_, ?_⟩ <;> first | (simp [Function.comp_def, get_gcT, get, put, gcI, pullI, push1, pushI, pullS, pushS, gcH, patL, canL, canH, canTL, canT, segR, ix, upd, up1, mapC_rows, mapC_gone, pushC_rows, pushC_gone, pullP, pullV, pullSS, pullD, pullT, pullF, pushP, pushV, pushSS, pushD, pushT, pushF, pullD16, pushD16, AH2, rowA, cP_s, encPEs_pull, encPEs_push, sIs_len, cF_s, sIs_pull, sIs_push, sIs_app, cT, pull_PE, push_PE, g0, g1, g5, hi1]; done) | (rw [hnx]; simp [Function.comp_def, get_gcT, get, put, gcI, pullI, push1, pushI, pullS, pushS, gcH, patL, canL, canH, canTL, canT, segR, ix, upd, up1, mapC_rows, mapC_gone, pushC_rows, pushC_gone, pullP, pullV, pullSS, pullD, pullT, pullF, pushP, pushV, pushSS, pushD, pushT, pushF, pullD16, pushD16, AH2, rowA, cP_s, encPEs_pull, encPEs_push, sIs_len, cF_s, sIs_pull, sIs_push, sIs_app, cT, pull_PE, push_PE, sprI, setPEs, hbl, k1, k2, k3, hlo, hll])
            | false =>
              simp only [k2, k3, Bool.not_false, if_true] at hlo
              simp only [hlo, if_true] at hll
              cases k4 : leadsP r with
              | false =>
                rw [k4] at hll
                repeat' first
                  | with_reducible rfl
                  | simp only [rowA, q, hc0, hcN, hi2, hbl, hrs, encPEs_len, encPE, g0, g1, g5, cF_s, sIs_len, Int.toNat_natCast, k1, k2, k3, k4, hlo, hll, RS_, FB_, segR, ST_, seval, ne_eq, bne, forall_const, implies_true, TY_, WLS]
                  | (with_reducible refine drawK_id ?_); refine drawK_auto hmix (by kernel_rfl) ?_
                  | (with_reducible refine draw_fin ?_ ?_); · kernel_rfl
                  | (with_reducible refine draw_id ?_); kernel_rfl
                  | ((with_reducible refine callK_id (f := 47) ?_); refine callK_funR [0, 1, 2, 3, 4, 7, 8] (r := .t [.s (.raw (.bool (leadOk r))), .s (.raw (.bool (leadL r)))]) (by simpa [AHr, pullH, roC_rows, roP, roV, roSS, roD, roT, roF, rF_s, sIs_pull, rP_s, cP_s, encPEs_pull, rowA, pullS, pullI, ix, hbl] using cl) rfl ?_)
                  | (with_reducible refine And.intro ?_ ?_; · omega)
                refine ⟨a.ps.length - (i + 1), _, _, by omega, Wk.can [(17, 0, 0, 25), (1, 0, 0, 26)] [.inl 0, .inl 1, .inl 2, .inl 3, .inl 4, .inl 5, .inl 6, .inr 0, .inr 1] rfl (by simp [patL]), i + 1, by rw [hcl], by omega, ?_, ?_, ?_, ?_⟩ <;> first | (simp [Function.comp_def, get_gcT, get, put, gcI, pullI, push1, pushI, pullS, pushS, gcH, patL, canL, canH, canTL, canT, segR, ix, upd, up1, mapC_rows, mapC_gone, pushC_rows, pushC_gone, pullP, pullV, pullSS, pullD, pullT, pullF, pushP, pushV, pushSS, pushD, pushT, pushF, pullD16, pushD16, AH2, rowA, cP_s, encPEs_pull, encPEs_push, sIs_len, cF_s, sIs_pull, sIs_push, sIs_app, cT, pull_PE, push_PE, g0, g1, g5, hi1]; done) | (rw [hnx]; simp [Function.comp_def, get_gcT, get, put, gcI, pullI, push1, pushI, pullS, pushS, gcH, patL, canL, canH, canTL, canT, segR, ix, upd, up1, mapC_rows, mapC_gone, pushC_rows, pushC_gone, pullP, pullV, pullSS, pullD, pullT, pullF, pushP, pushV, pushSS, pushD, pushT, pushF, pullD16, pushD16, AH2, rowA, cP_s, encPEs_pull, encPEs_push, sIs_len, cF_s, sIs_pull, sIs_push, sIs_app, cT, pull_PE, push_PE, sprI, setPEs, hbl, k1, k2, k3, k4, hlo, hll])
              | true =>
                rw [k4] at hll
                repeat' first
                  | with_reducible rfl
                  | simp only [rowA, q, hc0, hcN, hi2, hbl, hrs, encPEs_len, encPE, g0, g1, g5, cF_s, sIs_len, Int.toNat_natCast, k1, k2, k3, k4, hlo, hll, cP_s, RS_, FB_, segR, ST_, seval, ne_eq, bne, forall_const, implies_true, TY_, WLS]
                  | (with_reducible refine drawK_id ?_); refine drawK_auto hmix (by kernel_rfl) ?_
                  | (with_reducible refine draw_fin ?_ ?_); · kernel_rfl
                  | (with_reducible refine draw_id ?_); kernel_rfl
                  | ((with_reducible refine callK_id (f := 47) ?_); refine callK_funR [0, 1, 2, 3, 4, 7, 8] (r := .t [.s (.raw (.bool (leadOk r))), .s (.raw (.bool (leadL r)))]) (by simpa [AHr, pullH, roC_rows, roP, roV, roSS, roD, roT, roF, rF_s, sIs_pull, rP_s, cP_s, encPEs_pull, rowA, pullS, pullI, ix, hbl] using cl) rfl ?_)
                  | (with_reducible refine And.intro ?_ ?_; · omega)
                refine ⟨a.ps.length - (i + 1), _, _, by omega, Wk.can [(17, 0, 0, 25), (1, 0, 0, 26)] [.inl 0, .inl 1, .inl 2, .inl 3, .inl 4, .inl 5, .inl 6, .inr 0, .inr 1] rfl (by simp [patL]), i + 1, by rw [hcl], by omega, ?_, ?_, ?_, ?_⟩ <;> first | (simp [Function.comp_def, get_gcT, get, put, gcI, pullI, push1, pushI, pullS, pushS, gcH, patL, canL, canH, canTL, canT, segR, ix, upd, up1, mapC_rows, mapC_gone, pushC_rows, pushC_gone, pullP, pullV, pullSS, pullD, pullT, pullF, pushP, pushV, pushSS, pushD, pushT, pushF, pullD16, pushD16, AH2, rowA, cP_s, encPEs_pull, encPEs_push, sIs_len, cF_s, sIs_pull, sIs_push, sIs_app, cT, pull_PE, push_PE, g0, g1, g5, hi1]; done) | (rw [hnx]; simp [Function.comp_def, get_gcT, get, put, gcI, pullI, push1, pushI, pullS, pushS, gcH, patL, canL, canH, canTL, canT, segR, ix, upd, up1, mapC_rows, mapC_gone, pushC_rows, pushC_gone, pullP, pullV, pullSS, pullD, pullT, pullF, pushP, pushV, pushSS, pushD, pushT, pushF, pullD16, pushD16, AH2, rowA, cP_s, encPEs_pull, encPEs_push, sIs_len, cF_s, sIs_pull, sIs_push, sIs_app, cT, pull_PE, push_PE, sprI, setPEs, hbl, k1, k2, k3, k4, hlo, hll, cP_s])
      · have q : decide ((i : Int) < (a.ps.length : Int)) = false := decide_eq_false (by omega)
        have hin : i = a.ps.length := by omega
        subst hin
        have hbl := fr.len
        rw [hcl] at hbl
        unfold AH2
        repeat' first
          | with_reducible rfl
          | simp only [q, hbl, g0, g1, g5, rowA, RS_, FB_, segR, ST_, seval, ne_eq, bne, forall_const, implies_true, TY_, WLS]
          | with_reducible refine gdb_split (fun h => ?_) (fun h => ?_)
          | (with_reducible refine drawK_id ?_); refine drawK_auto hmix (by kernel_rfl) ?_
          | (with_reducible refine draw_fin ?_ ?_); · kernel_rfl
          | (with_reducible refine draw_id ?_); kernel_rfl
          | (with_reducible refine And.intro ?_ ?_; · omega)
        all_goals (refine ⟨.t [], AH2 (itA (sprI (j : Int) true) c a.ps.length), (WkR.can [(17, 0, 0, 25), (1, 0, 0, 26)] [.inl 0, .inl 1, .inl 2, .inl 3, .inl 4, .inl 5, .inl 6, .inr 0, .inr 1] rfl (by simp [patL])).to rfl ?_, by simp [AH2], rfl, ?_⟩ <;> simp [Function.comp_def, get_gcT, get, put, gcI, pullI, push1, pushI, pullS, pushS, gcH, patL, canL, canH, canTL, canT, segR, ix, upd, up1, mapC_rows, mapC_gone, pushC_rows, pushC_gone, pullP, pullV, pullSS, pullD, pullT, pullF, pushP, pushV, pushSS, pushD, pushT, pushF, pullD16, pushD16, AH2, rowA, cP_s, encPEs_pull, encPEs_push, cT, cF, pull_I, push_I, pull_PE, push_PE, hbl])
end Go.Ev
