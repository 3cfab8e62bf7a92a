/- A part of the proof: contracts of the functions that the statement reaches. -/
import Derived.Test.YtadikegdadnahaaT9
namespace Go.Ev
open Go.Proofs
set_option maxRecDepth 100000
set_option linter.unusedSimpArgs false
set_option linter.unusedVariables false
set_option maxHeartbeats 4000000
def newsA (a : AS) (i : Nat) (p : PE) (d : PD) : AS :=
  if hearW p (vecD d) d.age a.cf == 1 then (if (hearP p (vecD d) d.age a.cf).ro == 4 then tellA (setA a i (hearP p (vecD d) d.age a.cf)) i (hearP p (vecD d) d.age a.cf) else setA a i (hearP p (vecD d) d.age a.cf))
  else if hearW p (vecD d) d.age a.cf == 2 || hearW p (vecD d) d.age a.cf == 3 then
    match (chooseA (setA a i (hearP p (vecD d) d.age a.cf))).ps[i]? with
    | some r => if d.prop then (if r.ro == 3 || (r.ro == 1 || r.ro == 2) then agreeA (chooseA (setA a i (hearP p (vecD d) d.age a.cf))) i else chooseA (setA a i (hearP p (vecD d) d.age a.cf))) else chooseA (setA a i (hearP p (vecD d) d.age a.cf))
    | none => chooseA (setA a i (hearP p (vecD d) d.age a.cf))
  else setA a i (hearP p (vecD d) d.age a.cf)
theorem newsA_fr {n : Nat} (a : AS) (i : Nat) (p : PE) (d : PD) (hn : a.ps.length ≤ n) : FrA (n * n + n + 1) a (newsA a i p d) := by
  unfold newsA
  generalize hearP p (vecD d) d.age a.cf = q
  have h1 := setA_fr a i q
  have h2 := tellA_fr (setA a i q) i q
  have h3 := chooseA_fr (setA a i q) (n := n) (by rw [h1.len]; exact hn)
  have h4 := agreeA_fr (chooseA (setA a i q)) i
  repeat' split
  · exact (h1.trans h2).le (by omega)
  · exact h1.le (by omega)
  · exact ((h1.trans h3).trans h4).le (by omega)
  · exact (h1.trans h3).le (by omega)
  · exact (h1.trans h3).le (by omega)
  · exact (h1.trans h3).le (by omega)
  · exact h1.le (by omega)
def encPEs (l : List PE) : List (List SV) := l.map encPE
theorem encPEs_len (l : List PE) : (encPEs l).length = l.length := List.length_map _
theorem encPEs_get {l : List PE} {i : Nat} {p : PE} (h : l[i]? = some p) : (encPEs l)[i]? = some (encPE p) := by unfold encPEs; rw [List.getElem?_map, h]; rfl
theorem encPEs_pull (σ : List Nat) (l : List PE) : (encPEs l).map (fun r => r.map (pullS σ)) = encPEs l := by unfold encPEs; rw [List.map_map]; rfl
theorem encPEs_push (σ : List Nat) (l : List PE) : (encPEs l).map (fun r => r.map (pushS σ)) = encPEs l := by unfold encPEs; rw [List.map_map]; rfl
theorem setPEs {x0 x1 x3 x4 x10 x11 x12 x13 x14 x15 x16 x17 x18 x19 x20 : Int} {x2 x5 x6 x7 x8 x9 : Bool} (l : List PE) (i : Nat) : (encPEs l).set i [.raw (.int .u16 x0), .raw (.int .i64 x1), .raw (.bool x2), .raw (.int .u32 x3), .raw (.int .i64 x4), .raw (.bool x5), .raw (.bool x6), .raw (.bool x7), .raw (.bool x8), .raw (.bool x9), .raw (.int .i64 x10), .raw (.int .i64 x11), .raw (.int .i64 x12), .raw (.int .u64 x13), .raw (.int .u32 x14), .raw (.int .u64 x15), .raw (.int .u16 x16), .raw (.int .i64 x17), .raw (.int .i64 x18), .raw (.int .i64 x19), .raw (.int .i64 x20)] = encPEs (l.set i ⟨x0, x1, x2, x3, x4, x5, x6, x7, x8, x9, x10, x11, x12, ⟨x13, x14, x15, x16⟩, x17, x18, x19, x20⟩) := by unfold encPEs; rw [List.map_set]; rfl
theorem cP_s (l : List PE) : cP l = .rows true 21 (encPEs l) := rfl
theorem c_news (a : AS) (i : Nat) (p : PE) (d : PD) (hn : a.ps.length ≤ 100) (hp : a.ps[i]? = some p) (hage : 0 ≤ d.age ∧ d.age ≤ 65535) (hb : szA a ≤ 600000) : FunW Try.prog 31 [] (AH a) [.s (.ptr 0 0 0), .s (.raw (.int .i64 (i : Int))), .a (encPD d)] fun r Hn => r = .t [] ∧ Hn = AH2 (newsA a i p d) := by
  refine funW_of fun X => ?_
  refine callK_inline (rs := []) (n := 88) Try.func31 rfl rfl rfl (by kernel_rfl) (by kernel_rfl) (by simp only [List.length_cons, List.length_nil]; decide) ?_
  unfold AH
  have hlt : i < a.ps.length := (List.getElem?_eq_some_iff.1 hp).1
  have hb0 : (0 : Int) ≤ (i : Int) := by omega
  have hbN : (i : Int) < (a.ps.length : Int) := by omega
  have hpr : (a.ps.map encPE)[i]? = some (encPE p) := by rw [List.getElem?_map, hp]; rfl
  have hw : IntKind.i64.wrap d.age = d.age := wr_i64 (by omega) (by omega)
  have ch := c_Hear p (vecD d) d.age a.cf
  obtain ⟨w, hw2⟩ : ∃ w, hearW p (vecD d) d.age a.cf = w := ⟨_, rfl⟩
  obtain ⟨q, hq⟩ : ∃ q, hearP p (vecD d) d.age a.cf = q := ⟨_, rfl⟩
  rw [hw2, hq] at ch
  have h1 := setA_fr a i q
  have hset : (setA a i q).ps[i]? = some q := by simp [setA, hlt]
  have hsz := h1.sz
  have cs := c_tell (setA a i q) i q (by rw [h1.len]; omega) hset (by have := szA_t (setA a i q); omega)
  have cc := c_choose (setA a i q) (by rw [h1.len]; omega) (by omega)
  have hcP : ∀ l, cP l = .rows true 21 (l.map encPE) := fun _ => rfl
  cases e1 : (w == 1) with
  | true =>
    cases e2 : (q.ro == 4) with
    | true =>
      repeat' first
        | with_reducible rfl
        | simp only [rowA, hcP, hb0, hbN, hpr, hlt, encPE, encPD, List.length_map, Int.toNat_natCast, List.length_set, hw, e1, e2, RS_, FB_, segR, ST_, seval, ne_eq, bne, forall_const, implies_true, TY_, WLS]
        | (with_reducible refine drawK_id ?_); refine drawK_auto hmix (by kernel_rfl) ?_
        | (with_reducible refine draw_fin ?_ ?_); · kernel_rfl
        | (with_reducible refine draw_id ?_); kernel_rfl
        | (with_reducible refine callD_id (f := 50) ?_); refine callD_of (ch) rfl rfl ?_
        | ((with_reducible refine callK_id (f := 58) ?_); refine callK_funW [] [0, 1, 2, 3, 4, 5, 6] (cs) (by simp [AH, Function.comp_def, pullHW, rowA, pullS, ix, pull_PE, mapC_rows, mapC_gone, pushC_rows, pushC_gone, pullP, pullV, pullSS, pullD, pullT, pullF, pushP, pushV, pushSS, pushD, pushT, pushF, pullD16, pushD16, setA, cP, setPE]) rfl rfl (by decide) (by simp [cP, cV, cS, cD, cT, cF]) (by simp [pullI, pullS, ix]) ?_; rintro r Hn ⟨rfl, rfl⟩ -; clear hcP)
        | (with_reducible refine And.intro ?_ ?_; · omega)
      repeat' first
        | with_reducible rfl
        | simp only [AH2, rowA, mapC_rows, mapC_gone, pushC_rows, pushC_gone, pullP, pullV, pullSS, pullD, pullT, pullF, pushP, pushV, pushSS, pushD, pushT, pushF, pullD16, pushD16, pull_I, push_I, RS_, FB_, segR, ST_, seval, ne_eq, bne, forall_const, implies_true, TY_, WLS]
        | (with_reducible refine drawK_id ?_); refine drawK_auto hmix (by kernel_rfl) ?_
        | (with_reducible refine draw_fin ?_ ?_); · kernel_rfl
        | (with_reducible refine draw_id ?_); kernel_rfl
        | (with_reducible refine And.intro ?_ ?_; · omega)
      all_goals (refine ⟨.t [], AH2 (newsA a i p d), (WkR.can [(17, 0, 0, 25), (1, 0, 0, 26)] [.inl 0, .inl 1, .inl 2, .inl 3, .inl 4, .inl 5, .inl 6, .inr 0, .inr 1] rfl (by simp [patL])).to rfl ?_, by simp [AH2], rfl, rfl⟩; simp [Function.comp_def, get_gcT, get, put, gcI, pullI, push1, pushI, pullS, pushS, gcH, patL, canL, canH, canTL, canT, segR, ix, upd, up1, mapC_rows, mapC_gone, pushC_rows, pushC_gone, pullP, pullV, pullSS, pullD, pullT, pullF, pushP, pushV, pushSS, pushD, pushT, pushF, pullD16, pushD16, AH2, rowA, cT, cF, pull_I, push_I, pull_PE, push_PE, newsA, hw2, hq, e1, e2])
    | false =>
      repeat' first
        | with_reducible rfl
        | simp only [rowA, hcP, hb0, hbN, hpr, hlt, encPE, encPD, List.length_map, Int.toNat_natCast, List.length_set, hw, e1, e2, RS_, FB_, segR, ST_, seval, ne_eq, bne, forall_const, implies_true, TY_, WLS]
        | (with_reducible refine drawK_id ?_); refine drawK_auto hmix (by kernel_rfl) ?_
        | (with_reducible refine draw_fin ?_ ?_); · kernel_rfl
        | (with_reducible refine draw_id ?_); kernel_rfl
        | (with_reducible refine callD_id (f := 50) ?_); refine callD_of (ch) rfl rfl ?_
        | (with_reducible refine And.intro ?_ ?_; · omega)
      all_goals (refine ⟨.t [], AH2 (newsA a i p d), (WkR.can [(17, 0, 0, 25), (1, 0, 0, 26)] [.inl 0, .inl 1, .inl 2, .inl 3, .inl 4, .inl 5, .inl 6, .inr 0, .inr 1] rfl (by simp [patL])).to rfl ?_, by simp [AH2], rfl, rfl⟩; simp [Function.comp_def, get_gcT, get, put, gcI, pullI, push1, pushI, pullS, pushS, gcH, patL, canL, canH, canTL, canT, segR, ix, upd, up1, mapC_rows, mapC_gone, pushC_rows, pushC_gone, pullP, pullV, pullSS, pullD, pullT, pullF, pushP, pushV, pushSS, pushD, pushT, pushF, pullD16, pushD16, AH2, rowA, cT, cF, pull_I, push_I, pull_PE, push_PE, newsA, hw2, hq, e1, e2, setA, cP, setPE])
  | false =>
    cases e3 : (w == 2 || w == 3) with
    | false =>
      have e4 : (w == 2) = false := (Bool.or_eq_false_iff.1 e3).1
      have e5 : (w == 3) = false := (Bool.or_eq_false_iff.1 e3).2
      repeat' first
        | with_reducible rfl
        | simp only [rowA, hcP, hb0, hbN, hpr, hlt, encPE, encPD, List.length_map, Int.toNat_natCast, List.length_set, hw, e1, e4, e5, RS_, FB_, segR, ST_, seval, ne_eq, bne, forall_const, implies_true, TY_, WLS]
        | (with_reducible refine drawK_id ?_); refine drawK_auto hmix (by kernel_rfl) ?_
        | (with_reducible refine draw_fin ?_ ?_); · kernel_rfl
        | (with_reducible refine draw_id ?_); kernel_rfl
        | (with_reducible refine callD_id (f := 50) ?_); refine callD_of (ch) rfl rfl ?_
        | (with_reducible refine And.intro ?_ ?_; · omega)
      all_goals (refine ⟨.t [], AH2 (newsA a i p d), (WkR.can [(17, 0, 0, 25), (1, 0, 0, 26)] [.inl 0, .inl 1, .inl 2, .inl 3, .inl 4, .inl 5, .inl 6, .inr 0, .inr 1] rfl (by simp [patL])).to rfl ?_, by simp [AH2], rfl, rfl⟩; simp [Function.comp_def, get_gcT, get, put, gcI, pullI, push1, pushI, pullS, pushS, gcH, patL, canL, canH, canTL, canT, segR, ix, upd, up1, mapC_rows, mapC_gone, pushC_rows, pushC_gone, pullP, pullV, pullSS, pullD, pullT, pullF, pushP, pushV, pushSS, pushD, pushT, pushF, pullD16, pushD16, AH2, rowA, cT, cF, pull_I, push_I, pull_PE, push_PE, newsA, hw2, hq, e1, e3, setA, cP, setPE])
    | true =>
      have frc := chooseA_fr (n := 100) (setA a i q) (by rw [h1.len]; omega)
      obtain ⟨r, hr⟩ : ∃ r, (chooseA (setA a i q)).ps[i]? = some r := ⟨_, List.getElem?_eq_getElem (by rw [frc.len, h1.len]; exact hlt)⟩
      have hrr := encPEs_get hr
      have hcl : (chooseA (setA a i q)).ps.length = a.ps.length := frc.len.trans h1.len
      have hcs := frc.sz
      have ck : w = 2 ∨ w = 3 := by simpa using e3
      have hmod : newsA a i p d = if d.prop then (if r.ro == 3 || (r.ro == 1 || r.ro == 2) then agreeA (chooseA (setA a i q)) i else chooseA (setA a i q)) else chooseA (setA a i q) := by
        simp only [newsA, hw2, hq, e1, e3, hr, Bool.false_eq_true, if_false, if_true]
      rw [hmod]
      generalize chooseA (setA a i q) = c at *
      have ca := c_agree c i (by omega) (by omega) (by omega)
      have key : ∀ Q : Prop, (w = 2 → Q) → (w = 3 → Q) → Q := fun Q h2 h3 => ck.elim h2 h3
      have e4 : (w == 2) = true ∨ ((w == 2) = false ∧ (w == 3) = true) := by rcases ck with rfl | rfl <;> simp
      have hcp2 : (0 : Int) ≤ (i : Int) ∧ (i : Int) < (c.ps.length : Int) := by omega
      rcases e4 with e4 | ⟨e4, e5⟩
      · repeat' first
          | with_reducible rfl
          | simp only [rowA, hcP, hb0, hbN, hpr, hlt, encPE, encPD, List.length_map, Int.toNat_natCast, List.length_set, hw, e1, e4, RS_, FB_, segR, ST_, seval, ne_eq, bne, forall_const, implies_true, TY_, WLS]
          | (with_reducible refine drawK_id ?_); refine drawK_auto hmix (by kernel_rfl) ?_
          | (with_reducible refine draw_fin ?_ ?_); · kernel_rfl
          | (with_reducible refine draw_id ?_); kernel_rfl
          | (with_reducible refine callD_id (f := 50) ?_); refine callD_of (ch) rfl rfl ?_
          | ((with_reducible refine callK_id (f := 27) ?_); refine callK_funW [] [0, 1, 2, 3, 4, 5, 6] (cc) (by simp [AH, Function.comp_def, pullHW, rowA, pullS, ix, pull_PE, mapC_rows, mapC_gone, pushC_rows, pushC_gone, pullP, pullV, pullSS, pullD, pullT, pullF, pushP, pushV, pushSS, pushD, pushT, pushF, pullD16, pushD16, setA, cP, setPE]) rfl rfl (by decide) (by simp [cP, cV, cS, cD, cT, cF]) (by simp [pullI, pullS, ix]) ?_; rintro r Hn ⟨rfl, rfl⟩ -; clear hcP)
          | (with_reducible refine And.intro ?_ ?_; · omega)
        have hcP := cP_s
        cases e6 : d.prop with
        | false =>
          repeat' first
            | with_reducible rfl
            | simp only [AH2, rowA, hcP, hcl, hrr, hb0, hbN, encPE, encPD, encPEs_len, encPEs_pull, encPEs_push, Int.toNat_natCast, mapC_rows, mapC_gone, pushC_rows, pushC_gone, pullV, pullSS, pullD, pullT, pullF, pushV, pushSS, pushD, pushT, pushF, pullD16, pushD16, pull_I, push_I, e6, RS_, FB_, segR, ST_, seval, ne_eq, bne, forall_const, implies_true, TY_, WLS]
            | (with_reducible refine drawK_id ?_); refine drawK_auto hmix (by kernel_rfl) ?_
            | (with_reducible refine draw_fin ?_ ?_); · kernel_rfl
            | (with_reducible refine draw_id ?_); kernel_rfl
            | (with_reducible refine And.intro ?_ ?_; · omega)
          all_goals (refine ⟨.t [], AH2 (c), (WkR.can [(17, 0, 0, 25), (1, 0, 0, 26)] [.inl 0, .inl 1, .inl 2, .inl 3, .inl 4, .inl 5, .inl 6, .inr 0, .inr 1] rfl (by simp [patL])).to rfl ?_, by simp [AH2], rfl, ?_⟩ <;> simp [Function.comp_def, get_gcT, get, put, gcI, pullI, push1, pushI, pullS, pushS, gcH, patL, canL, canH, canTL, canT, segR, ix, upd, up1, mapC_rows, mapC_gone, pushC_rows, pushC_gone, pullP, pullV, pullSS, pullD, pullT, pullF, pushP, pushV, pushSS, pushD, pushT, pushF, pullD16, pushD16, AH2, rowA, cP_s, encPEs_pull, encPEs_push, cT, cF, pull_I, push_I, pull_PE, push_PE, hcl, e6])
        | true =>
          cases f1 : (r.ro == 3) with
          | true =>
            repeat' first
              | with_reducible rfl
              | simp only [AH2, rowA, hcP, hcl, hrr, hb0, hbN, encPE, encPD, encPEs_len, encPEs_pull, encPEs_push, Int.toNat_natCast, mapC_rows, mapC_gone, pushC_rows, pushC_gone, pullV, pullSS, pullD, pullT, pullF, pushV, pushSS, pushD, pushT, pushF, pullD16, pushD16, pull_I, push_I, e6, f1, RS_, FB_, segR, ST_, seval, ne_eq, bne, forall_const, implies_true, TY_, WLS]
              | (with_reducible refine drawK_id ?_); refine drawK_auto hmix (by kernel_rfl) ?_
              | (with_reducible refine draw_fin ?_ ?_); · kernel_rfl
              | (with_reducible refine draw_id ?_); kernel_rfl
              | ((with_reducible refine callK_id (f := 60) ?_); refine callK_funW [] [0, 1, 2, 3, 4, 11, 12] (ca) (by simp [AH, Function.comp_def, pullHW, rowA, pullS, ix, pull_PE, mapC_rows, mapC_gone, pushC_rows, pushC_gone, pullP, pullV, pullSS, pullD, pullT, pullF, pushP, pushV, pushSS, pushD, pushT, pushF, pullD16, pushD16, cP_s, encPEs_pull, hcl]) rfl rfl (by decide) (by simp [cP, cV, cS, cD, cT, cF]) (by simp [pullI, pullS, ix]) ?_; rintro r Hn ⟨rfl, rfl⟩ -; clear hcP)
              | (with_reducible refine And.intro ?_ ?_; · omega)
            repeat' first
              | with_reducible rfl
              | simp only [AH2, rowA, mapC_rows, mapC_gone, pushC_rows, pushC_gone, pullP, pullV, pullSS, pullD, pullT, pullF, pushP, pushV, pushSS, pushD, pushT, pushF, pullD16, pushD16, pull_I, push_I, RS_, FB_, segR, ST_, seval, ne_eq, bne, forall_const, implies_true, TY_, WLS]
              | (with_reducible refine drawK_id ?_); refine drawK_auto hmix (by kernel_rfl) ?_
              | (with_reducible refine draw_fin ?_ ?_); · kernel_rfl
              | (with_reducible refine draw_id ?_); kernel_rfl
              | (with_reducible refine And.intro ?_ ?_; · omega)
            all_goals (refine ⟨.t [], AH2 (agreeA c i), (WkR.can [(17, 0, 0, 25), (1, 0, 0, 26)] [.inl 0, .inl 1, .inl 2, .inl 3, .inl 4, .inl 5, .inl 6, .inr 0, .inr 1] rfl (by simp [patL])).to rfl ?_, by simp [AH2], rfl, ?_⟩ <;> simp [Function.comp_def, get_gcT, get, put, gcI, pullI, push1, pushI, pullS, pushS, gcH, patL, canL, canH, canTL, canT, segR, ix, upd, up1, mapC_rows, mapC_gone, pushC_rows, pushC_gone, pullP, pullV, pullSS, pullD, pullT, pullF, pushP, pushV, pushSS, pushD, pushT, pushF, pullD16, pushD16, AH2, rowA, cP_s, encPEs_pull, encPEs_push, cT, cF, pull_I, push_I, pull_PE, push_PE, e6, f1])
          | false =>
            cases f2 : (r.ro == 1) with
            | true =>
              repeat' first
                | with_reducible rfl
                | simp only [AH2, rowA, hcP, hcl, hrr, hb0, hbN, encPE, encPD, encPEs_len, encPEs_pull, encPEs_push, Int.toNat_natCast, mapC_rows, mapC_gone, pushC_rows, pushC_gone, pullV, pullSS, pullD, pullT, pullF, pushV, pushSS, pushD, pushT, pushF, pullD16, pushD16, pull_I, push_I, e6, f1, f2, RS_, FB_, segR, ST_, seval, ne_eq, bne, forall_const, implies_true, TY_, WLS]
                | (with_reducible refine drawK_id ?_); refine drawK_auto hmix (by kernel_rfl) ?_
                | (with_reducible refine draw_fin ?_ ?_); · kernel_rfl
                | (with_reducible refine draw_id ?_); kernel_rfl
                | ((with_reducible refine callK_id (f := 60) ?_); refine callK_funW [] [0, 1, 2, 3, 4, 11, 12] (ca) (by simp [AH, Function.comp_def, pullHW, rowA, pullS, ix, pull_PE, mapC_rows, mapC_gone, pushC_rows, pushC_gone, pullP, pullV, pullSS, pullD, pullT, pullF, pushP, pushV, pushSS, pushD, pushT, pushF, pullD16, pushD16, cP_s, encPEs_pull, hcl]) rfl rfl (by decide) (by simp [cP, cV, cS, cD, cT, cF]) (by simp [pullI, pullS, ix]) ?_; rintro r Hn ⟨rfl, rfl⟩ -; clear hcP)
                | (with_reducible refine And.intro ?_ ?_; · omega)
              repeat' first
                | with_reducible rfl
                | simp only [AH2, rowA, mapC_rows, mapC_gone, pushC_rows, pushC_gone, pullP, pullV, pullSS, pullD, pullT, pullF, pushP, pushV, pushSS, pushD, pushT, pushF, pullD16, pushD16, pull_I, push_I, RS_, FB_, segR, ST_, seval, ne_eq, bne, forall_const, implies_true, TY_, WLS]
                | (with_reducible refine drawK_id ?_); refine drawK_auto hmix (by kernel_rfl) ?_
                | (with_reducible refine draw_fin ?_ ?_); · kernel_rfl
                | (with_reducible refine draw_id ?_); kernel_rfl
                | (with_reducible refine And.intro ?_ ?_; · omega)
              all_goals (refine ⟨.t [], AH2 (agreeA c i), (WkR.can [(17, 0, 0, 25), (1, 0, 0, 26)] [.inl 0, .inl 1, .inl 2, .inl 3, .inl 4, .inl 5, .inl 6, .inr 0, .inr 1] rfl (by simp [patL])).to rfl ?_, by simp [AH2], rfl, ?_⟩ <;> simp [Function.comp_def, get_gcT, get, put, gcI, pullI, push1, pushI, pullS, pushS, gcH, patL, canL, canH, canTL, canT, segR, ix, upd, up1, mapC_rows, mapC_gone, pushC_rows, pushC_gone, pullP, pullV, pullSS, pullD, pullT, pullF, pushP, pushV, pushSS, pushD, pushT, pushF, pullD16, pushD16, AH2, rowA, cP_s, encPEs_pull, encPEs_push, cT, cF, pull_I, push_I, pull_PE, push_PE, e6, f1, f2])
            | false =>
              cases f3 : (r.ro == 2) with
              | true =>
                repeat' first
                  | with_reducible rfl
                  | simp only [AH2, rowA, hcP, hcl, hrr, hb0, hbN, encPE, encPD, encPEs_len, encPEs_pull, encPEs_push, Int.toNat_natCast, mapC_rows, mapC_gone, pushC_rows, pushC_gone, pullV, pullSS, pullD, pullT, pullF, pushV, pushSS, pushD, pushT, pushF, pullD16, pushD16, pull_I, push_I, e6, f1, f2, f3, RS_, FB_, segR, ST_, seval, ne_eq, bne, forall_const, implies_true, TY_, WLS]
                  | (with_reducible refine drawK_id ?_); refine drawK_auto hmix (by kernel_rfl) ?_
                  | (with_reducible refine draw_fin ?_ ?_); · kernel_rfl
                  | (with_reducible refine draw_id ?_); kernel_rfl
                  | ((with_reducible refine callK_id (f := 60) ?_); refine callK_funW [] [0, 1, 2, 3, 4, 11, 12] (ca) (by simp [AH, Function.comp_def, pullHW, rowA, pullS, ix, pull_PE, mapC_rows, mapC_gone, pushC_rows, pushC_gone, pullP, pullV, pullSS, pullD, pullT, pullF, pushP, pushV, pushSS, pushD, pushT, pushF, pullD16, pushD16, cP_s, encPEs_pull, hcl]) rfl rfl (by decide) (by simp [cP, cV, cS, cD, cT, cF]) (by simp [pullI, pullS, ix]) ?_; rintro r Hn ⟨rfl, rfl⟩ -; clear hcP)
                  | (with_reducible refine And.intro ?_ ?_; · omega)
                repeat' first
                  | with_reducible rfl
                  | simp only [AH2, rowA, mapC_rows, mapC_gone, pushC_rows, pushC_gone, pullP, pullV, pullSS, pullD, pullT, pullF, pushP, pushV, pushSS, pushD, pushT, pushF, pullD16, pushD16, pull_I, push_I, RS_, FB_, segR, ST_, seval, ne_eq, bne, forall_const, implies_true, TY_, WLS]
                  | (with_reducible refine drawK_id ?_); refine drawK_auto hmix (by kernel_rfl) ?_
                  | (with_reducible refine draw_fin ?_ ?_); · kernel_rfl
                  | (with_reducible refine draw_id ?_); kernel_rfl
                  | (with_reducible refine And.intro ?_ ?_; · omega)
                all_goals (refine ⟨.t [], AH2 (agreeA c i), (WkR.can [(17, 0, 0, 25), (1, 0, 0, 26)] [.inl 0, .inl 1, .inl 2, .inl 3, .inl 4, .inl 5, .inl 6, .inr 0, .inr 1] rfl (by simp [patL])).to rfl ?_, by simp [AH2], rfl, ?_⟩ <;> simp [Function.comp_def, get_gcT, get, put, gcI, pullI, push1, pushI, pullS, pushS, gcH, patL, canL, canH, canTL, canT, segR, ix, upd, up1, mapC_rows, mapC_gone, pushC_rows, pushC_gone, pullP, pullV, pullSS, pullD, pullT, pullF, pushP, pushV, pushSS, pushD, pushT, pushF, pullD16, pushD16, AH2, rowA, cP_s, encPEs_pull, encPEs_push, cT, cF, pull_I, push_I, pull_PE, push_PE, e6, f1, f2, f3])
              | false =>
                repeat' first
                  | with_reducible rfl
                  | simp only [AH2, rowA, hcP, hcl, hrr, hb0, hbN, encPE, encPD, encPEs_len, encPEs_pull, encPEs_push, Int.toNat_natCast, mapC_rows, mapC_gone, pushC_rows, pushC_gone, pullV, pullSS, pullD, pullT, pullF, pushV, pushSS, pushD, pushT, pushF, pullD16, pushD16, pull_I, push_I, e6, f1, f2, f3, RS_, FB_, segR, ST_, seval, ne_eq, bne, forall_const, implies_true, TY_, WLS]
                  | (with_reducible refine drawK_id ?_); refine drawK_auto hmix (by kernel_rfl) ?_
                  | (with_reducible refine draw_fin ?_ ?_); · kernel_rfl
                  | (with_reducible refine draw_id ?_); kernel_rfl
                  | (with_reducible refine And.intro ?_ ?_; · omega)
                all_goals (refine ⟨.t [], AH2 (c), (WkR.can [(17, 0, 0, 25), (1, 0, 0, 26)] [.inl 0, .inl 1, .inl 2, .inl 3, .inl 4, .inl 5, .inl 6, .inr 0, .inr 1] rfl (by simp [patL])).to rfl ?_, by simp [AH2], rfl, ?_⟩ <;> simp [Function.comp_def, get_gcT, get, put, gcI, pullI, push1, pushI, pullS, pushS, gcH, patL, canL, canH, canTL, canT, segR, ix, upd, up1, mapC_rows, mapC_gone, pushC_rows, pushC_gone, pullP, pullV, pullSS, pullD, pullT, pullF, pushP, pushV, pushSS, pushD, pushT, pushF, pullD16, pushD16, AH2, rowA, cP_s, encPEs_pull, encPEs_push, cT, cF, pull_I, push_I, pull_PE, push_PE, hcl, e6, f1, f2, f3])
      · repeat' first
          | with_reducible rfl
          | simp only [rowA, hcP, hb0, hbN, hpr, hlt, encPE, encPD, List.length_map, Int.toNat_natCast, List.length_set, hw, e1, e4, e5, RS_, FB_, segR, ST_, seval, ne_eq, bne, forall_const, implies_true, TY_, WLS]
          | (with_reducible refine drawK_id ?_); refine drawK_auto hmix (by kernel_rfl) ?_
          | (with_reducible refine draw_fin ?_ ?_); · kernel_rfl
          | (with_reducible refine draw_id ?_); kernel_rfl
          | (with_reducible refine callD_id (f := 50) ?_); refine callD_of (ch) rfl rfl ?_
          | ((with_reducible refine callK_id (f := 27) ?_); refine callK_funW [] [0, 1, 2, 3, 4, 5, 6] (cc) (by simp [AH, Function.comp_def, pullHW, rowA, pullS, ix, pull_PE, mapC_rows, mapC_gone, pushC_rows, pushC_gone, pullP, pullV, pullSS, pullD, pullT, pullF, pushP, pushV, pushSS, pushD, pushT, pushF, pullD16, pushD16, setA, cP, setPE]) rfl rfl (by decide) (by simp [cP, cV, cS, cD, cT, cF]) (by simp [pullI, pullS, ix]) ?_; rintro r Hn ⟨rfl, rfl⟩ -; clear hcP)
          | (with_reducible refine And.intro ?_ ?_; · omega)
        have hcP := cP_s
        cases e6 : d.prop with
        | false =>
          repeat' first
            | with_reducible rfl
            | simp only [AH2, rowA, hcP, hcl, hrr, hb0, hbN, encPE, encPD, encPEs_len, encPEs_pull, encPEs_push, Int.toNat_natCast, mapC_rows, mapC_gone, pushC_rows, pushC_gone, pullV, pullSS, pullD, pullT, pullF, pushV, pushSS, pushD, pushT, pushF, pullD16, pushD16, pull_I, push_I, e6, RS_, FB_, segR, ST_, seval, ne_eq, bne, forall_const, implies_true, TY_, WLS]
            | (with_reducible refine drawK_id ?_); refine drawK_auto hmix (by kernel_rfl) ?_
            | (with_reducible refine draw_fin ?_ ?_); · kernel_rfl
            | (with_reducible refine draw_id ?_); kernel_rfl
            | (with_reducible refine And.intro ?_ ?_; · omega)
          all_goals (refine ⟨.t [], AH2 (c), (WkR.can [(17, 0, 0, 25), (1, 0, 0, 26)] [.inl 0, .inl 1, .inl 2, .inl 3, .inl 4, .inl 5, .inl 6, .inr 0, .inr 1] rfl (by simp [patL])).to rfl ?_, by simp [AH2], rfl, ?_⟩ <;> simp [Function.comp_def, get_gcT, get, put, gcI, pullI, push1, pushI, pullS, pushS, gcH, patL, canL, canH, canTL, canT, segR, ix, upd, up1, mapC_rows, mapC_gone, pushC_rows, pushC_gone, pullP, pullV, pullSS, pullD, pullT, pullF, pushP, pushV, pushSS, pushD, pushT, pushF, pullD16, pushD16, AH2, rowA, cP_s, encPEs_pull, encPEs_push, cT, cF, pull_I, push_I, pull_PE, push_PE, hcl, e6])
        | true =>
          cases f1 : (r.ro == 3) with
          | true =>
            repeat' first
              | with_reducible rfl
              | simp only [AH2, rowA, hcP, hcl, hrr, hb0, hbN, encPE, encPD, encPEs_len, encPEs_pull, encPEs_push, Int.toNat_natCast, mapC_rows, mapC_gone, pushC_rows, pushC_gone, pullV, pullSS, pullD, pullT, pullF, pushV, pushSS, pushD, pushT, pushF, pullD16, pushD16, pull_I, push_I, e6, f1, RS_, FB_, segR, ST_, seval, ne_eq, bne, forall_const, implies_true, TY_, WLS]
              | (with_reducible refine drawK_id ?_); refine drawK_auto hmix (by kernel_rfl) ?_
              | (with_reducible refine draw_fin ?_ ?_); · kernel_rfl
              | (with_reducible refine draw_id ?_); kernel_rfl
              | ((with_reducible refine callK_id (f := 60) ?_); refine callK_funW [] [0, 1, 2, 3, 4, 11, 12] (ca) (by simp [AH, Function.comp_def, pullHW, rowA, pullS, ix, pull_PE, mapC_rows, mapC_gone, pushC_rows, pushC_gone, pullP, pullV, pullSS, pullD, pullT, pullF, pushP, pushV, pushSS, pushD, pushT, pushF, pullD16, pushD16, cP_s, encPEs_pull, hcl]) rfl rfl (by decide) (by simp [cP, cV, cS, cD, cT, cF]) (by simp [pullI, pullS, ix]) ?_; rintro r Hn ⟨rfl, rfl⟩ -; clear hcP)
              | (with_reducible refine And.intro ?_ ?_; · omega)
            repeat' first
              | with_reducible rfl
              | simp only [AH2, rowA, mapC_rows, mapC_gone, pushC_rows, pushC_gone, pullP, pullV, pullSS, pullD, pullT, pullF, pushP, pushV, pushSS, pushD, pushT, pushF, pullD16, pushD16, pull_I, push_I, RS_, FB_, segR, ST_, seval, ne_eq, bne, forall_const, implies_true, TY_, WLS]
              | (with_reducible refine drawK_id ?_); refine drawK_auto hmix (by kernel_rfl) ?_
              | (with_reducible refine draw_fin ?_ ?_); · kernel_rfl
              | (with_reducible refine draw_id ?_); kernel_rfl
              | (with_reducible refine And.intro ?_ ?_; · omega)
            all_goals (refine ⟨.t [], AH2 (agreeA c i), (WkR.can [(17, 0, 0, 25), (1, 0, 0, 26)] [.inl 0, .inl 1, .inl 2, .inl 3, .inl 4, .inl 5, .inl 6, .inr 0, .inr 1] rfl (by simp [patL])).to rfl ?_, by simp [AH2], rfl, ?_⟩ <;> simp [Function.comp_def, get_gcT, get, put, gcI, pullI, push1, pushI, pullS, pushS, gcH, patL, canL, canH, canTL, canT, segR, ix, upd, up1, mapC_rows, mapC_gone, pushC_rows, pushC_gone, pullP, pullV, pullSS, pullD, pullT, pullF, pushP, pushV, pushSS, pushD, pushT, pushF, pullD16, pushD16, AH2, rowA, cP_s, encPEs_pull, encPEs_push, cT, cF, pull_I, push_I, pull_PE, push_PE, e6, f1])
          | false =>
            cases f2 : (r.ro == 1) with
            | true =>
              repeat' first
                | with_reducible rfl
                | simp only [AH2, rowA, hcP, hcl, hrr, hb0, hbN, encPE, encPD, encPEs_len, encPEs_pull, encPEs_push, Int.toNat_natCast, mapC_rows, mapC_gone, pushC_rows, pushC_gone, pullV, pullSS, pullD, pullT, pullF, pushV, pushSS, pushD, pushT, pushF, pullD16, pushD16, pull_I, push_I, e6, f1, f2, RS_, FB_, segR, ST_, seval, ne_eq, bne, forall_const, implies_true, TY_, WLS]
                | (with_reducible refine drawK_id ?_); refine drawK_auto hmix (by kernel_rfl) ?_
                | (with_reducible refine draw_fin ?_ ?_); · kernel_rfl
                | (with_reducible refine draw_id ?_); kernel_rfl
                | ((with_reducible refine callK_id (f := 60) ?_); refine callK_funW [] [0, 1, 2, 3, 4, 11, 12] (ca) (by simp [AH, Function.comp_def, pullHW, rowA, pullS, ix, pull_PE, mapC_rows, mapC_gone, pushC_rows, pushC_gone, pullP, pullV, pullSS, pullD, pullT, pullF, pushP, pushV, pushSS, pushD, pushT, pushF, pullD16, pushD16, cP_s, encPEs_pull, hcl]) rfl rfl (by decide) (by simp [cP, cV, cS, cD, cT, cF]) (by simp [pullI, pullS, ix]) ?_; rintro r Hn ⟨rfl, rfl⟩ -; clear hcP)
                | (with_reducible refine And.intro ?_ ?_; · omega)
              repeat' first
                | with_reducible rfl
                | simp only [AH2, rowA, mapC_rows, mapC_gone, pushC_rows, pushC_gone, pullP, pullV, pullSS, pullD, pullT, pullF, pushP, pushV, pushSS, pushD, pushT, pushF, pullD16, pushD16, pull_I, push_I, RS_, FB_, segR, ST_, seval, ne_eq, bne, forall_const, implies_true, TY_, WLS]
                | (with_reducible refine drawK_id ?_); refine drawK_auto hmix (by kernel_rfl) ?_
                | (with_reducible refine draw_fin ?_ ?_); · kernel_rfl
                | (with_reducible refine draw_id ?_); kernel_rfl
                | (with_reducible refine And.intro ?_ ?_; · omega)
              all_goals (refine ⟨.t [], AH2 (agreeA c i), (WkR.can [(17, 0, 0, 25), (1, 0, 0, 26)] [.inl 0, .inl 1, .inl 2, .inl 3, .inl 4, .inl 5, .inl 6, .inr 0, .inr 1] rfl (by simp [patL])).to rfl ?_, by simp [AH2], rfl, ?_⟩ <;> simp [Function.comp_def, get_gcT, get, put, gcI, pullI, push1, pushI, pullS, pushS, gcH, patL, canL, canH, canTL, canT, segR, ix, upd, up1, mapC_rows, mapC_gone, pushC_rows, pushC_gone, pullP, pullV, pullSS, pullD, pullT, pullF, pushP, pushV, pushSS, pushD, pushT, pushF, pullD16, pushD16, AH2, rowA, cP_s, encPEs_pull, encPEs_push, cT, cF, pull_I, push_I, pull_PE, push_PE, e6, f1, f2])
            | false =>
              cases f3 : (r.ro == 2) with
              | true =>
                repeat' first
                  | with_reducible rfl
                  | simp only [AH2, rowA, hcP, hcl, hrr, hb0, hbN, encPE, encPD, encPEs_len, encPEs_pull, encPEs_push, Int.toNat_natCast, mapC_rows, mapC_gone, pushC_rows, pushC_gone, pullV, pullSS, pullD, pullT, pullF, pushV, pushSS, pushD, pushT, pushF, pullD16, pushD16, pull_I, push_I, e6, f1, f2, f3, RS_, FB_, segR, ST_, seval, ne_eq, bne, forall_const, implies_true, TY_, WLS]
                  | (with_reducible refine drawK_id ?_); refine drawK_auto hmix (by kernel_rfl) ?_
                  | (with_reducible refine draw_fin ?_ ?_); · kernel_rfl
                  | (with_reducible refine draw_id ?_); kernel_rfl
                  | ((with_reducible refine callK_id (f := 60) ?_); refine callK_funW [] [0, 1, 2, 3, 4, 11, 12] (ca) (by simp [AH, Function.comp_def, pullHW, rowA, pullS, ix, pull_PE, mapC_rows, mapC_gone, pushC_rows, pushC_gone, pullP, pullV, pullSS, pullD, pullT, pullF, pushP, pushV, pushSS, pushD, pushT, pushF, pullD16, pushD16, cP_s, encPEs_pull, hcl]) rfl rfl (by decide) (by simp [cP, cV, cS, cD, cT, cF]) (by simp [pullI, pullS, ix]) ?_; rintro r Hn ⟨rfl, rfl⟩ -; clear hcP)
                  | (with_reducible refine And.intro ?_ ?_; · omega)
                repeat' first
                  | with_reducible rfl
                  | simp only [AH2, rowA, mapC_rows, mapC_gone, pushC_rows, pushC_gone, pullP, pullV, pullSS, pullD, pullT, pullF, pushP, pushV, pushSS, pushD, pushT, pushF, pullD16, pushD16, pull_I, push_I, RS_, FB_, segR, ST_, seval, ne_eq, bne, forall_const, implies_true, TY_, WLS]
                  | (with_reducible refine drawK_id ?_); refine drawK_auto hmix (by kernel_rfl) ?_
                  | (with_reducible refine draw_fin ?_ ?_); · kernel_rfl
                  | (with_reducible refine draw_id ?_); kernel_rfl
                  | (with_reducible refine And.intro ?_ ?_; · omega)
                all_goals (refine ⟨.t [], AH2 (agreeA c i), (WkR.can [(17, 0, 0, 25), (1, 0, 0, 26)] [.inl 0, .inl 1, .inl 2, .inl 3, .inl 4, .inl 5, .inl 6, .inr 0, .inr 1] rfl (by simp [patL])).to rfl ?_, by simp [AH2], rfl, ?_⟩ <;> simp [Function.comp_def, get_gcT, get, put, gcI, pullI, push1, pushI, pullS, pushS, gcH, patL, canL, canH, canTL, canT, segR, ix, upd, up1, mapC_rows, mapC_gone, pushC_rows, pushC_gone, pullP, pullV, pullSS, pullD, pullT, pullF, pushP, pushV, pushSS, pushD, pushT, pushF, pullD16, pushD16, AH2, rowA, cP_s, encPEs_pull, encPEs_push, cT, cF, pull_I, push_I, pull_PE, push_PE, e6, f1, f2, f3])
              | false =>
                repeat' first
                  | with_reducible rfl
                  | simp only [AH2, rowA, hcP, hcl, hrr, hb0, hbN, encPE, encPD, encPEs_len, encPEs_pull, encPEs_push, Int.toNat_natCast, mapC_rows, mapC_gone, pushC_rows, pushC_gone, pullV, pullSS, pullD, pullT, pullF, pushV, pushSS, pushD, pushT, pushF, pullD16, pushD16, pull_I, push_I, e6, f1, f2, f3, RS_, FB_, segR, ST_, seval, ne_eq, bne, forall_const, implies_true, TY_, WLS]
                  | (with_reducible refine drawK_id ?_); refine drawK_auto hmix (by kernel_rfl) ?_
                  | (with_reducible refine draw_fin ?_ ?_); · kernel_rfl
                  | (with_reducible refine draw_id ?_); kernel_rfl
                  | (with_reducible refine And.intro ?_ ?_; · omega)
                all_goals (refine ⟨.t [], AH2 (c), (WkR.can [(17, 0, 0, 25), (1, 0, 0, 26)] [.inl 0, .inl 1, .inl 2, .inl 3, .inl 4, .inl 5, .inl 6, .inr 0, .inr 1] rfl (by simp [patL])).to rfl ?_, by simp [AH2], rfl, ?_⟩ <;> simp [Function.comp_def, get_gcT, get, put, gcI, pullI, push1, pushI, pullS, pushS, gcH, patL, canL, canH, canTL, canT, segR, ix, upd, up1, mapC_rows, mapC_gone, pushC_rows, pushC_gone, pullP, pullV, pullSS, pullD, pullT, pullF, pushP, pushV, pushSS, pushD, pushT, pushF, pullD16, pushD16, AH2, rowA, cP_s, encPEs_pull, encPEs_push, cT, cF, pull_I, push_I, pull_PE, push_PE, hcl, e6, f1, f2, f3])
end Go.Ev
