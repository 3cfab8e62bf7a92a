/- A part of the proof: contracts of the functions that the statement reaches. -/
import Derived.Test.YtadikegdadnahaaT8
namespace Go.Ev
open Go.Proofs
set_option maxRecDepth 100000
set_option linter.unusedSimpArgs false
set_option linter.unusedVariables false
set_option maxHeartbeats 4000000
def vecD (d : PD) : V4 := ⟨d.root, d.cost, d.br, d.port⟩
def setA (a : AS) (i : Nat) (q : PE) : AS := { a with ps := a.ps.set i q }
theorem setA_fr (a : AS) (i : Nat) (q : PE) : FrA 0 a (setA a i q) := ⟨by simp [setA], rfl, by simp [setA, szA]⟩
def replyA (a : AS) (i : Nat) (p : PE) (d : PD) : AS :=
  if d.agr then (if p.ro == 4 then (if decide (p.v = vecD d) then (if agreeO p then changedA (setA a i (agreeP p)) i (agreeP p) else setA a i (agreeP p)) else a) else a) else a
def blkI (but : Nat) (b : AS) (k : Nat) (p : PE) : AS := if (k : Int) == (but : Int) then b else setA b k (blockP p b.cf)
theorem blkI_fr (but : Nat) (b : AS) (k : Nat) (p : PE) : FrA 0 b (blkI but b k p) := by
  unfold blkI; split
  · exact .refl b
  · exact setA_fr _ _ _
def agrD (p : PE) : PD := { pduV p.v with role := if p.ro == 3 then 2 else 1, agr := true }
def agreeA (a : AS) (i : Nat) : AS := match (itA (blkI i) a a.ps.length).ps[i]? with
  | some p => sendA (itA (blkI i) a a.ps.length) ((i : Int) + 1) (agrD p)
  | none => itA (blkI i) a a.ps.length
theorem sendA_fr (a : AS) (x : Int) (d : PD) : FrA 1 a (sendA a x d) := ⟨rfl, rfl, by simp [sendA, szA]; omega⟩
theorem agreeA_fr (a : AS) (i : Nat) : FrA 1 a (agreeA a i) := by
  have h := itA_fr (blkI_fr i) a a.ps.length
  unfold agreeA; split
  · exact (h.trans (sendA_fr _ _ _)).le (by omega)
  · exact h.le (by omega)
theorem replyA_fr (a : AS) (i : Nat) (p : PE) (d : PD) : FrA a.ps.length a (replyA a i p d) := by
  unfold replyA
  have h1 := setA_fr a i (agreeP p)
  have h2 := changedA_fr (setA a i (agreeP p)) i (agreeP p)
  have h3 := h1.trans h2
  rw [h1.len, Nat.zero_add] at h3
  repeat' split
  · exact h3
  · exact h1.le (by omega)
  all_goals exact (FrA.refl a).le (by omega)
theorem c_reply (a : AS) (i : Nat) (p : PE) (d : PD) (hn : a.ps.length ≤ 100) (hp : a.ps[i]? = some p) (hb : szA a ≤ 900000) : FunW Try.prog 30 [] (AH a) [.s (.ptr 0 0 0), .s (.raw (.int .i64 (i : Int))), .a (encPD d)] fun r Hn => r = .t [] ∧ Hn = AH2 (replyA a i p d) := by
  refine funW_of fun X => ?_
  refine callK_inline (rs := []) (n := 58) Try.func30 rfl rfl rfl (by kernel_rfl) (by kernel_rfl) (by simp only [List.length_cons, List.length_nil]; decide) ?_
  unfold AH
  have hlt : i < a.ps.length := (List.getElem?_eq_some_iff.1 hp).1
  have hb0 : (0 : Int) ≤ (i : Int) := by omega
  have hbN : (i : Int) < (a.ps.length : Int) := by omega
  have hi1 : IntKind.i64.wrap ((i : Int) + 1) = (i : Int) + 1 := wr_i64 (by omega) (by omega)
  have hpr : (a.ps.map encPE)[i]? = some (encPE p) := by rw [List.getElem?_map, hp]; rfl
  have hset : (setA a i (agreeP p)).ps[i]? = some (agreeP p) := by simp [setA, hlt]
  have cs := c_changed (setA a i (agreeP p)) i (agreeP p) (by simpa [setA] using hn) hset hb
  have hv : (⟨d.root, d.cost, d.br, d.port⟩ : V4) = vecD d := rfl
  have hcP : ∀ l, cP l = .rows true 21 (l.map encPE) := fun _ => rfl
  have ca := c_Agree p
  generalize hq : agreeP p = q at *
  cases e1 : d.agr with
  | false =>
    repeat' first
      | with_reducible rfl
      | simp only [rowA, hcP, hb0, hbN, hpr, hlt, hi1, encPE, encPD, List.length_map, Int.toNat_natCast, eq_v5, eq_v4', List.length_set, hv, e1, RS_, FB_, segR, ST_, seval, ne_eq, bne, forall_const, implies_true, TY_, WLS]
      | (with_reducible refine drawK_id ?_); refine drawK_auto hmix (by kernel_rfl) ?_
      | (with_reducible refine draw_fin ?_ ?_); · kernel_rfl
      | (with_reducible refine draw_id ?_); kernel_rfl
      | (with_reducible refine callK_id (f := 49) ?_); refine callK_fun (ca) rfl rfl ?_
      | (with_reducible refine And.intro ?_ ?_; · omega)
    all_goals (refine ⟨.t [], AH2 (replyA a i p d), (WkR.can [(17, 0, 0, 25), (1, 0, 0, 26)] [.inl 0, .inl 1, .inl 2, .inl 3, .inl 4, .inl 5, .inl 6, .inr 0, .inr 1] rfl (by simp [patL])).to rfl ?_, by simp [AH2], rfl, rfl⟩; simp [Function.comp_def, get_gcT, get, put, gcI, pullI, push1, pushI, pullS, pushS, gcH, patL, canL, canH, canTL, canT, segR, ix, upd, up1, mapC_rows, mapC_gone, pushC_rows, pushC_gone, pullP, pullV, pullSS, pullD, pullT, pullF, pushP, pushV, pushSS, pushD, pushT, pushF, pullD16, pushD16, AH2, rowA, cT, cF, pull_I, push_I, pull_PE, push_PE, replyA, setA, cP, setPE, hq, e1])
  | true =>
    cases e2 : (p.ro == 4) with
    | false =>
      repeat' first
        | with_reducible rfl
        | simp only [rowA, hcP, hb0, hbN, hpr, hlt, hi1, encPE, encPD, List.length_map, Int.toNat_natCast, eq_v5, eq_v4', List.length_set, hv, e1, e2, RS_, FB_, segR, ST_, seval, ne_eq, bne, forall_const, implies_true, TY_, WLS]
        | (with_reducible refine drawK_id ?_); refine drawK_auto hmix (by kernel_rfl) ?_
        | (with_reducible refine draw_fin ?_ ?_); · kernel_rfl
        | (with_reducible refine draw_id ?_); kernel_rfl
        | (with_reducible refine callK_id (f := 49) ?_); refine callK_fun (ca) rfl rfl ?_
        | (with_reducible refine And.intro ?_ ?_; · omega)
      all_goals (refine ⟨.t [], AH2 (replyA a i p d), (WkR.can [(17, 0, 0, 25), (1, 0, 0, 26)] [.inl 0, .inl 1, .inl 2, .inl 3, .inl 4, .inl 5, .inl 6, .inr 0, .inr 1] rfl (by simp [patL])).to rfl ?_, by simp [AH2], rfl, rfl⟩; simp [Function.comp_def, get_gcT, get, put, gcI, pullI, push1, pushI, pullS, pushS, gcH, patL, canL, canH, canTL, canT, segR, ix, upd, up1, mapC_rows, mapC_gone, pushC_rows, pushC_gone, pullP, pullV, pullSS, pullD, pullT, pullF, pushP, pushV, pushSS, pushD, pushT, pushF, pullD16, pushD16, AH2, rowA, cT, cF, pull_I, push_I, pull_PE, push_PE, replyA, setA, cP, setPE, hq, e1, e2])
    | true =>
      cases e3 : decide (p.v = vecD d) with
      | false =>
        repeat' first
          | with_reducible rfl
          | simp only [rowA, hcP, hb0, hbN, hpr, hlt, hi1, encPE, encPD, List.length_map, Int.toNat_natCast, eq_v5, eq_v4', List.length_set, hv, e1, e2, e3, RS_, FB_, segR, ST_, seval, ne_eq, bne, forall_const, implies_true, TY_, WLS]
          | (with_reducible refine drawK_id ?_); refine drawK_auto hmix (by kernel_rfl) ?_
          | (with_reducible refine draw_fin ?_ ?_); · kernel_rfl
          | (with_reducible refine draw_id ?_); kernel_rfl
          | (with_reducible refine callK_id (f := 49) ?_); refine callK_fun (ca) rfl rfl ?_
          | (with_reducible refine And.intro ?_ ?_; · omega)
        all_goals (refine ⟨.t [], AH2 (replyA a i p d), (WkR.can [(17, 0, 0, 25), (1, 0, 0, 26)] [.inl 0, .inl 1, .inl 2, .inl 3, .inl 4, .inl 5, .inl 6, .inr 0, .inr 1] rfl (by simp [patL])).to rfl ?_, by simp [AH2], rfl, rfl⟩; simp [Function.comp_def, get_gcT, get, put, gcI, pullI, push1, pushI, pullS, pushS, gcH, patL, canL, canH, canTL, canT, segR, ix, upd, up1, mapC_rows, mapC_gone, pushC_rows, pushC_gone, pullP, pullV, pullSS, pullD, pullT, pullF, pushP, pushV, pushSS, pushD, pushT, pushF, pullD16, pushD16, AH2, rowA, cT, cF, pull_I, push_I, pull_PE, push_PE, replyA, setA, cP, setPE, hq, e1, e2, e3])
      | true =>
        cases e4 : agreeO p with
        | false =>
          rw [e4] at ca
          repeat' first
            | with_reducible rfl
            | simp only [rowA, hcP, hb0, hbN, hpr, hlt, hi1, encPE, encPD, List.length_map, Int.toNat_natCast, eq_v5, eq_v4', List.length_set, hv, e1, e2, e3, e4, RS_, FB_, segR, ST_, seval, ne_eq, bne, forall_const, implies_true, TY_, WLS]
            | (with_reducible refine drawK_id ?_); refine drawK_auto hmix (by kernel_rfl) ?_
            | (with_reducible refine draw_fin ?_ ?_); · kernel_rfl
            | (with_reducible refine draw_id ?_); kernel_rfl
            | (with_reducible refine callK_id (f := 49) ?_); refine callK_fun (ca) rfl rfl ?_
            | (with_reducible refine And.intro ?_ ?_; · omega)
          all_goals (refine ⟨.t [], AH2 (replyA a i p d), (WkR.can [(17, 0, 0, 25), (1, 0, 0, 26)] [.inl 0, .inl 1, .inl 2, .inl 3, .inl 4, .inl 5, .inl 6, .inr 0, .inr 1] rfl (by simp [patL])).to rfl ?_, by simp [AH2], rfl, rfl⟩; simp [Function.comp_def, get_gcT, get, put, gcI, pullI, push1, pushI, pullS, pushS, gcH, patL, canL, canH, canTL, canT, segR, ix, upd, up1, mapC_rows, mapC_gone, pushC_rows, pushC_gone, pullP, pullV, pullSS, pullD, pullT, pullF, pushP, pushV, pushSS, pushD, pushT, pushF, pullD16, pushD16, AH2, rowA, cT, cF, pull_I, push_I, pull_PE, push_PE, replyA, setA, cP, setPE, hq, e1, e2, e3, e4])
        | true =>
          rw [e4] at ca
          repeat' first
            | with_reducible rfl
            | simp only [rowA, hcP, hb0, hbN, hpr, hlt, hi1, encPE, encPD, List.length_map, Int.toNat_natCast, eq_v5, eq_v4', List.length_set, hv, e1, e2, e3, RS_, FB_, segR, ST_, seval, ne_eq, bne, forall_const, implies_true, TY_, WLS]
            | (with_reducible refine drawK_id ?_); refine drawK_auto hmix (by kernel_rfl) ?_
            | (with_reducible refine draw_fin ?_ ?_); · kernel_rfl
            | (with_reducible refine draw_id ?_); kernel_rfl
            | (with_reducible refine callK_id (f := 49) ?_); refine callK_fun (ca) rfl rfl ?_
            | ((with_reducible refine callK_id (f := 35) ?_); refine callK_funW [] [0, 1, 2, 3, 4, 5, 6] (cs) (by simp [AH, Function.comp_def, pullHW, rowA, pullS, ix, pull_PE, mapC_rows, mapC_gone, pushC_rows, pushC_gone, pullP, pullV, pullSS, pullD, pullT, pullF, pushP, pushV, pushSS, pushD, pushT, pushF, pullD16, pushD16, setA, cP, setPE]) rfl rfl (by decide) (by simp [cP, cV, cS, cD, cT, cF]) (by simp [pullI, pullS, ix]) ?_; rintro r Hn ⟨rfl, rfl⟩ -; clear hcP)
            | (with_reducible refine And.intro ?_ ?_; · omega)
          repeat' first
            | with_reducible rfl
            | simp only [AH2, rowA, mapC_rows, mapC_gone, pushC_rows, pushC_gone, pullP, pullV, pullSS, pullD, pullT, pullF, pushP, pushV, pushSS, pushD, pushT, pushF, pullD16, pushD16, pull_I, push_I, RS_, FB_, segR, ST_, seval, ne_eq, bne, forall_const, implies_true, TY_, WLS]
            | (with_reducible refine drawK_id ?_); refine drawK_auto hmix (by kernel_rfl) ?_
            | (with_reducible refine draw_fin ?_ ?_); · kernel_rfl
            | (with_reducible refine draw_id ?_); kernel_rfl
            | (with_reducible refine And.intro ?_ ?_; · omega)
          all_goals (refine ⟨.t [], AH2 (replyA a i p d), (WkR.can [(17, 0, 0, 25), (1, 0, 0, 26)] [.inl 0, .inl 1, .inl 2, .inl 3, .inl 4, .inl 5, .inl 6, .inr 0, .inr 1] rfl (by simp [patL])).to rfl ?_, by simp [AH2], rfl, rfl⟩; simp [Function.comp_def, get_gcT, get, put, gcI, pullI, push1, pushI, pullS, pushS, gcH, patL, canL, canH, canTL, canT, segR, ix, upd, up1, mapC_rows, mapC_gone, pushC_rows, pushC_gone, pullP, pullV, pullSS, pullD, pullT, pullF, pushP, pushV, pushSS, pushD, pushT, pushF, pullD16, pushD16, AH2, rowA, cT, cF, pull_I, push_I, pull_PE, push_PE, replyA, hq, e1, e2, e3, e4])
def I_agr (a : AS) (j : Nat) (m : Nat) (tm : TM) (H : Heap) : Prop := ∃ i : Nat, m = a.ps.length - i ∧ i ≤ a.ps.length ∧ get tm 0 = .s (.ptr 0 0 0) ∧ get tm 1 = .s (.raw (.int .i64 (j : Int))) ∧ get tm 11 = .s (.slice 1 0 a.ps.length) ∧ get tm 12 = .s (.raw (.int .i64 a.ps.length)) ∧ get tm 13 = .s (.raw (.int .i64 (i : Int))) ∧ H = AH (itA (blkI j) a i)
theorem c_agree (a : AS) (j : Nat) (hn : a.ps.length ≤ 100) (hj : j < a.ps.length) (hb : szA a ≤ 900000) : FunW Try.prog 60 [] (AH a) [.s (.ptr 0 0 0), .s (.raw (.int .i64 (j : Int)))] fun r Hn => r = .t [] ∧ Hn = AH2 (agreeA a j) := by
  refine funW_of fun X => ?_
  refine callK_inline (rs := []) (n := 64) Try.func60 rfl rfl rfl (by kernel_rfl) (by kernel_rfl) (by simp only [List.length_cons, List.length_nil]; decide) ?_
  unfold AH
  repeat' first
    | with_reducible rfl
    | simp only [rowA, RS_, FB_, segR, ST_, seval, ne_eq, bne, forall_const, implies_true, TY_, WLS]
    | with_reducible refine gdb_split (fun h => ?_) (fun h => ?_)
    | (with_reducible refine drawK_id ?_); refine drawK_auto hmix (by kernel_rfl) ?_
    | (with_reducible refine draw_fin ?_ ?_); · kernel_rfl
    | (with_reducible refine draw_id ?_); kernel_rfl
    | (with_reducible refine And.intro ?_ ?_; · omega)
  refine loopK_wk (by kernel_rfl) (I_agr a j) a.ps.length ⟨_, _, Wk.gc [0, 1, 2, 3, 4, 5, 6] rfl (by decide), 0, by omega, by omega, ?_, ?_, ?_, ?_, ?_, ?_⟩ ?_
  · simp [Function.comp_def, get_gcT, get, put, gcI, pullI, push1, pushI, pullS, pushS, gcH, patL, canL, canH, canTL, canT, segR, ix, upd, up1, mapC_rows, mapC_gone, pushC_rows, pushC_gone, pullP, pullV, pullSS, pullD, pullT, pullF, pushP, pushV, pushSS, pushD, pushT, pushF, pullD16, pushD16, AH, rowA, cT, cF, pull_I, push_I, pull_PE, push_PE, itA]
  · simp [Function.comp_def, get_gcT, get, put, gcI, pullI, push1, pushI, pullS, pushS, gcH, patL, canL, canH, canTL, canT, segR, ix, upd, up1, mapC_rows, mapC_gone, pushC_rows, pushC_gone, pullP, pullV, pullSS, pullD, pullT, pullF, pushP, pushV, pushSS, pushD, pushT, pushF, pullD16, pushD16, AH, rowA, cT, cF, pull_I, push_I, pull_PE, push_PE, itA]
  · simp [Function.comp_def, get_gcT, get, put, gcI, pullI, push1, pushI, pullS, pushS, gcH, patL, canL, canH, canTL, canT, segR, ix, upd, up1, mapC_rows, mapC_gone, pushC_rows, pushC_gone, pullP, pullV, pullSS, pullD, pullT, pullF, pushP, pushV, pushSS, pushD, pushT, pushF, pullD16, pushD16, AH, rowA, cT, cF, pull_I, push_I, pull_PE, push_PE, itA]
  · simp [Function.comp_def, get_gcT, get, put, gcI, pullI, push1, pushI, pullS, pushS, gcH, patL, canL, canH, canTL, canT, segR, ix, upd, up1, mapC_rows, mapC_gone, pushC_rows, pushC_gone, pullP, pullV, pullSS, pullD, pullT, pullF, pushP, pushV, pushSS, pushD, pushT, pushF, pullD16, pushD16, AH, rowA, cT, cF, pull_I, push_I, pull_PE, push_PE, itA]
  · simp [Function.comp_def, get_gcT, get, put, gcI, pullI, push1, pushI, pullS, pushS, gcH, patL, canL, canH, canTL, canT, segR, ix, upd, up1, mapC_rows, mapC_gone, pushC_rows, pushC_gone, pullP, pullV, pullSS, pullD, pullT, pullF, pushP, pushV, pushSS, pushD, pushT, pushF, pullD16, pushD16, AH, rowA, cT, cF, pull_I, push_I, pull_PE, push_PE, itA]
  · simp [Function.comp_def, get_gcT, get, put, gcI, pullI, push1, pushI, pullS, pushS, gcH, patL, canL, canH, canTL, canT, segR, ix, upd, up1, mapC_rows, mapC_gone, pushC_rows, pushC_gone, pullP, pullV, pullSS, pullD, pullT, pullF, pushP, pushV, pushSS, pushD, pushT, pushF, pullD16, pushD16, AH, rowA, cT, cF, pull_I, push_I, pull_PE, push_PE, itA]
  rintro m tm H ⟨i, rfl, hi, g0, g1, g11, g12, g13, rfl⟩
  have fr := itA_fr (blkI_fr j) a i
  by_cases hq : i < a.ps.length
  · have q : decide ((i : Int) < (a.ps.length : Int)) = true := decide_eq_true (by omega)
    have hb0 : (0 : Int) ≤ (i : Int) := by omega
    have hbN : (i : Int) < (a.ps.length : Int) := by omega
    have hi1 : IntKind.i64.wrap ((i : Int) + 1) = ((i + 1 : Nat) : Int) := by rw [wr_i64 (by omega) (by omega)]; rfl
    obtain ⟨p, hp⟩ : ∃ p, ((itA (blkI j) a i).ps)[i]? = some p := ⟨_, List.getElem?_eq_getElem (by rw [fr.len]; omega)⟩
    have hpr : (((itA (blkI j) a i).ps).map encPE)[i]? = some (encPE p) := by rw [List.getElem?_map, hp]; rfl
    have hnx := itA_next hp
    have hbl := fr.len
    clear fr
    generalize itA (blkI j) a i = b at *
    have hbN' : (i : Int) < (b.ps.length : Int) := by omega
    unfold AH
    have cb := c_Block p b.cf
    have hcP : ∀ l, cP l = .rows true 21 (l.map encPE) := fun _ => rfl
    cases e1 : ((i : Int) == (j : Int)) with
    | true =>
      repeat' first
        | with_reducible rfl
        | simp only [rowA, hcP, q, hb0, hbN, hbN', hbl, hi1, hpr, encPE, g0, g1, g11, g12, g13, e1, List.length_map, Int.toNat_natCast, RS_, FB_, segR, ST_, seval, ne_eq, bne, forall_const, implies_true, TY_, WLS]
        | (with_reducible refine drawK_id ?_); refine drawK_auto hmix (by kernel_rfl) ?_
        | (with_reducible refine draw_fin ?_ ?_); · kernel_rfl
        | (with_reducible refine draw_id ?_); kernel_rfl
        | (with_reducible refine And.intro ?_ ?_; · omega)
      refine ⟨a.ps.length - (i + 1), _, _, by omega, Wk.gc [0, 1, 2, 3, 4, 5, 6] rfl (by decide), i + 1, rfl, by omega, ?_, ?_, ?_, ?_, ?_, ?_⟩ <;> first | (simp [Function.comp_def, get_gcT, get, put, gcI, pullI, push1, pushI, pullS, pushS, gcH, patL, canL, canH, canTL, canT, segR, ix, upd, up1, mapC_rows, mapC_gone, pushC_rows, pushC_gone, pullP, pullV, pullSS, pullD, pullT, pullF, pushP, pushV, pushSS, pushD, pushT, pushF, pullD16, pushD16, AH, rowA, cT, cF, pull_I, push_I, pull_PE, push_PE, g0, g1, g11, g12, g13]; done) | (rw [hnx]; simp [Function.comp_def, get_gcT, get, put, gcI, pullI, push1, pushI, pullS, pushS, gcH, patL, canL, canH, canTL, canT, segR, ix, upd, up1, mapC_rows, mapC_gone, pushC_rows, pushC_gone, pullP, pullV, pullSS, pullD, pullT, pullF, pushP, pushV, pushSS, pushD, pushT, pushF, pullD16, pushD16, AH, rowA, cT, cF, pull_I, push_I, pull_PE, push_PE, blkI, setA, cP, setPE, hbl, e1])
    | false =>
      generalize hb2 : blockP p b.cf = p2 at *
      repeat' first
        | with_reducible rfl
        | simp only [rowA, hcP, q, hb0, hbN, hbN', hbl, hi1, hpr, encPE, g0, g1, g11, g12, g13, e1, List.length_map, Int.toNat_natCast, RS_, FB_, segR, ST_, seval, ne_eq, bne, forall_const, implies_true, TY_, WLS]
        | (with_reducible refine drawK_id ?_); refine drawK_auto hmix (by kernel_rfl) ?_
        | (with_reducible refine draw_fin ?_ ?_); · kernel_rfl
        | (with_reducible refine draw_id ?_); kernel_rfl
        | (with_reducible refine callD_id (f := 51) ?_); refine callD_of (cb) rfl rfl ?_
        | (with_reducible refine And.intro ?_ ?_; · omega)
      refine ⟨a.ps.length - (i + 1), _, _, by omega, Wk.gc [0, 1, 2, 3, 4, 5, 6] rfl (by decide), i + 1, rfl, by omega, ?_, ?_, ?_, ?_, ?_, ?_⟩ <;> first | (simp [Function.comp_def, get_gcT, get, put, gcI, pullI, push1, pushI, pullS, pushS, gcH, patL, canL, canH, canTL, canT, segR, ix, upd, up1, mapC_rows, mapC_gone, pushC_rows, pushC_gone, pullP, pullV, pullSS, pullD, pullT, pullF, pushP, pushV, pushSS, pushD, pushT, pushF, pullD16, pushD16, AH, rowA, cT, cF, pull_I, push_I, pull_PE, push_PE, g0, g1, g11, g12, g13]; done) | (rw [hnx]; simp [Function.comp_def, get_gcT, get, put, gcI, pullI, push1, pushI, pullS, pushS, gcH, patL, canL, canH, canTL, canT, segR, ix, upd, up1, mapC_rows, mapC_gone, pushC_rows, pushC_gone, pullP, pullV, pullSS, pullD, pullT, pullF, pushP, pushV, pushSS, pushD, pushT, pushF, pullD16, pushD16, AH, rowA, cT, cF, pull_I, push_I, pull_PE, push_PE, blkI, hb2, setA, cP, setPE, hbl, e1])
  · have q : decide ((i : Int) < (a.ps.length : Int)) = false := decide_eq_false (by omega)
    have hin : i = a.ps.length := by omega
    subst hin
    have hbl := fr.len
    have hbs := fr.sz
    obtain ⟨p, hp⟩ : ∃ p, (itA (blkI j) a a.ps.length).ps[j]? = some p := ⟨_, List.getElem?_eq_getElem (by rw [fr.len]; omega)⟩
    have hpr : ((itA (blkI j) a a.ps.length).ps.map encPE)[j]? = some (encPE p) := by rw [List.getElem?_map, hp]; rfl
    have hmod : agreeA a j = sendA (itA (blkI j) a a.ps.length) ((j : Int) + 1) (agrD p) := by simp only [agreeA, hp]
    rw [hmod]
    clear hmod fr
    generalize itA (blkI j) a a.ps.length = b at *
    have hb0 : (0 : Int) ≤ (j : Int) := by omega
    have hbN : (j : Int) < (b.ps.length : Int) := by omega
    have hbN' : (j : Int) < (a.ps.length : Int) := by omega
    have hj1 : IntKind.i64.wrap ((j : Int) + 1) = (j : Int) + 1 := wr_i64 (by omega) (by omega)
    have cs := c_send b ((j : Int) + 1) (agrD p) (by have := szA_t b; omega)
    have hcP : ∀ l, cP l = .rows true 21 (l.map encPE) := fun _ => rfl
    unfold AH
    cases e1 : (p.ro == 3) with
    | true =>
      repeat' first
        | with_reducible rfl
        | simp only [rowA, hcP, q, hb0, hbN, hbN', hbl, hj1, hpr, encPE, encPD, pduV, g0, g1, g11, g12, g13, e1, List.length_map, Int.toNat_natCast, RS_, FB_, segR, ST_, seval, ne_eq, bne, forall_const, implies_true, TY_, WLS]
        | (with_reducible refine drawK_id ?_); refine drawK_auto hmix (by kernel_rfl) ?_
        | (with_reducible refine draw_fin ?_ ?_); · kernel_rfl
        | (with_reducible refine draw_id ?_); kernel_rfl
        | (with_reducible refine callK_id (f := 62) ?_); refine callK_fun (c_pdu') rfl rfl ?_
        | ((with_reducible refine callK_id (f := 63) ?_); refine callK_funW [] [0, 1, 2, 3, 4, 5, 6] (cs) (by simp [AH, Function.comp_def, pullHW, rowA, pullS, ix, pull_PE, mapC_rows, mapC_gone, pushC_rows, pushC_gone, pullP, pullV, pullSS, pullD, pullT, pullF, pushP, pushV, pushSS, pushD, pushT, pushF, pullD16, pushD16, cP, hbl]) rfl rfl (by decide) (by simp [cP, cV, cS, cD, cT, cF]) (by simp [pullI, pullS, ix, encPD, agrD, pduV, e1]) ?_; rintro r Hn ⟨rfl, rfl⟩ -; clear hcP)
        | (with_reducible refine And.intro ?_ ?_; · omega)
      repeat' first
        | with_reducible rfl
        | simp only [AH2, rowA, mapC_rows, mapC_gone, pushC_rows, pushC_gone, pullP, pullV, pullSS, pullD, pullT, pullF, pushP, pushV, pushSS, pushD, pushT, pushF, pullD16, pushD16, pull_I, push_I, g0, RS_, FB_, segR, ST_, seval, ne_eq, bne, forall_const, implies_true, TY_, WLS]
        | (with_reducible refine drawK_id ?_); refine drawK_auto hmix (by kernel_rfl) ?_
        | (with_reducible refine draw_fin ?_ ?_); · kernel_rfl
        | (with_reducible refine draw_id ?_); kernel_rfl
        | (with_reducible refine And.intro ?_ ?_; · omega)
      all_goals (refine ⟨.t [], AH2 (sendA b ((j : Int) + 1) (agrD p)), (WkR.can [(17, 0, 0, 25), (1, 0, 0, 26)] [.inl 0, .inl 1, .inl 2, .inl 3, .inl 4, .inl 5, .inl 6, .inr 0, .inr 1] rfl (by simp [patL])).to rfl ?_, by simp [AH2], rfl, rfl⟩; simp [Function.comp_def, get_gcT, get, put, gcI, pullI, push1, pushI, pullS, pushS, gcH, patL, canL, canH, canTL, canT, segR, ix, upd, up1, mapC_rows, mapC_gone, pushC_rows, pushC_gone, pullP, pullV, pullSS, pullD, pullT, pullF, pushP, pushV, pushSS, pushD, pushT, pushF, pullD16, pushD16, AH2, rowA, cT, cF, pull_I, push_I, pull_PE, push_PE, ])
    | false =>
      repeat' first
        | with_reducible rfl
        | simp only [rowA, hcP, q, hb0, hbN, hbN', hbl, hj1, hpr, encPE, encPD, pduV, g0, g1, g11, g12, g13, e1, List.length_map, Int.toNat_natCast, RS_, FB_, segR, ST_, seval, ne_eq, bne, forall_const, implies_true, TY_, WLS]
        | (with_reducible refine drawK_id ?_); refine drawK_auto hmix (by kernel_rfl) ?_
        | (with_reducible refine draw_fin ?_ ?_); · kernel_rfl
        | (with_reducible refine draw_id ?_); kernel_rfl
        | (with_reducible refine callK_id (f := 62) ?_); refine callK_fun (c_pdu') rfl rfl ?_
        | ((with_reducible refine callK_id (f := 63) ?_); refine callK_funW [] [0, 1, 2, 3, 4, 5, 6] (cs) (by simp [AH, Function.comp_def, pullHW, rowA, pullS, ix, pull_PE, mapC_rows, mapC_gone, pushC_rows, pushC_gone, pullP, pullV, pullSS, pullD, pullT, pullF, pushP, pushV, pushSS, pushD, pushT, pushF, pullD16, pushD16, cP, hbl]) rfl rfl (by decide) (by simp [cP, cV, cS, cD, cT, cF]) (by simp [pullI, pullS, ix, encPD, agrD, pduV, e1]) ?_; rintro r Hn ⟨rfl, rfl⟩ -; clear hcP)
        | (with_reducible refine And.intro ?_ ?_; · omega)
      repeat' first
        | with_reducible rfl
        | simp only [AH2, rowA, mapC_rows, mapC_gone, pushC_rows, pushC_gone, pullP, pullV, pullSS, pullD, pullT, pullF, pushP, pushV, pushSS, pushD, pushT, pushF, pullD16, pushD16, pull_I, push_I, g0, RS_, FB_, segR, ST_, seval, ne_eq, bne, forall_const, implies_true, TY_, WLS]
        | (with_reducible refine drawK_id ?_); refine drawK_auto hmix (by kernel_rfl) ?_
        | (with_reducible refine draw_fin ?_ ?_); · kernel_rfl
        | (with_reducible refine draw_id ?_); kernel_rfl
        | (with_reducible refine And.intro ?_ ?_; · omega)
      all_goals (refine ⟨.t [], AH2 (sendA b ((j : Int) + 1) (agrD p)), (WkR.can [(17, 0, 0, 25), (1, 0, 0, 26)] [.inl 0, .inl 1, .inl 2, .inl 3, .inl 4, .inl 5, .inl 6, .inr 0, .inr 1] rfl (by simp [patL])).to rfl ?_, by simp [AH2], rfl, rfl⟩; simp [Function.comp_def, get_gcT, get, put, gcI, pullI, push1, pushI, pullS, pushS, gcH, patL, canL, canH, canTL, canT, segR, ix, upd, up1, mapC_rows, mapC_gone, pushC_rows, pushC_gone, pullP, pullV, pullSS, pullD, pullT, pullF, pushP, pushV, pushSS, pushD, pushT, pushF, pullD16, pushD16, AH2, rowA, cT, cF, pull_I, push_I, pull_PE, push_PE, ])
end Go.Ev
