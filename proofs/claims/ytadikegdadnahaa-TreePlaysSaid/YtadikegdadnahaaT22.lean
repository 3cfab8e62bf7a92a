/- A part of the proof: contracts of the functions that the statement reaches. -/
import Derived.Test.YtadikegdadnahaaT21
namespace Go.Ev
open Go.Proofs
set_option maxRecDepth 100000
set_option linter.unusedSimpArgs false
set_option linter.unusedVariables false
set_option maxHeartbeats 4000000
theorem nn_agreeP (p : PE) (h : 0 ≤ p.st) : 0 ≤ (agreeP p).st := by
  unfold agreeP
  split
  · simp
  · exact h
theorem nn_blockP (p : PE) (c : CF) (h : 0 ≤ p.st) : 0 ≤ (blockP p c).st := by
  unfold blockP
  split
  · simp
  · exact h
theorem nn_hearP (p : PE) (v : V4) (g : Int) (c : CF) (h : 0 ≤ p.st) : 0 ≤ (hearP p v g c).st := by
  unfold hearP
  split <;> exact h
theorem nn_blkI (j : Nat) (b : AS) (i : Nat) (p : PE) (hp : b.ps[i]? = some p) (h : NnA b) : NnA (blkI j b i p) := by
  unfold blkI; split
  · exact h
  · exact nn_setA h (nn_blockP _ _ (h.at hp))
theorem nn_agree {a : AS} (i : Nat) (h : NnA a) : NnA (agreeA a i) := by
  unfold agreeA
  split <;> exact nn_itA (nn_blkI i) h _
theorem nn_reply {a : AS} {i : Nat} {p : PE} (hp : a.ps[i]? = some p) (d : PD) (h : NnA a) : NnA (replyA a i p d) := by
  have h1 := nn_setA (i := i) h (nn_agreeP p (h.at hp))
  unfold replyA
  repeat' split
  · exact nn_changed (by simp [setA, (List.getElem?_eq_some_iff.1 hp).1]) h1
  · exact h1
  all_goals exact h
theorem nn_news {a : AS} {i : Nat} {p : PE} (hp : a.ps[i]? = some p) (d : PD) (h : NnA a) : NnA (newsA a i p d) := by
  have h1 := nn_setA (i := i) h (nn_hearP p (vecD d) d.age a.cf (h.at hp))
  have h2 := nn_choose h1
  unfold newsA
  repeat' split
  all_goals first | exact h1 | exact h2 | exact nn_agree _ h2
theorem nn_hear1 {a : AS} {i : Nat} {p : PE} (hp : a.ps[i]? = some p) (d : PD) (h : NnA a) : NnA (hear1 a i p d) := by
  have h1 := nn_setA (i := i) (q := unplain p) h (show 0 ≤ p.st from h.at hp)
  unfold hear1
  by_cases hk : (if d.kind == 128 then true else d.top) = true
  · rw [if_pos hk]; exact nn_itA (nn_spr _ _) h1 _
  · rw [if_neg hk]; exact h1
theorem nn_hear2 {c : AS} (i : Nat) (d : PD) (h : NnA c) : NnA (hear2 c i d) := by
  unfold hear2
  split
  · exact h
  · cases hp2 : c.ps[i]? with
    | none => exact h
    | some p2 =>
      simp only []
      by_cases hk : (if d.kind == 2 then (if d.role == 2 then true else d.role == 1) else false) = true
      · rw [if_pos hk]; exact nn_reply hp2 d h
      · rw [if_neg hk]; exact nn_news hp2 d h
theorem nn_hear {a : AS} (port : Int) (d : PD) (h : NnA a) : NnA (hearT a port d) := by
  unfold hearT
  split
  · exact h
  split
  · exact h
  cases hp : a.ps[(port - 1).toNat]? with
  | none => exact h
  | some p =>
    simp only []
    split
    · exact nn_hear2 _ d (nn_hear1 hp d h)
    · exact h
theorem nn_switchT {a : AS} (port : Int) (u d : Bool) (h : NnA a) : NnA (switchT a port u d) := by
  unfold switchT
  repeat' split
  · exact h
  · exact h
  · rename_i p hp; exact nn_choose (nn_flush (nn_setA h (nn_switch _ _ _ _ (h.at hp))))
  · exact h
theorem blk_at (j : Nat) (a : AS) : ∀ i, (itA (blkI j) a i).ps[j]? = a.ps[j]?
  | 0 => rfl
  | i + 1 => by
    cases hp : (itA (blkI j) a i).ps[i]? with
    | none => simp only [itA, hp]; exact blk_at j a i
    | some p =>
      rw [itA_next hp]
      unfold blkI
      split
      · exact blk_at j a i
      · rename_i h
        have hne : i ≠ j := fun e => h (by rw [e]; exact beq_self_eq_true _)
        show ((itA (blkI j) a i).ps.set i _)[j]? = _
        rw [List.getElem?_set_ne hne]
        exact blk_at j a i
def AHD (d : PD) (a : AS) : Heap := [.rows true 27 [rowA 1 2 3 4 8 9 a], cP a.ps, cV a.vs, cS a.ss, cD a.ds, .gone, .gone, .rows true 16 [encPD d], cT a.told, cF a.fl]
theorem drawK_keyE {P : Program} {n N : Nat} {X : Ctx} {id : Nat} {ops : Array Oper} {K : TM → Heap → Prop} {tm tm1 : TM} {H H1 H2 : Heap} (h : Wk N tm H tm1 H1) (e : H1 = H2) (k : drawK P n (X.at N) id ops K tm1 H2) : drawK P n (X.at N) id ops K tm H := by
  subst e; exact IW_wk h k
theorem loopK_key {P : Program} {n N : Nat} {X : Ctx} {c : Code} {Q : Exit → TM → Heap → Prop} {tm tm1 : TM} {H H1 H2 : Heap} (h : Wk N tm H tm1 H1) (e : H1 = H2) (k : loopK P n (X.at N) c Q tm1 H2) : loopK P n (X.at N) c Q tm H := by
  subst e; exact IW_wk h k
def I_th (c : AS) (d : PD) (port : Int) (j : Nat) (m : Nat) (tm : TM) (H : Heap) : Prop := ∃ i : Nat, m = c.ps.length - i ∧ i ≤ c.ps.length ∧ get tm 0 = .s (.ptr 0 0 0) ∧ get tm 1 = .s (.raw (.int .i64 port)) ∧ get tm 5 = .s (.ptr 7 0 0) ∧ get tm 6 = .s (.raw (.int .i64 (j : Int))) ∧ get tm 7 = .s (.raw (.int .i64 (i : Int))) ∧ H = AHD d (itA (sprI (j : Int) false) c i)
def I_tb (c : AS) (r port : Int) (j : Nat) (m : Nat) (tm : TM) (H : Heap) : Prop := ∃ i : Nat, m = c.ps.length - i ∧ i ≤ c.ps.length ∧ get tm 0 = .s (.ptr 0 0 0) ∧ get tm 1 = .s (.raw (.int .i64 port)) ∧ get tm 6 = .s (.raw (.int .i64 (j : Int))) ∧ get tm 15 = .s (.raw (.int .i64 r)) ∧ get tm 16 = .s (.raw (.int .i64 (i : Int))) ∧ H = AH2 (itA (blkI j) c i)
theorem c_vec (d : PD) : Fun Try.prog 48 [.a (encPD d)] (.a (encV (vecD d))) := by
  refine fun_of rfl fun X => ?_
  refine callK_inline (rs := [.cell 2 65]) (n := 12) Try.func48 rfl rfl rfl (by kernel_rfl) (by kernel_rfl) (by simp only [List.length_cons, List.length_nil]; decide) ?_
  repeat' first
    | with_reducible rfl
    | simp only [*, vecD, encPD, encV, RS_, FB_, mapC, pushC, segR, ST_, seval, ne_eq, bne, forall_const, implies_true, TY_, WLS]
    | with_reducible refine g_eq (fun h => ?_) (fun h => ?_)
    | with_reducible refine gdb_split (fun h => ?_) (fun h => ?_)
    | (with_reducible refine drawK_id ?_); refine drawK_auto hmix (by kernel_rfl) ?_
    | (with_reducible refine draw_fin ?_ ?_); · kernel_rfl
    | (with_reducible refine draw_id ?_); kernel_rfl
    | (with_reducible refine And.intro ?_ ?_; · omega)
theorem c_vec' {d_0 d_7 d_8 d_9 d_10 d_11 d_12 d_13 d_14 d_15 : Int} {d_1 d_2 d_3 d_4 d_5 d_6 : Bool} : Fun Try.prog 48 [.a [.raw (.int .u8 d_0), .raw (.bool d_1), .raw (.bool d_2), .raw (.bool d_3), .raw (.bool d_4), .raw (.bool d_5), .raw (.bool d_6), .raw (.int .u8 d_7), .raw (.int .u64 d_8), .raw (.int .u32 d_9), .raw (.int .u64 d_10), .raw (.int .u16 d_11), .raw (.int .u16 d_12), .raw (.int .u16 d_13), .raw (.int .u16 d_14), .raw (.int .u16 d_15)]] (.a (encV (vecD ⟨d_0, d_1, d_2, d_3, d_4, d_5, d_6, d_7, d_8, d_9, d_10, d_11, d_12, d_13, d_14, d_15⟩))) := c_vec ⟨d_0, d_1, d_2, d_3, d_4, d_5, d_6, d_7, d_8, d_9, d_10, d_11, d_12, d_13, d_14, d_15⟩
theorem encV_vecD {d0 d7 d8 d9 d10 d11 d12 d13 d14 d15 : Int} {d1 d2 d3 d4 d5 d6 : Bool} : encV (vecD ⟨d0, d1, d2, d3, d4, d5, d6, d7, d8, d9, d10, d11, d12, d13, d14, d15⟩) = [.raw (.int .u64 d8), .raw (.int .u32 d9), .raw (.int .u64 d10), .raw (.int .u16 d11)] := rfl
def KeyN (X : Ctx) (c : AS) (d : PD) (port : Int) (i : Nat) (ops : Array Oper) (K : TM → Heap → Prop) : Prop := (d.kind == 128) = false → (if d.kind == 2 then (if d.role == 2 then true else d.role == 1) else false) = false → ∀ tm : TM, get tm 0 = .s (.ptr 0 0 0) → get tm 1 = .s (.raw (.int .i64 port)) → get tm 5 = .s (.ptr 7 0 0) → get tm 6 = .s (.raw (.int .i64 (i : Int))) → drawK Try.prog 301 (X.at 7) 20 ops K tm (AHD d c)
def KeyR (X : Ctx) (c : AS) (d : PD) (port : Int) (i : Nat) (p2 : PE) (ops : Array Oper) (K : TM → Heap → Prop) : Prop := (d.kind == 128) = false → (if d.kind == 2 then (if d.role == 2 then true else d.role == 1) else false) = true → ∀ tm : TM, get tm 0 = .s (.ptr 0 0 0) → get tm 1 = .s (.raw (.int .i64 port)) → get tm 5 = .s (.ptr 7 0 0) → get tm 6 = .s (.raw (.int .i64 (i : Int))) → get tm 10 = .s (.ptr 10 0 0) → drawK Try.prog 301 (X.at 7) 15 ops K tm (AHD d c ++ [.rows true 21 [encPE p2]])
def KeyL (X : Ctx) (a1 : AS) (d : PD) (port : Int) (i : Nat) (c : Code) (Q : Exit → TM → Heap → Prop) : Prop := (if d.kind == 128 then true else d.top) = true → ∀ tm : TM, get tm 0 = .s (.ptr 0 0 0) → get tm 1 = .s (.raw (.int .i64 port)) → get tm 5 = .s (.ptr 7 0 0) → get tm 6 = .s (.raw (.int .i64 (i : Int))) → get tm 7 = .s (.raw (.int .i64 0)) → loopK Try.prog 301 (X.at 7) c Q tm (AHD d a1)
theorem c_thear (a : AS) (port : Int) (hp0 : -1000000 ≤ port ∧ port ≤ 1000000) (d : PD) (hage : 0 ≤ d.age ∧ d.age ≤ 65535) (hn : a.ps.length ≤ 16) (hN : NnA a) (hb : szA a ≤ 500000) : FunW Try.prog 23 [] (AH a) [.s (.ptr 0 0 0), .s (.raw (.int .i64 port)), .a (encPD d)] fun r Hn => r = .t [] ∧ Hn = AH2 (hearT a port d) := by
  refine funW_of fun X => ?_
  refine callK_inline (rs := []) (n := 301) Try.func23 rfl rfl rfl (by kernel_rfl) (by kernel_rfl) (by simp only [List.length_cons, List.length_nil]; decide) ?_
  unfold AH
  have hw : IntKind.i64.wrap (port - 1) = port - 1 := wr_i64 (by omega) (by omega)
  have hneg : decide (port - 1 < 0) = decide (port < 1) := by
    by_cases h : port < 1
    · rw [decide_eq_true h, decide_eq_true (by omega)]
    · rw [decide_eq_false h, decide_eq_false (by omega)]
  cases e1 : decide (port < 1) with
  | true =>
    have hmod : hearT a port d = a := by simp only [hearT, e1, if_true]
    rw [hmod]
    repeat' first
      | with_reducible rfl
      | simp only [rowA, hw, hneg, e1, encPD, RS_, FB_, segR, ST_, seval, ne_eq, bne, forall_const, implies_true, TY_, WLS]
      | (with_reducible refine drawK_id ?_); refine drawK_auto hmix (by kernel_rfl) ?_
      | (with_reducible refine draw_fin ?_ ?_); · kernel_rfl
      | (with_reducible refine draw_id ?_); kernel_rfl
      | (with_reducible refine And.intro ?_ ?_; · omega)
    all_goals (refine ⟨.t [], AH2 (a), (WkR.can [(17, 0, 0, 25), (1, 0, 0, 26)] [.inl 0, .inl 1, .inl 2, .inl 3, .inl 4, .inl 5, .inl 6, .inr 0, .inr 1] rfl (by simp [patL])).to rfl ?_, by simp [AH2], rfl, rfl⟩; simp [Function.comp_def, get_gcT, get, put, gcI, pullI, push1, pushI, pullS, pushS, gcH, patL, canL, canH, canTL, canT, segR, ix, upd, up1, mapC_rows, mapC_gone, pushC_rows, pushC_gone, pullP, pullV, pullSS, pullD, pullT, pullF, pushP, pushV, pushSS, pushD, pushT, pushF, pullD16, pushD16, AH2, rowA, cT, cF, pull_I, push_I, pull_PE, push_PE, ])
  | false =>
  cases e2 : decide ((a.ps.length : Int) ≤ port - 1) with
  | true =>
    have hmod : hearT a port d = a := by simp only [hearT, e1, e2, Bool.false_eq_true, if_true, if_false]
    rw [hmod]
    repeat' first
      | with_reducible rfl
      | simp only [rowA, hw, hneg, e1, e2, encPD, RS_, FB_, segR, ST_, seval, ne_eq, bne, forall_const, implies_true, TY_, WLS]
      | (with_reducible refine drawK_id ?_); refine drawK_auto hmix (by kernel_rfl) ?_
      | (with_reducible refine draw_fin ?_ ?_); · kernel_rfl
      | (with_reducible refine draw_id ?_); kernel_rfl
      | (with_reducible refine And.intro ?_ ?_; · omega)
    all_goals (refine ⟨.t [], AH2 (a), (WkR.can [(17, 0, 0, 25), (1, 0, 0, 26)] [.inl 0, .inl 1, .inl 2, .inl 3, .inl 4, .inl 5, .inl 6, .inr 0, .inr 1] rfl (by simp [patL])).to rfl ?_, by simp [AH2], rfl, rfl⟩; simp [Function.comp_def, get_gcT, get, put, gcI, pullI, push1, pushI, pullS, pushS, gcH, patL, canL, canH, canTL, canT, segR, ix, upd, up1, mapC_rows, mapC_gone, pushC_rows, pushC_gone, pullP, pullV, pullSS, pullD, pullT, pullF, pushP, pushV, pushSS, pushD, pushT, pushF, pullD16, pushD16, AH2, rowA, cT, cF, pull_I, push_I, pull_PE, push_PE, ])
  | false =>
    have r1 := of_decide_eq_false e1
    have r2 := of_decide_eq_false e2
    obtain ⟨i, hi⟩ : ∃ i : Nat, port - 1 = (i : Int) := ⟨(port - 1).toNat, by omega⟩
    have hti : (port - 1).toNat = i := by omega
    have hpi : port = (i : Int) + 1 := by omega
    have hlt : i < a.ps.length := by omega
    obtain ⟨p, hp⟩ : ∃ p, a.ps[i]? = some p := ⟨_, List.getElem?_eq_getElem hlt⟩
    have hps := encPEs_get hp
    have hb0 : (0 : Int) ≤ (i : Int) := by omega
    have hbN : (i : Int) < (a.ps.length : Int) := by omega
    have hng : decide ((i : Int) < 0) = false := decide_eq_false (by omega)
    rw [hi] at e2
    replace hw := hw.trans hi
    have hon : onP p = if p.up then p.ad else false := rfl
    have hoff : onP p = false → hearT a port d = a := fun e3 => by simp only [hearT, e1, hi, e2, hti, Int.toNat_natCast, hp, e3, Bool.false_eq_true, if_false]
    have hgo : onP p = true → hearT a port d = hear2 (hear1 a i p d) i d := fun e3 => by simp only [hearT, e1, hi, e2, hti, Int.toNat_natCast, hp, e3, Bool.false_eq_true, if_false, if_true]
    have hcP := cP_s
    cases u1 : p.up with
    | false =>
      rw [hoff (by rw [hon, u1]; rfl)]
      repeat' first
        | with_reducible rfl
        | simp only [rowA, hcP, encPEs_len, encPEs_pull, encPEs_push, hw, hng, e2, hb0, hbN, hps, encPE, Int.toNat_natCast, List.length_set, u1, encPD, RS_, FB_, segR, ST_, seval, ne_eq, bne, forall_const, implies_true, TY_, WLS]
        | (with_reducible refine drawK_id ?_); refine drawK_auto hmix (by kernel_rfl) ?_
        | (with_reducible refine draw_fin ?_ ?_); · kernel_rfl
        | (with_reducible refine draw_id ?_); kernel_rfl
        | (with_reducible refine And.intro ?_ ?_; · omega)
      all_goals (refine ⟨.t [], AH2 (a), (WkR.can [(17, 0, 0, 25), (1, 0, 0, 26)] [.inl 0, .inl 1, .inl 2, .inl 3, .inl 4, .inl 5, .inl 6, .inr 0, .inr 1] rfl (by simp [patL])).to rfl ?_, by simp [AH2], rfl, ?_⟩ <;> simp [Function.comp_def, get_gcT, get, put, gcI, pullI, push1, pushI, pullS, pushS, gcH, patL, canL, canH, canTL, canT, segR, ix, upd, up1, mapC_rows, mapC_gone, pushC_rows, pushC_gone, pullP, pullV, pullSS, pullD, pullT, pullF, pushP, pushV, pushSS, pushD, pushT, pushF, pullD16, pushD16, AH2, rowA, cP_s, encPEs_pull, encPEs_push, cT, cF, pull_I, push_I, pull_PE, push_PE])
    | true =>
    cases u2 : p.ad with
    | false =>
      rw [hoff (by rw [hon, u1, u2]; rfl)]
      repeat' first
        | with_reducible rfl
        | simp only [rowA, hcP, encPEs_len, encPEs_pull, encPEs_push, hw, hng, e2, hb0, hbN, hps, encPE, Int.toNat_natCast, List.length_set, u1, u2, encPD, RS_, FB_, segR, ST_, seval, ne_eq, bne, forall_const, implies_true, TY_, WLS]
        | (with_reducible refine drawK_id ?_); refine drawK_auto hmix (by kernel_rfl) ?_
        | (with_reducible refine draw_fin ?_ ?_); · kernel_rfl
        | (with_reducible refine draw_id ?_); kernel_rfl
        | (with_reducible refine And.intro ?_ ?_; · omega)
      all_goals (refine ⟨.t [], AH2 (a), (WkR.can [(17, 0, 0, 25), (1, 0, 0, 26)] [.inl 0, .inl 1, .inl 2, .inl 3, .inl 4, .inl 5, .inl 6, .inr 0, .inr 1] rfl (by simp [patL])).to rfl ?_, by simp [AH2], rfl, ?_⟩ <;> simp [Function.comp_def, get_gcT, get, put, gcI, pullI, push1, pushI, pullS, pushS, gcH, patL, canL, canH, canTL, canT, segR, ix, upd, up1, mapC_rows, mapC_gone, pushC_rows, pushC_gone, pullP, pullV, pullSS, pullD, pullT, pullF, pushP, pushV, pushSS, pushD, pushT, pushF, pullD16, pushD16, AH2, rowA, cP_s, encPEs_pull, encPEs_push, cT, cF, pull_I, push_I, pull_PE, push_PE])
    | true =>
      rw [hgo (by rw [hon, u1, u2]; rfl)]
      clear hoff hgo hon e1 hneg r1 r2
      have f1 := setA_fr a i (unplain p)
      have hN1 := nn_hear1 hp d hN
      have f2 := hear1_fr a i p d
      have hmod1 : hear1 a i p d = if (if d.kind == 128 then true else d.top) then sprA (setA a i (unplain p)) (i : Int) false else setA a i (unplain p) := rfl
      obtain ⟨c, hc⟩ : ∃ c, hear1 a i p d = c := ⟨_, rfl⟩
      rw [hc] at hmod1 f2 hN1 ⊢
      clear hc
      have hcl := f2.len
      have hcs := f2.sz
      have hcn : c.ps.length ≤ 16 := by omega
      obtain ⟨p2, hp2⟩ : ∃ p2, c.ps[i]? = some p2 := ⟨_, List.getElem?_eq_getElem (by omega)⟩
      clear f2
      obtain ⟨fin, hfin⟩ : ∃ x, hear2 c i d = x := ⟨_, rfl⟩
      rw [hfin]
      have hcz : szA c ≤ 600000 := by omega
      have hps2 := encPEs_get hp2
      have hbN2 : (i : Int) < (c.ps.length : Int) := by omega
      have hw3 : IntKind.i64.wrap d.age = d.age := wr_i64 (by omega) (by omega)
      refine' (fun (keyN : KeyN X c d port i _ _) => ?mN) ?kN
      case' mN => refine' (fun (keyR : KeyR X c d port i p2 _ _) => ?mR) ?kR
      case' mR => refine' (fun (keyL : KeyL X (setA a i (unplain p)) d port i _ _) => ?mL) ?kL
      case mL =>
        cases t1 : d.top with
        | true =>
          repeat' first
            | with_reducible rfl
            | simp only [rowA, hcP, encPEs_len, encPEs_pull, encPEs_push, hw, hng, e2, hb0, hbN, hps, encPE, Int.toNat_natCast, List.length_set, u1, u2, encPD, t1, RS_, FB_, segR, ST_, seval, ne_eq, bne, forall_const, implies_true, TY_, WLS]
            | (with_reducible refine drawK_id ?_); refine drawK_auto hmix (by kernel_rfl) ?_
            | (with_reducible refine draw_fin ?_ ?_); · kernel_rfl
            | (with_reducible refine draw_id ?_); kernel_rfl
            | (with_reducible refine And.intro ?_ ?_; · omega)
          refine loopK_key (H2 := AHD d (setA a i (unplain p))) (Wk.can [(17, 0, 0, 25), (1, 0, 0, 26)] [.inl 0, .inl 1, .inl 2, .inl 3, .inl 4, .inl 5, .inl 6, .inl 7, .inr 0, .inr 1] rfl (by simp [patL])) ?_ ?_
          · simp [Function.comp_def, get_gcT, get, put, gcI, pullI, push1, pushI, pullS, pushS, gcH, patL, canL, canH, canTL, canT, segR, ix, upd, up1, mapC_rows, mapC_gone, pushC_rows, pushC_gone, pullP, pullV, pullSS, pullD, pullT, pullF, pushP, pushV, pushSS, pushD, pushT, pushF, pullD16, pushD16, AHD, rowA, cT, cF, pull_I, push_I, cP_s, encPEs_pull, encPD, setA, setPEs, unplain, u1, u2, hpi, t1]
          · refine keyL (by rw [t1]; split <;> rfl) _ ?_ ?_ ?_ ?_ ?_ <;> simp [Function.comp_def, get_gcT, get, put, gcI, pullI, push1, pushI, pullS, pushS, gcH, patL, canL, canH, canTL, canT, segR, ix, upd, up1, mapC_rows, mapC_gone, pushC_rows, pushC_gone, pullP, pullV, pullSS, pullD, pullT, pullF, pushP, pushV, pushSS, pushD, pushT, pushF, pullD16, pushD16, AHD, rowA, cT, cF, pull_I, push_I, cP_s, encPEs_pull, encPD, setA, setPEs, unplain, u1, u2, hpi, t1]
        | false =>
          cases t2 : (d.kind == 128) with
          | true =>
            repeat' first
              | with_reducible rfl
              | simp only [rowA, hcP, encPEs_len, encPEs_pull, encPEs_push, hw, hng, e2, hb0, hbN, hps, encPE, Int.toNat_natCast, List.length_set, u1, u2, encPD, t1, t2, RS_, FB_, segR, ST_, seval, ne_eq, bne, forall_const, implies_true, TY_, WLS]
              | (with_reducible refine drawK_id ?_); refine drawK_auto hmix (by kernel_rfl) ?_
              | (with_reducible refine draw_fin ?_ ?_); · kernel_rfl
              | (with_reducible refine draw_id ?_); kernel_rfl
              | (with_reducible refine And.intro ?_ ?_; · omega)
            refine loopK_key (H2 := AHD d (setA a i (unplain p))) (Wk.can [(17, 0, 0, 25), (1, 0, 0, 26)] [.inl 0, .inl 1, .inl 2, .inl 3, .inl 4, .inl 5, .inl 6, .inl 7, .inr 0, .inr 1] rfl (by simp [patL])) ?_ ?_
            · simp [Function.comp_def, get_gcT, get, put, gcI, pullI, push1, pushI, pullS, pushS, gcH, patL, canL, canH, canTL, canT, segR, ix, upd, up1, mapC_rows, mapC_gone, pushC_rows, pushC_gone, pullP, pullV, pullSS, pullD, pullT, pullF, pushP, pushV, pushSS, pushD, pushT, pushF, pullD16, pushD16, AHD, rowA, cT, cF, pull_I, push_I, cP_s, encPEs_pull, encPD, setA, setPEs, unplain, u1, u2, hpi, t1, t2]
            · refine keyL (by rw [t2]; rfl) _ ?_ ?_ ?_ ?_ ?_ <;> simp [Function.comp_def, get_gcT, get, put, gcI, pullI, push1, pushI, pullS, pushS, gcH, patL, canL, canH, canTL, canT, segR, ix, upd, up1, mapC_rows, mapC_gone, pushC_rows, pushC_gone, pullP, pullV, pullSS, pullD, pullT, pullF, pushP, pushV, pushSS, pushD, pushT, pushF, pullD16, pushD16, AHD, rowA, cT, cF, pull_I, push_I, cP_s, encPEs_pull, encPD, setA, setPEs, unplain, u1, u2, hpi, t1, t2]
          | false =>
            have hc1 : c = setA a i (unplain p) := by rw [hmod1, t2, t1]; rfl
            subst hc1
            have hset : ∀ r, ((encPEs a.ps).set i r)[i]? = some r := fun r => by simp [encPEs_len, hlt]
            obtain rfl : p2 = unplain p := by
              have h := hp2
              simp only [setA, List.getElem?_set_self hlt, Option.some.injEq] at h
              exact h.symm
            have k0 := t2
            cases k1 : (d.kind == 2) with
            | false =>
              repeat' first
                | with_reducible rfl
                | simp only [rowA, hcP, encPEs_len, encPEs_pull, encPEs_push, hb0, hbN2, hps2, encPE, encPD, Int.toNat_natCast, List.length_set, hw, hng, e2, hbN, hps, hset, u1, u2, t1, t2, k0, k1, RS_, FB_, segR, ST_, seval, ne_eq, bne, forall_const, implies_true, TY_, WLS]
                | (with_reducible refine draw_fin ?_ ?_); · kernel_rfl
                | (with_reducible refine draw_id ?_); kernel_rfl
                | (with_reducible refine And.intro ?_ ?_; · omega)
              refine drawK_keyE (H2 := AHD d (setA a i (unplain p))) (Wk.can [(17, 0, 0, 25), (1, 0, 0, 26)] [.inl 0, .inl 1, .inl 2, .inl 3, .inl 4, .inl 5, .inl 6, .inl 7, .inr 0, .inr 1] rfl (by simp [patL])) ?_ ?_
              · simp [Function.comp_def, get_gcT, get, put, gcI, pullI, push1, pushI, pullS, pushS, gcH, patL, canL, canH, canTL, canT, segR, ix, upd, up1, mapC_rows, mapC_gone, pushC_rows, pushC_gone, pullP, pullV, pullSS, pullD, pullT, pullF, pushP, pushV, pushSS, pushD, pushT, pushF, pullD16, pushD16, AHD, rowA, cT, cF, pull_I, push_I, cP_s, encPEs_pull, encPD, hw, hng, e2, hbN, hps, hset, u1, u2, t1, t2, setA, setPEs, encPE, setA, unplain, hpi]
              · refine keyN k0 (by rw [k1]; rfl) _ ?_ ?_ ?_ ?_ <;> simp [Function.comp_def, get_gcT, get, put, gcI, pullI, push1, pushI, pullS, pushS, gcH, patL, canL, canH, canTL, canT, segR, ix, upd, up1, mapC_rows, mapC_gone, pushC_rows, pushC_gone, pullP, pullV, pullSS, pullD, pullT, pullF, pushP, pushV, pushSS, pushD, pushT, pushF, pullD16, pushD16, AHD, rowA, cT, cF, pull_I, push_I, cP_s, encPEs_pull, encPD, hw, hng, e2, hbN, hps, hset, u1, u2, t1, t2, setA, setPEs, encPE, setA, unplain, hpi]
            | true =>
              cases k2 : (d.role == 1) with
              | true =>
                have k3 : (d.role == 2) = false := by rw [eq_of_beq k2]; rfl
                repeat' first
                  | with_reducible rfl
                  | simp only [rowA, hcP, encPEs_len, encPEs_pull, encPEs_push, hb0, hbN2, hps2, encPE, encPD, Int.toNat_natCast, List.length_set, hw, hng, e2, hbN, hps, hset, u1, u2, t1, t2, k0, k1, k2, k3, RS_, FB_, segR, ST_, seval, ne_eq, bne, forall_const, implies_true, TY_, WLS]
                  | (with_reducible refine draw_fin ?_ ?_); · kernel_rfl
                  | (with_reducible refine draw_id ?_); kernel_rfl
                  | (with_reducible refine And.intro ?_ ?_; · omega)
                refine drawK_keyE (H2 := AHD d (setA a i (unplain p)) ++ [.rows true 21 [encPE (unplain p)]]) (Wk.can [(17, 0, 0, 25), (1, 0, 0, 26)] [.inl 0, .inl 1, .inl 2, .inl 3, .inl 4, .inl 5, .inl 6, .inl 7, .inr 0, .inr 1, .inl 8] rfl (by simp [patL])) ?_ ?_
                · simp [Function.comp_def, get_gcT, get, put, gcI, pullI, push1, pushI, pullS, pushS, gcH, patL, canL, canH, canTL, canT, segR, ix, upd, up1, mapC_rows, mapC_gone, pushC_rows, pushC_gone, pullP, pullV, pullSS, pullD, pullT, pullF, pushP, pushV, pushSS, pushD, pushT, pushF, pullD16, pushD16, AHD, rowA, cT, cF, pull_I, push_I, cP_s, encPEs_pull, encPD, hw, hng, e2, hbN, hps, hset, u1, u2, t1, t2, setA, setPEs, encPE, setA, unplain, hpi]
                · refine keyR k0 (by rw [k1, k2, k3]; rfl) _ ?_ ?_ ?_ ?_ ?_ <;> simp [Function.comp_def, get_gcT, get, put, gcI, pullI, push1, pushI, pullS, pushS, gcH, patL, canL, canH, canTL, canT, segR, ix, upd, up1, mapC_rows, mapC_gone, pushC_rows, pushC_gone, pullP, pullV, pullSS, pullD, pullT, pullF, pushP, pushV, pushSS, pushD, pushT, pushF, pullD16, pushD16, AHD, rowA, cT, cF, pull_I, push_I, cP_s, encPEs_pull, encPD, hw, hng, e2, hbN, hps, hset, u1, u2, t1, t2, setA, setPEs, encPE, setA, unplain, hpi]
              | false =>
                cases k3 : (d.role == 2) with
                | true =>
                  repeat' first
                    | with_reducible rfl
                    | simp only [rowA, hcP, encPEs_len, encPEs_pull, encPEs_push, hb0, hbN2, hps2, encPE, encPD, Int.toNat_natCast, List.length_set, hw, hng, e2, hbN, hps, hset, u1, u2, t1, t2, k0, k1, k2, k3, RS_, FB_, segR, ST_, seval, ne_eq, bne, forall_const, implies_true, TY_, WLS]
                    | (with_reducible refine draw_fin ?_ ?_); · kernel_rfl
                    | (with_reducible refine draw_id ?_); kernel_rfl
                    | (with_reducible refine And.intro ?_ ?_; · omega)
                  refine drawK_keyE (H2 := AHD d (setA a i (unplain p)) ++ [.rows true 21 [encPE (unplain p)]]) (Wk.can [(17, 0, 0, 25), (1, 0, 0, 26)] [.inl 0, .inl 1, .inl 2, .inl 3, .inl 4, .inl 5, .inl 6, .inl 7, .inr 0, .inr 1, .inl 8] rfl (by simp [patL])) ?_ ?_
                  · simp [Function.comp_def, get_gcT, get, put, gcI, pullI, push1, pushI, pullS, pushS, gcH, patL, canL, canH, canTL, canT, segR, ix, upd, up1, mapC_rows, mapC_gone, pushC_rows, pushC_gone, pullP, pullV, pullSS, pullD, pullT, pullF, pushP, pushV, pushSS, pushD, pushT, pushF, pullD16, pushD16, AHD, rowA, cT, cF, pull_I, push_I, cP_s, encPEs_pull, encPD, hw, hng, e2, hbN, hps, hset, u1, u2, t1, t2, setA, setPEs, encPE, setA, unplain, hpi]
                  · refine keyR k0 (by rw [k1, k2, k3]; rfl) _ ?_ ?_ ?_ ?_ ?_ <;> simp [Function.comp_def, get_gcT, get, put, gcI, pullI, push1, pushI, pullS, pushS, gcH, patL, canL, canH, canTL, canT, segR, ix, upd, up1, mapC_rows, mapC_gone, pushC_rows, pushC_gone, pullP, pullV, pullSS, pullD, pullT, pullF, pushP, pushV, pushSS, pushD, pushT, pushF, pullD16, pushD16, AHD, rowA, cT, cF, pull_I, push_I, cP_s, encPEs_pull, encPD, hw, hng, e2, hbN, hps, hset, u1, u2, t1, t2, setA, setPEs, encPE, setA, unplain, hpi]
                | false =>
                  repeat' first
                    | with_reducible rfl
                    | simp only [rowA, hcP, encPEs_len, encPEs_pull, encPEs_push, hb0, hbN2, hps2, encPE, encPD, Int.toNat_natCast, List.length_set, hw, hng, e2, hbN, hps, hset, u1, u2, t1, t2, k0, k1, k2, k3, RS_, FB_, segR, ST_, seval, ne_eq, bne, forall_const, implies_true, TY_, WLS]
                    | (with_reducible refine draw_fin ?_ ?_); · kernel_rfl
                    | (with_reducible refine draw_id ?_); kernel_rfl
                    | (with_reducible refine And.intro ?_ ?_; · omega)
                  refine drawK_keyE (H2 := AHD d (setA a i (unplain p))) (Wk.can [(17, 0, 0, 25), (1, 0, 0, 26)] [.inl 0, .inl 1, .inl 2, .inl 3, .inl 4, .inl 5, .inl 6, .inl 7, .inr 0, .inr 1] rfl (by simp [patL])) ?_ ?_
                  · simp [Function.comp_def, get_gcT, get, put, gcI, pullI, push1, pushI, pullS, pushS, gcH, patL, canL, canH, canTL, canT, segR, ix, upd, up1, mapC_rows, mapC_gone, pushC_rows, pushC_gone, pullP, pullV, pullSS, pullD, pullT, pullF, pushP, pushV, pushSS, pushD, pushT, pushF, pullD16, pushD16, AHD, rowA, cT, cF, pull_I, push_I, cP_s, encPEs_pull, encPD, hw, hng, e2, hbN, hps, hset, u1, u2, t1, t2, setA, setPEs, encPE, setA, unplain, hpi]
                  · refine keyN k0 (by rw [k1, k2, k3]; rfl) _ ?_ ?_ ?_ ?_ <;> simp [Function.comp_def, get_gcT, get, put, gcI, pullI, push1, pushI, pullS, pushS, gcH, patL, canL, canH, canTL, canT, segR, ix, upd, up1, mapC_rows, mapC_gone, pushC_rows, pushC_gone, pullP, pullV, pullSS, pullD, pullT, pullF, pushP, pushV, pushSS, pushD, pushT, pushF, pullD16, pushD16, AHD, rowA, cT, cF, pull_I, push_I, cP_s, encPEs_pull, encPD, hw, hng, e2, hbN, hps, hset, u1, u2, t1, t2, setA, setPEs, encPE, setA, unplain, hpi]
      case kL =>
        intro hkk tm g0 g1 g5 g6 g7
        have hc1 : c = sprA (setA a i (unplain p)) (i : Int) false := by rw [hmod1, hkk]; rfl
        have hl1 : (setA a i (unplain p)).ps.length = a.ps.length := f1.len
        have hs1 := f1.sz
        have hsp : sprA (setA a i (unplain p)) (i : Int) false = itA (sprI (i : Int) false) (setA a i (unplain p)) (setA a i (unplain p)).ps.length := rfl
        rw [hsp] at hc1
        refine loopK_wk (by kernel_rfl) (I_th (setA a i (unplain p)) d port i) (setA a i (unplain p)).ps.length ⟨_, _, Wk.refl, 0, by omega, by omega, g0, g1, g5, g6, g7, rfl⟩ ?_
        clear g0 g1 g5 g6 g7 tm
        rintro m tm H ⟨k, rfl, hk, g0, g1, g5, g6, g7, rfl⟩
        have fr := itA_fr (sprI_fr (i : Int) false) (setA a i (unplain p)) k
        rw [hl1] at hk hc1
        by_cases hq : k < a.ps.length
        · have hc0 : (0 : Int) ≤ (k : Int) := by omega
          have hk1 : IntKind.i64.wrap ((k : Int) + 1) = ((k + 1 : Nat) : Int) := by rw [wr_i64 (by omega) (by omega)]; rfl
          have hk2 : IntKind.i64.wrap ((k : Int) + 1) = (k : Int) + 1 := wr_i64 (by omega) (by omega)
          obtain ⟨r, hr⟩ : ∃ r, (itA (sprI (i : Int) false) (setA a i (unplain p)) k).ps[k]? = some r := ⟨_, List.getElem?_eq_getElem (by rw [fr.len, hl1]; omega)⟩
          have hnx := itA_next hr
          have hbl := fr.len
          rw [hl1] at hbl
          have hbs := fr.sz
          clear fr hc1
          generalize itA (sprI (i : Int) false) (setA a i (unplain p)) k = b at *
          have hrs := encPEs_get hr
          have q : decide ((k : Int) < (a.ps.length : Int)) = true := decide_eq_true (by omega)
          have hcN : (k : Int) < (a.ps.length : Int) := by omega
          have cl := c_lead b k r hr
          have hfl : b.fl.length ≤ 1000000 := by have := szA_f b; omega
          have hll : leadL r = if leadOk r then leadsP r else false := rfl
          have hlo : leadOk r = if onP r then !(edgeP r) else false := rfl
          unfold AHD
          cases k1 : ((k : Int) == (i : Int)) with
          | true =>
            cases hL : leadL r with
            | true =>
              rw [hL] at hll cl
              repeat' first
                | with_reducible rfl
                | simp only [rowA, q, hc0, hcN, hk2, hbl, hrs, encPEs_len, encPE, g0, g1, g5, g6, g7, cF_s, sIs_len, Int.toNat_natCast, k1, RS_, FB_, segR, ST_, seval, ne_eq, bne, forall_const, implies_true, TY_, WLS]
                | (with_reducible refine drawK_id ?_); refine drawK_auto hmix (by kernel_rfl) ?_
                | (with_reducible refine draw_fin ?_ ?_); · kernel_rfl
                | (with_reducible refine draw_id ?_); kernel_rfl
                | ((with_reducible refine callK_id (f := 47) ?_); refine callK_funR [0, 1, 2, 3, 4, 8, 9] (r := .t [.s (.raw (.bool (leadOk r))), .s (.raw (.bool true))]) (by simpa [AHr, pullH, roC_rows, roP, roV, roSS, roD, roT, roF, rF_s, sIs_pull, rP_s, cP_s, encPEs_pull, rowA, pullS, pullI, ix, hbl] using cl) rfl ?_)
                | (with_reducible refine And.intro ?_ ?_; · omega)
              refine ⟨(setA a i (unplain p)).ps.length - (k + 1), _, _, by omega, Wk.can [(17, 0, 0, 25), (1, 0, 0, 26)] [.inl 0, .inl 1, .inl 2, .inl 3, .inl 4, .inl 5, .inl 6, .inl 7, .inr 0, .inr 1] rfl (by simp [patL]), k + 1, rfl, by omega, ?_, ?_, ?_, ?_, ?_, ?_⟩ <;> first | (simp [Function.comp_def, get_gcT, get, put, gcI, pullI, push1, pushI, pullS, pushS, gcH, patL, canL, canH, canTL, canT, segR, ix, upd, up1, mapC_rows, mapC_gone, pushC_rows, pushC_gone, pullP, pullV, pullSS, pullD, pullT, pullF, pushP, pushV, pushSS, pushD, pushT, pushF, pullD16, pushD16, AHD, rowA, cP_s, encPEs_pull, encPEs_push, sIs_len, cF_s, sIs_pull, sIs_push, sIs_app, cT, pull_PE, push_PE, pull_PD, g0, g1, g5, g6, g7, hk1]; done) | (rw [hnx]; simp [Function.comp_def, get_gcT, get, put, gcI, pullI, push1, pushI, pullS, pushS, gcH, patL, canL, canH, canTL, canT, segR, ix, upd, up1, mapC_rows, mapC_gone, pushC_rows, pushC_gone, pullP, pullV, pullSS, pullD, pullT, pullF, pushP, pushV, pushSS, pushD, pushT, pushF, pullD16, pushD16, AHD, rowA, cP_s, encPEs_pull, encPEs_push, sIs_len, cF_s, sIs_pull, sIs_push, sIs_app, cT, pull_PE, push_PE, pull_PD, sprI, setPEs, hbl, k1])
            | false =>
              rw [hL] at hll cl
              repeat' first
                | with_reducible rfl
                | simp only [rowA, q, hc0, hcN, hk2, hbl, hrs, encPEs_len, encPE, g0, g1, g5, g6, g7, cF_s, sIs_len, Int.toNat_natCast, k1, RS_, FB_, segR, ST_, seval, ne_eq, bne, forall_const, implies_true, TY_, WLS]
                | (with_reducible refine drawK_id ?_); refine drawK_auto hmix (by kernel_rfl) ?_
                | (with_reducible refine draw_fin ?_ ?_); · kernel_rfl
                | (with_reducible refine draw_id ?_); kernel_rfl
                | ((with_reducible refine callK_id (f := 47) ?_); refine callK_funR [0, 1, 2, 3, 4, 8, 9] (r := .t [.s (.raw (.bool (leadOk r))), .s (.raw (.bool false))]) (by simpa [AHr, pullH, roC_rows, roP, roV, roSS, roD, roT, roF, rF_s, sIs_pull, rP_s, cP_s, encPEs_pull, rowA, pullS, pullI, ix, hbl] using cl) rfl ?_)
                | (with_reducible refine And.intro ?_ ?_; · omega)
              refine ⟨(setA a i (unplain p)).ps.length - (k + 1), _, _, by omega, Wk.can [(17, 0, 0, 25), (1, 0, 0, 26)] [.inl 0, .inl 1, .inl 2, .inl 3, .inl 4, .inl 5, .inl 6, .inl 7, .inr 0, .inr 1] rfl (by simp [patL]), k + 1, rfl, by omega, ?_, ?_, ?_, ?_, ?_, ?_⟩ <;> first | (simp [Function.comp_def, get_gcT, get, put, gcI, pullI, push1, pushI, pullS, pushS, gcH, patL, canL, canH, canTL, canT, segR, ix, upd, up1, mapC_rows, mapC_gone, pushC_rows, pushC_gone, pullP, pullV, pullSS, pullD, pullT, pullF, pushP, pushV, pushSS, pushD, pushT, pushF, pullD16, pushD16, AHD, rowA, cP_s, encPEs_pull, encPEs_push, sIs_len, cF_s, sIs_pull, sIs_push, sIs_app, cT, pull_PE, push_PE, pull_PD, g0, g1, g5, g6, g7, hk1]; done) | (rw [hnx]; simp [Function.comp_def, get_gcT, get, put, gcI, pullI, push1, pushI, pullS, pushS, gcH, patL, canL, canH, canTL, canT, segR, ix, upd, up1, mapC_rows, mapC_gone, pushC_rows, pushC_gone, pullP, pullV, pullSS, pullD, pullT, pullF, pushP, pushV, pushSS, pushD, pushT, pushF, pullD16, pushD16, AHD, rowA, cP_s, encPEs_pull, encPEs_push, sIs_len, cF_s, sIs_pull, sIs_push, sIs_app, cT, pull_PE, push_PE, pull_PD, sprI, setPEs, hbl, k1])
          | false =>
            cases k2 : onP r with
            | false =>
              simp only [k2, Bool.false_eq_true, if_false] at hlo
              simp only [hlo, Bool.false_eq_true, if_false] at hll
              repeat' first
                | with_reducible rfl
                | simp only [rowA, q, hc0, hcN, hk2, hbl, hrs, encPEs_len, encPE, g0, g1, g5, g6, g7, cF_s, sIs_len, Int.toNat_natCast, k1, k2, hlo, hll, RS_, FB_, segR, ST_, seval, ne_eq, bne, forall_const, implies_true, TY_, WLS]
                | (with_reducible refine drawK_id ?_); refine drawK_auto hmix (by kernel_rfl) ?_
                | (with_reducible refine draw_fin ?_ ?_); · kernel_rfl
                | (with_reducible refine draw_id ?_); kernel_rfl
                | ((with_reducible refine callK_id (f := 47) ?_); refine callK_funR [0, 1, 2, 3, 4, 8, 9] (r := .t [.s (.raw (.bool (leadOk r))), .s (.raw (.bool (leadL r)))]) (by simpa [AHr, pullH, roC_rows, roP, roV, roSS, roD, roT, roF, rF_s, sIs_pull, rP_s, cP_s, encPEs_pull, rowA, pullS, pullI, ix, hbl] using cl) rfl ?_)
                | (with_reducible refine And.intro ?_ ?_; · omega)
              refine ⟨(setA a i (unplain p)).ps.length - (k + 1), _, _, by omega, Wk.can [(17, 0, 0, 25), (1, 0, 0, 26)] [.inl 0, .inl 1, .inl 2, .inl 3, .inl 4, .inl 5, .inl 6, .inl 7, .inr 0, .inr 1] rfl (by simp [patL]), k + 1, rfl, by omega, ?_, ?_, ?_, ?_, ?_, ?_⟩ <;> first | (simp [Function.comp_def, get_gcT, get, put, gcI, pullI, push1, pushI, pullS, pushS, gcH, patL, canL, canH, canTL, canT, segR, ix, upd, up1, mapC_rows, mapC_gone, pushC_rows, pushC_gone, pullP, pullV, pullSS, pullD, pullT, pullF, pushP, pushV, pushSS, pushD, pushT, pushF, pullD16, pushD16, AHD, rowA, cP_s, encPEs_pull, encPEs_push, sIs_len, cF_s, sIs_pull, sIs_push, sIs_app, cT, pull_PE, push_PE, pull_PD, g0, g1, g5, g6, g7, hk1]; done) | (rw [hnx]; simp [Function.comp_def, get_gcT, get, put, gcI, pullI, push1, pushI, pullS, pushS, gcH, patL, canL, canH, canTL, canT, segR, ix, upd, up1, mapC_rows, mapC_gone, pushC_rows, pushC_gone, pullP, pullV, pullSS, pullD, pullT, pullF, pushP, pushV, pushSS, pushD, pushT, pushF, pullD16, pushD16, AHD, rowA, cP_s, encPEs_pull, encPEs_push, sIs_len, cF_s, sIs_pull, sIs_push, sIs_app, cT, pull_PE, push_PE, pull_PD, sprI, setPEs, hbl, k1, k2, hlo, hll])
            | true =>
              cases k3 : edgeP r with
              | true =>
                simp only [k2, k3, Bool.not_true, if_true] at hlo
                simp only [hlo, Bool.false_eq_true, if_false] at hll
                repeat' first
                  | with_reducible rfl
                  | simp only [rowA, q, hc0, hcN, hk2, hbl, hrs, encPEs_len, encPE, g0, g1, g5, g6, g7, cF_s, sIs_len, Int.toNat_natCast, k1, k2, k3, hlo, hll, RS_, FB_, segR, ST_, seval, ne_eq, bne, forall_const, implies_true, TY_, WLS]
                  | (with_reducible refine drawK_id ?_); refine drawK_auto hmix (by kernel_rfl) ?_
                  | (with_reducible refine draw_fin ?_ ?_); · kernel_rfl
                  | (with_reducible refine draw_id ?_); kernel_rfl
                  | ((with_reducible refine callK_id (f := 47) ?_); refine callK_funR [0, 1, 2, 3, 4, 8, 9] (r := .t [.s (.raw (.bool (leadOk r))), .s (.raw (.bool (leadL r)))]) (by simpa [AHr, pullH, roC_rows, roP, roV, roSS, roD, roT, roF, rF_s, sIs_pull, rP_s, cP_s, encPEs_pull, rowA, pullS, pullI, ix, hbl] using cl) rfl ?_)
                  | (with_reducible refine And.intro ?_ ?_; · omega)
                refine ⟨(setA a i (unplain p)).ps.length - (k + 1), _, _, by omega, Wk.can [(17, 0, 0, 25), (1, 0, 0, 26)] [.inl 0, .inl 1, .inl 2, .inl 3, .inl 4, .inl 5, .inl 6, .inl 7, .inr 0, .inr 1] rfl (by simp [patL]), k + 1, rfl, by omega, ?_, ?_, ?_, ?_, ?_, ?_⟩ <;> first | (simp [Function.comp_def, get_gcT, get, put, gcI, pullI, push1, pushI, pullS, pushS, gcH, patL, canL, canH, canTL, canT, segR, ix, upd, up1, mapC_rows, mapC_gone, pushC_rows, pushC_gone, pullP, pullV, pullSS, pullD, pullT, pullF, pushP, pushV, pushSS, pushD, pushT, pushF, pullD16, pushD16, AHD, rowA, cP_s, encPEs_pull, encPEs_push, sIs_len, cF_s, sIs_pull, sIs_push, sIs_app, cT, pull_PE, push_PE, pull_PD, g0, g1, g5, g6, g7, hk1]; done) | (rw [hnx]; simp [Function.comp_def, get_gcT, get, put, gcI, pullI, push1, pushI, pullS, pushS, gcH, patL, canL, canH, canTL, canT, segR, ix, upd, up1, mapC_rows, mapC_gone, pushC_rows, pushC_gone, pullP, pullV, pullSS, pullD, pullT, pullF, pushP, pushV, pushSS, pushD, pushT, pushF, pullD16, pushD16, AHD, rowA, cP_s, encPEs_pull, encPEs_push, sIs_len, cF_s, sIs_pull, sIs_push, sIs_app, cT, pull_PE, push_PE, pull_PD, sprI, setPEs, hbl, k1, k2, k3, hlo, hll])
              | false =>
                simp only [k2, k3, Bool.not_false, if_true] at hlo
                simp only [hlo, if_true] at hll
                cases k4 : leadsP r with
                | false =>
                  rw [k4] at hll
                  repeat' first
                    | with_reducible rfl
                    | simp only [rowA, q, hc0, hcN, hk2, hbl, hrs, encPEs_len, encPE, g0, g1, g5, g6, g7, cF_s, sIs_len, Int.toNat_natCast, k1, k2, k3, k4, hlo, hll, RS_, FB_, segR, ST_, seval, ne_eq, bne, forall_const, implies_true, TY_, WLS]
                    | (with_reducible refine drawK_id ?_); refine drawK_auto hmix (by kernel_rfl) ?_
                    | (with_reducible refine draw_fin ?_ ?_); · kernel_rfl
                    | (with_reducible refine draw_id ?_); kernel_rfl
                    | ((with_reducible refine callK_id (f := 47) ?_); refine callK_funR [0, 1, 2, 3, 4, 8, 9] (r := .t [.s (.raw (.bool (leadOk r))), .s (.raw (.bool (leadL r)))]) (by simpa [AHr, pullH, roC_rows, roP, roV, roSS, roD, roT, roF, rF_s, sIs_pull, rP_s, cP_s, encPEs_pull, rowA, pullS, pullI, ix, hbl] using cl) rfl ?_)
                    | (with_reducible refine And.intro ?_ ?_; · omega)
                  refine ⟨(setA a i (unplain p)).ps.length - (k + 1), _, _, by omega, Wk.can [(17, 0, 0, 25), (1, 0, 0, 26)] [.inl 0, .inl 1, .inl 2, .inl 3, .inl 4, .inl 5, .inl 6, .inl 7, .inr 0, .inr 1] rfl (by simp [patL]), k + 1, rfl, by omega, ?_, ?_, ?_, ?_, ?_, ?_⟩ <;> first | (simp [Function.comp_def, get_gcT, get, put, gcI, pullI, push1, pushI, pullS, pushS, gcH, patL, canL, canH, canTL, canT, segR, ix, upd, up1, mapC_rows, mapC_gone, pushC_rows, pushC_gone, pullP, pullV, pullSS, pullD, pullT, pullF, pushP, pushV, pushSS, pushD, pushT, pushF, pullD16, pushD16, AHD, rowA, cP_s, encPEs_pull, encPEs_push, sIs_len, cF_s, sIs_pull, sIs_push, sIs_app, cT, pull_PE, push_PE, pull_PD, g0, g1, g5, g6, g7, hk1]; done) | (rw [hnx]; simp [Function.comp_def, get_gcT, get, put, gcI, pullI, push1, pushI, pullS, pushS, gcH, patL, canL, canH, canTL, canT, segR, ix, upd, up1, mapC_rows, mapC_gone, pushC_rows, pushC_gone, pullP, pullV, pullSS, pullD, pullT, pullF, pushP, pushV, pushSS, pushD, pushT, pushF, pullD16, pushD16, AHD, rowA, cP_s, encPEs_pull, encPEs_push, sIs_len, cF_s, sIs_pull, sIs_push, sIs_app, cT, pull_PE, push_PE, pull_PD, sprI, setPEs, hbl, k1, k2, k3, k4, hlo, hll])
                | true =>
                  rw [k4] at hll
                  repeat' first
                    | with_reducible rfl
                    | simp only [rowA, q, hc0, hcN, hk2, hbl, hrs, encPEs_len, encPE, g0, g1, g5, g6, g7, cF_s, sIs_len, Int.toNat_natCast, k1, k2, k3, k4, hlo, hll, cP_s, RS_, FB_, segR, ST_, seval, ne_eq, bne, forall_const, implies_true, TY_, WLS]
                    | (with_reducible refine drawK_id ?_); refine drawK_auto hmix (by kernel_rfl) ?_
                    | (with_reducible refine draw_fin ?_ ?_); · kernel_rfl
                    | (with_reducible refine draw_id ?_); kernel_rfl
                    | ((with_reducible refine callK_id (f := 47) ?_); refine callK_funR [0, 1, 2, 3, 4, 8, 9] (r := .t [.s (.raw (.bool (leadOk r))), .s (.raw (.bool (leadL r)))]) (by simpa [AHr, pullH, roC_rows, roP, roV, roSS, roD, roT, roF, rF_s, sIs_pull, rP_s, cP_s, encPEs_pull, rowA, pullS, pullI, ix, hbl] using cl) rfl ?_)
                    | (with_reducible refine And.intro ?_ ?_; · omega)
                  refine ⟨(setA a i (unplain p)).ps.length - (k + 1), _, _, by omega, Wk.can [(17, 0, 0, 25), (1, 0, 0, 26)] [.inl 0, .inl 1, .inl 2, .inl 3, .inl 4, .inl 5, .inl 6, .inl 7, .inr 0, .inr 1] rfl (by simp [patL]), k + 1, rfl, by omega, ?_, ?_, ?_, ?_, ?_, ?_⟩ <;> first | (simp [Function.comp_def, get_gcT, get, put, gcI, pullI, push1, pushI, pullS, pushS, gcH, patL, canL, canH, canTL, canT, segR, ix, upd, up1, mapC_rows, mapC_gone, pushC_rows, pushC_gone, pullP, pullV, pullSS, pullD, pullT, pullF, pushP, pushV, pushSS, pushD, pushT, pushF, pullD16, pushD16, AHD, rowA, cP_s, encPEs_pull, encPEs_push, sIs_len, cF_s, sIs_pull, sIs_push, sIs_app, cT, pull_PE, push_PE, pull_PD, g0, g1, g5, g6, g7, hk1]; done) | (rw [hnx]; simp [Function.comp_def, get_gcT, get, put, gcI, pullI, push1, pushI, pullS, pushS, gcH, patL, canL, canH, canTL, canT, segR, ix, upd, up1, mapC_rows, mapC_gone, pushC_rows, pushC_gone, pullP, pullV, pullSS, pullD, pullT, pullF, pushP, pushV, pushSS, pushD, pushT, pushF, pullD16, pushD16, AHD, rowA, cP_s, encPEs_pull, encPEs_push, sIs_len, cF_s, sIs_pull, sIs_push, sIs_app, cT, pull_PE, push_PE, pull_PD, sprI, setPEs, hbl, k1, k2, k3, k4, hlo, hll, cP_s])
        · have hin : k = a.ps.length := by omega
          subst hin
          rw [← hc1]
          clear fr hc1 hsp
          unfold AHD
          have qe : decide ((a.ps.length : Int) < (c.ps.length : Int)) = false := decide_eq_false (by omega)
          cases k0 : (d.kind == 128) with
          | true =>
            have hf : fin = c := by rw [← hfin]; simp only [hear2, k0, if_true]
            rw [hf]
            repeat' first
              | with_reducible rfl
              | simp only [rowA, hcP, encPEs_len, encPEs_pull, encPEs_push, hb0, hbN2, hps2, encPE, encPD, Int.toNat_natCast, List.length_set, qe, g0, g1, g5, g6, g7, k0, RS_, FB_, segR, ST_, seval, ne_eq, bne, forall_const, implies_true, TY_, WLS]
              | (with_reducible refine draw_fin ?_ ?_); · kernel_rfl
              | (with_reducible refine draw_id ?_); kernel_rfl
              | (with_reducible refine And.intro ?_ ?_; · omega)
            all_goals (refine ⟨.t [], AH2 (c), (WkR.can [(17, 0, 0, 25), (1, 0, 0, 26)] [.inl 0, .inl 1, .inl 2, .inl 3, .inl 4, .inl 5, .inl 6, .inr 0, .inr 1] rfl (by simp [patL])).to rfl ?_, by simp [AH2], rfl, ?_⟩ <;> simp [Function.comp_def, get_gcT, get, put, gcI, pullI, push1, pushI, pullS, pushS, gcH, patL, canL, canH, canTL, canT, segR, ix, upd, up1, mapC_rows, mapC_gone, pushC_rows, pushC_gone, pullP, pullV, pullSS, pullD, pullT, pullF, pushP, pushV, pushSS, pushD, pushT, pushF, pullD16, pushD16, AH2, rowA, cP_s, encPEs_pull, encPEs_push, cT, cF, pull_I, push_I, pull_PE, push_PE, k0, setA, setPEs, hpi])
          | false =>
          cases k1 : (d.kind == 2) with
          | false =>
            repeat' first
              | with_reducible rfl
              | simp only [rowA, hcP, encPEs_len, encPEs_pull, encPEs_push, hb0, hbN2, hps2, encPE, encPD, Int.toNat_natCast, List.length_set, qe, g0, g1, g5, g6, g7, k0, k1, RS_, FB_, segR, ST_, seval, ne_eq, bne, forall_const, implies_true, TY_, WLS]
              | (with_reducible refine draw_fin ?_ ?_); · kernel_rfl
              | (with_reducible refine draw_id ?_); kernel_rfl
              | (with_reducible refine And.intro ?_ ?_; · omega)
            refine drawK_keyE (H2 := AHD d c) (Wk.can [(17, 0, 0, 25), (1, 0, 0, 26)] [.inl 0, .inl 1, .inl 2, .inl 3, .inl 4, .inl 5, .inl 6, .inl 7, .inr 0, .inr 1] rfl (by simp [patL])) ?_ ?_
            · simp [Function.comp_def, get_gcT, get, put, gcI, pullI, push1, pushI, pullS, pushS, gcH, patL, canL, canH, canTL, canT, segR, ix, upd, up1, mapC_rows, mapC_gone, pushC_rows, pushC_gone, pullP, pullV, pullSS, pullD, pullT, pullF, pushP, pushV, pushSS, pushD, pushT, pushF, pullD16, pushD16, AHD, rowA, cT, cF, pull_I, push_I, cP_s, encPEs_pull, encPD, qe, g0, g1, g5, g6, g7, setA, setPEs, encPE, hpi]
            · refine keyN k0 (by rw [k1]; rfl) _ ?_ ?_ ?_ ?_ <;> simp [Function.comp_def, get_gcT, get, put, gcI, pullI, push1, pushI, pullS, pushS, gcH, patL, canL, canH, canTL, canT, segR, ix, upd, up1, mapC_rows, mapC_gone, pushC_rows, pushC_gone, pullP, pullV, pullSS, pullD, pullT, pullF, pushP, pushV, pushSS, pushD, pushT, pushF, pullD16, pushD16, AHD, rowA, cT, cF, pull_I, push_I, cP_s, encPEs_pull, encPD, qe, g0, g1, g5, g6, g7, setA, setPEs, encPE, hpi]
          | true =>
            cases k2 : (d.role == 1) with
            | true =>
              have k3 : (d.role == 2) = false := by rw [eq_of_beq k2]; rfl
              repeat' first
                | with_reducible rfl
                | simp only [rowA, hcP, encPEs_len, encPEs_pull, encPEs_push, hb0, hbN2, hps2, encPE, encPD, Int.toNat_natCast, List.length_set, qe, g0, g1, g5, g6, g7, k0, k1, k2, k3, RS_, FB_, segR, ST_, seval, ne_eq, bne, forall_const, implies_true, TY_, WLS]
                | (with_reducible refine draw_fin ?_ ?_); · kernel_rfl
                | (with_reducible refine draw_id ?_); kernel_rfl
                | (with_reducible refine And.intro ?_ ?_; · omega)
              refine drawK_keyE (H2 := AHD d c ++ [.rows true 21 [encPE p2]]) (Wk.can [(17, 0, 0, 25), (1, 0, 0, 26)] [.inl 0, .inl 1, .inl 2, .inl 3, .inl 4, .inl 5, .inl 6, .inl 7, .inr 0, .inr 1, .inl 10] rfl (by simp [patL])) ?_ ?_
              · simp [Function.comp_def, get_gcT, get, put, gcI, pullI, push1, pushI, pullS, pushS, gcH, patL, canL, canH, canTL, canT, segR, ix, upd, up1, mapC_rows, mapC_gone, pushC_rows, pushC_gone, pullP, pullV, pullSS, pullD, pullT, pullF, pushP, pushV, pushSS, pushD, pushT, pushF, pullD16, pushD16, AHD, rowA, cT, cF, pull_I, push_I, cP_s, encPEs_pull, encPD, qe, g0, g1, g5, g6, g7, setA, setPEs, encPE, hpi]
              · refine keyR k0 (by rw [k1, k2, k3]; rfl) _ ?_ ?_ ?_ ?_ ?_ <;> simp [Function.comp_def, get_gcT, get, put, gcI, pullI, push1, pushI, pullS, pushS, gcH, patL, canL, canH, canTL, canT, segR, ix, upd, up1, mapC_rows, mapC_gone, pushC_rows, pushC_gone, pullP, pullV, pullSS, pullD, pullT, pullF, pushP, pushV, pushSS, pushD, pushT, pushF, pullD16, pushD16, AHD, rowA, cT, cF, pull_I, push_I, cP_s, encPEs_pull, encPD, qe, g0, g1, g5, g6, g7, setA, setPEs, encPE, hpi]
            | false =>
              cases k3 : (d.role == 2) with
              | true =>
                repeat' first
                  | with_reducible rfl
                  | simp only [rowA, hcP, encPEs_len, encPEs_pull, encPEs_push, hb0, hbN2, hps2, encPE, encPD, Int.toNat_natCast, List.length_set, qe, g0, g1, g5, g6, g7, k0, k1, k2, k3, RS_, FB_, segR, ST_, seval, ne_eq, bne, forall_const, implies_true, TY_, WLS]
                  | (with_reducible refine draw_fin ?_ ?_); · kernel_rfl
                  | (with_reducible refine draw_id ?_); kernel_rfl
                  | (with_reducible refine And.intro ?_ ?_; · omega)
                refine drawK_keyE (H2 := AHD d c ++ [.rows true 21 [encPE p2]]) (Wk.can [(17, 0, 0, 25), (1, 0, 0, 26)] [.inl 0, .inl 1, .inl 2, .inl 3, .inl 4, .inl 5, .inl 6, .inl 7, .inr 0, .inr 1, .inl 10] rfl (by simp [patL])) ?_ ?_
                · simp [Function.comp_def, get_gcT, get, put, gcI, pullI, push1, pushI, pullS, pushS, gcH, patL, canL, canH, canTL, canT, segR, ix, upd, up1, mapC_rows, mapC_gone, pushC_rows, pushC_gone, pullP, pullV, pullSS, pullD, pullT, pullF, pushP, pushV, pushSS, pushD, pushT, pushF, pullD16, pushD16, AHD, rowA, cT, cF, pull_I, push_I, cP_s, encPEs_pull, encPD, qe, g0, g1, g5, g6, g7, setA, setPEs, encPE, hpi]
                · refine keyR k0 (by rw [k1, k2, k3]; rfl) _ ?_ ?_ ?_ ?_ ?_ <;> simp [Function.comp_def, get_gcT, get, put, gcI, pullI, push1, pushI, pullS, pushS, gcH, patL, canL, canH, canTL, canT, segR, ix, upd, up1, mapC_rows, mapC_gone, pushC_rows, pushC_gone, pullP, pullV, pullSS, pullD, pullT, pullF, pushP, pushV, pushSS, pushD, pushT, pushF, pullD16, pushD16, AHD, rowA, cT, cF, pull_I, push_I, cP_s, encPEs_pull, encPD, qe, g0, g1, g5, g6, g7, setA, setPEs, encPE, hpi]
              | false =>
                repeat' first
                  | with_reducible rfl
                  | simp only [rowA, hcP, encPEs_len, encPEs_pull, encPEs_push, hb0, hbN2, hps2, encPE, encPD, Int.toNat_natCast, List.length_set, qe, g0, g1, g5, g6, g7, k0, k1, k2, k3, RS_, FB_, segR, ST_, seval, ne_eq, bne, forall_const, implies_true, TY_, WLS]
                  | (with_reducible refine draw_fin ?_ ?_); · kernel_rfl
                  | (with_reducible refine draw_id ?_); kernel_rfl
                  | (with_reducible refine And.intro ?_ ?_; · omega)
                refine drawK_keyE (H2 := AHD d c) (Wk.can [(17, 0, 0, 25), (1, 0, 0, 26)] [.inl 0, .inl 1, .inl 2, .inl 3, .inl 4, .inl 5, .inl 6, .inl 7, .inr 0, .inr 1] rfl (by simp [patL])) ?_ ?_
                · simp [Function.comp_def, get_gcT, get, put, gcI, pullI, push1, pushI, pullS, pushS, gcH, patL, canL, canH, canTL, canT, segR, ix, upd, up1, mapC_rows, mapC_gone, pushC_rows, pushC_gone, pullP, pullV, pullSS, pullD, pullT, pullF, pushP, pushV, pushSS, pushD, pushT, pushF, pullD16, pushD16, AHD, rowA, cT, cF, pull_I, push_I, cP_s, encPEs_pull, encPD, qe, g0, g1, g5, g6, g7, setA, setPEs, encPE, hpi]
                · refine keyN k0 (by rw [k1, k2, k3]; rfl) _ ?_ ?_ ?_ ?_ <;> simp [Function.comp_def, get_gcT, get, put, gcI, pullI, push1, pushI, pullS, pushS, gcH, patL, canL, canH, canTL, canT, segR, ix, upd, up1, mapC_rows, mapC_gone, pushC_rows, pushC_gone, pullP, pullV, pullSS, pullD, pullT, pullF, pushP, pushV, pushSS, pushD, pushT, pushF, pullD16, pushD16, AHD, rowA, cT, cF, pull_I, push_I, cP_s, encPEs_pull, encPD, qe, g0, g1, g5, g6, g7, setA, setPEs, encPE, hpi]
      case kR =>
        intro k0 hk tm g0 g1 g5 g6 g10
        obtain rfl : fin = replyA c i p2 d := by rw [← hfin]; simp only [hear2, hp2, k0, hk, Bool.false_eq_true, if_false, if_true]
        unfold AHD
        simp only [List.cons_append, List.nil_append]
        have hvd : (⟨d.root, d.cost, d.br, d.port⟩ : V4) = vecD d := rfl
        have cag := c_Agree p2
        have hNq := nn_setA (i := i) hN1 (nn_agreeP p2 (hN1.at hp2))
        have hsq : (setA c i (agreeP p2)).ps[i]? = some (agreeP p2) := by simp [setA, (List.getElem?_eq_some_iff.1 hp2).1]
        have ctc := c_tchanged (setA c i (agreeP p2)) i (agreeP p2) (by have := (setA_fr c i (agreeP p2)).len; omega) hsq (by have := (setA_fr c i (agreeP p2)).sz; omega)
        have hmr : replyA c i p2 d = if d.agr then (if p2.ro == 4 then (if decide (p2.v = vecD d) then (if agreeO p2 then changedA (setA c i (agreeP p2)) i (agreeP p2) else setA c i (agreeP p2)) else c) else c) else c := rfl
        rw [hmr]
        clear hmr
        generalize agreeP p2 = q2 at *
        cases a1 : d.agr with
        | false =>
          simp only [a1, Bool.false_eq_true, if_false, if_true]
          repeat' first
            | with_reducible rfl
            | simp only [AHD, encV_vecD, rowA, hcP, encPEs_len, encPEs_pull, encPEs_push, hb0, hbN2, hps2, hpi, hw3, encPE, encPD, Int.toNat_natCast, List.length_set, eq_v5, eq_v4', g0, g1, g5, g6, k0, g10, a1, hvd, RS_, FB_, segR, ST_, seval, ne_eq, bne, forall_const, implies_true, TY_, WLS]
            | (with_reducible refine drawK_id ?_); refine drawK_auto hmix (by kernel_rfl) ?_
            | (with_reducible refine draw_fin ?_ ?_); · kernel_rfl
            | (with_reducible refine draw_id ?_); kernel_rfl
            | (with_reducible refine callD_id (f := 48) ?_); refine callD_of (c_vec') rfl rfl ?_
            | (with_reducible refine callK_id (f := 48) ?_); refine callK_fun (c_vec') rfl rfl ?_
            | (with_reducible refine callK_id (f := 49) ?_); refine callK_fun (cag) rfl rfl ?_
            | (with_reducible refine And.intro ?_ ?_; · omega)
          all_goals (refine ⟨.t [], AH2 (c), (WkR.can [(17, 0, 0, 25), (1, 0, 0, 26)] [.inl 0, .inl 1, .inl 2, .inl 3, .inl 4, .inl 5, .inl 6, .inr 0, .inr 1] rfl (by simp [patL])).to rfl ?_, by simp [AH2], rfl, ?_⟩ <;> simp [Function.comp_def, get_gcT, get, put, gcI, pullI, push1, pushI, pullS, pushS, gcH, patL, canL, canH, canTL, canT, segR, ix, upd, up1, mapC_rows, mapC_gone, pushC_rows, pushC_gone, pullP, pullV, pullSS, pullD, pullT, pullF, pushP, pushV, pushSS, pushD, pushT, pushF, pullD16, pushD16, AH2, rowA, cP_s, encPEs_pull, encPEs_push, cT, cF, pull_I, push_I, pull_PE, push_PE, a1, setA, setPEs, hpi])
        | true =>
          cases a2 : (p2.ro == 4) with
          | false =>
            simp only [a1, a2, Bool.false_eq_true, if_false, if_true]
            repeat' first
              | with_reducible rfl
              | simp only [AHD, encV_vecD, rowA, hcP, encPEs_len, encPEs_pull, encPEs_push, hb0, hbN2, hps2, hpi, hw3, encPE, encPD, Int.toNat_natCast, List.length_set, eq_v5, eq_v4', g0, g1, g5, g6, k0, g10, a1, a2, hvd, RS_, FB_, segR, ST_, seval, ne_eq, bne, forall_const, implies_true, TY_, WLS]
              | (with_reducible refine drawK_id ?_); refine drawK_auto hmix (by kernel_rfl) ?_
              | (with_reducible refine draw_fin ?_ ?_); · kernel_rfl
              | (with_reducible refine draw_id ?_); kernel_rfl
              | (with_reducible refine callD_id (f := 48) ?_); refine callD_of (c_vec') rfl rfl ?_
              | (with_reducible refine callK_id (f := 48) ?_); refine callK_fun (c_vec') rfl rfl ?_
              | (with_reducible refine callK_id (f := 49) ?_); refine callK_fun (cag) rfl rfl ?_
              | (with_reducible refine And.intro ?_ ?_; · omega)
            all_goals (refine ⟨.t [], AH2 (c), (WkR.can [(17, 0, 0, 25), (1, 0, 0, 26)] [.inl 0, .inl 1, .inl 2, .inl 3, .inl 4, .inl 5, .inl 6, .inr 0, .inr 1] rfl (by simp [patL])).to rfl ?_, by simp [AH2], rfl, ?_⟩ <;> simp [Function.comp_def, get_gcT, get, put, gcI, pullI, push1, pushI, pullS, pushS, gcH, patL, canL, canH, canTL, canT, segR, ix, upd, up1, mapC_rows, mapC_gone, pushC_rows, pushC_gone, pullP, pullV, pullSS, pullD, pullT, pullF, pushP, pushV, pushSS, pushD, pushT, pushF, pullD16, pushD16, AH2, rowA, cP_s, encPEs_pull, encPEs_push, cT, cF, pull_I, push_I, pull_PE, push_PE, a1, a2, setA, setPEs, hpi])
          | true =>
            cases a3 : decide (p2.v = vecD d) with
            | false =>
              simp only [a1, a2, a3, Bool.false_eq_true, if_false, if_true]
              repeat' first
                | with_reducible rfl
                | simp only [AHD, encV_vecD, rowA, hcP, encPEs_len, encPEs_pull, encPEs_push, hb0, hbN2, hps2, hpi, hw3, encPE, encPD, Int.toNat_natCast, List.length_set, eq_v5, eq_v4', g0, g1, g5, g6, k0, g10, a1, a2, a3, hvd, RS_, FB_, segR, ST_, seval, ne_eq, bne, forall_const, implies_true, TY_, WLS]
                | (with_reducible refine drawK_id ?_); refine drawK_auto hmix (by kernel_rfl) ?_
                | (with_reducible refine draw_fin ?_ ?_); · kernel_rfl
                | (with_reducible refine draw_id ?_); kernel_rfl
                | (with_reducible refine callD_id (f := 48) ?_); refine callD_of (c_vec') rfl rfl ?_
                | (with_reducible refine callK_id (f := 48) ?_); refine callK_fun (c_vec') rfl rfl ?_
                | (with_reducible refine callK_id (f := 49) ?_); refine callK_fun (cag) rfl rfl ?_
                | (with_reducible refine And.intro ?_ ?_; · omega)
              all_goals (refine ⟨.t [], AH2 (c), (WkR.can [(17, 0, 0, 25), (1, 0, 0, 26)] [.inl 0, .inl 1, .inl 2, .inl 3, .inl 4, .inl 5, .inl 6, .inr 0, .inr 1] rfl (by simp [patL])).to rfl ?_, by simp [AH2], rfl, ?_⟩ <;> simp [Function.comp_def, get_gcT, get, put, gcI, pullI, push1, pushI, pullS, pushS, gcH, patL, canL, canH, canTL, canT, segR, ix, upd, up1, mapC_rows, mapC_gone, pushC_rows, pushC_gone, pullP, pullV, pullSS, pullD, pullT, pullF, pushP, pushV, pushSS, pushD, pushT, pushF, pullD16, pushD16, AH2, rowA, cP_s, encPEs_pull, encPEs_push, cT, cF, pull_I, push_I, pull_PE, push_PE, a1, a2, a3, setA, setPEs, hpi])
            | true =>
              cases a4 : agreeO p2 with
              | false =>
                simp only [a1, a2, a3, a4, Bool.false_eq_true, if_false, if_true]
                rw [a4] at cag
                repeat' first
                  | with_reducible rfl
                  | simp only [AHD, encV_vecD, rowA, hcP, encPEs_len, encPEs_pull, encPEs_push, hb0, hbN2, hps2, hpi, hw3, encPE, encPD, Int.toNat_natCast, List.length_set, eq_v5, eq_v4', g0, g1, g5, g6, k0, g10, a1, a2, a3, a4, hvd, RS_, FB_, segR, ST_, seval, ne_eq, bne, forall_const, implies_true, TY_, WLS]
                  | (with_reducible refine drawK_id ?_); refine drawK_auto hmix (by kernel_rfl) ?_
                  | (with_reducible refine draw_fin ?_ ?_); · kernel_rfl
                  | (with_reducible refine draw_id ?_); kernel_rfl
                  | (with_reducible refine callD_id (f := 48) ?_); refine callD_of (c_vec') rfl rfl ?_
                  | (with_reducible refine callK_id (f := 48) ?_); refine callK_fun (c_vec') rfl rfl ?_
                  | (with_reducible refine callK_id (f := 49) ?_); refine callK_fun (cag) rfl rfl ?_
                  | (with_reducible refine And.intro ?_ ?_; · omega)
                all_goals (refine ⟨.t [], AH2 (setA c i q2), (WkR.can [(17, 0, 0, 25), (1, 0, 0, 26)] [.inl 0, .inl 1, .inl 2, .inl 3, .inl 4, .inl 5, .inl 6, .inr 0, .inr 1] rfl (by simp [patL])).to rfl ?_, by simp [AH2], rfl, ?_⟩ <;> simp [Function.comp_def, get_gcT, get, put, gcI, pullI, push1, pushI, pullS, pushS, gcH, patL, canL, canH, canTL, canT, segR, ix, upd, up1, mapC_rows, mapC_gone, pushC_rows, pushC_gone, pullP, pullV, pullSS, pullD, pullT, pullF, pushP, pushV, pushSS, pushD, pushT, pushF, pullD16, pushD16, AH2, rowA, cP_s, encPEs_pull, encPEs_push, cT, cF, pull_I, push_I, pull_PE, push_PE, a1, a2, a3, a4, setA, setPEs, hpi])
              | true =>
                rw [a4] at cag
                simp only [a1, a2, a3, a4, if_true]
                repeat' first
                  | with_reducible rfl
                  | simp only [AHD, encV_vecD, rowA, hcP, encPEs_len, encPEs_pull, encPEs_push, hb0, hbN2, hps2, hpi, hw3, encPE, encPD, Int.toNat_natCast, List.length_set, eq_v5, eq_v4', g0, g1, g5, g6, k0, g10, a1, a2, a3, a4, hvd, RS_, FB_, segR, ST_, seval, ne_eq, bne, forall_const, implies_true, TY_, WLS]
                  | (with_reducible refine drawK_id ?_); refine drawK_auto hmix (by kernel_rfl) ?_
                  | (with_reducible refine draw_fin ?_ ?_); · kernel_rfl
                  | (with_reducible refine draw_id ?_); kernel_rfl
                  | (with_reducible refine callD_id (f := 48) ?_); refine callD_of (c_vec') rfl rfl ?_
                  | (with_reducible refine callK_id (f := 48) ?_); refine callK_fun (c_vec') rfl rfl ?_
                  | (with_reducible refine callK_id (f := 49) ?_); refine callK_fun (cag) rfl rfl ?_
                  | ((with_reducible refine callK_id (f := 44) ?_); refine callK_funW [] [0, 1, 2, 3, 4, 8, 9] (ctc) (by simp [AH, Function.comp_def, pullHW, rowA, pullS, ix, pull_PE, encPEs_pull, mapC_rows, mapC_gone, pushC_rows, pushC_gone, pullP, pullV, pullSS, pullD, pullT, pullF, pushP, pushV, pushSS, pushD, pushT, pushF, pullD16, pushD16, cP_s, setA, setPEs, hpi]) rfl rfl (by decide) (by simp [cP, cV, cS, cD, cT, cF]) (by simp [pullI, pullS, ix]) ?_; rintro r Hn ⟨rfl, rfl⟩ -; clear hcP)
                  | (with_reducible refine And.intro ?_ ?_; · omega)
                repeat' first
                  | with_reducible rfl
                  | simp only [AH2, rowA, mapC_rows, mapC_gone, pushC_rows, pushC_gone, pullP, pullV, pullSS, pullD, pullT, pullF, pushP, pushV, pushSS, pushD, pushT, pushF, pullD16, pushD16, pull_I, push_I, g0, g1, g5, g6, RS_, FB_, segR, ST_, seval, ne_eq, bne, forall_const, implies_true, TY_, WLS]
                  | (with_reducible refine drawK_id ?_); refine drawK_auto hmix (by kernel_rfl) ?_
                  | (with_reducible refine draw_fin ?_ ?_); · kernel_rfl
                  | (with_reducible refine draw_id ?_); kernel_rfl
                  | (with_reducible refine And.intro ?_ ?_; · omega)
                all_goals (refine ⟨.t [], AH2 (changedA (setA c i q2) i q2), (WkR.can [(17, 0, 0, 25), (1, 0, 0, 26)] [.inl 0, .inl 1, .inl 2, .inl 3, .inl 4, .inl 5, .inl 6, .inr 0, .inr 1] rfl (by simp [patL])).to rfl ?_, by simp [AH2], rfl, rfl⟩; simp [Function.comp_def, get_gcT, get, put, gcI, pullI, push1, pushI, pullS, pushS, gcH, patL, canL, canH, canTL, canT, segR, ix, upd, up1, mapC_rows, mapC_gone, pushC_rows, pushC_gone, pullP, pullV, pullSS, pullD, pullT, pullF, pushP, pushV, pushSS, pushD, pushT, pushF, pullD16, pushD16, AH2, rowA, cT, cF, pull_I, push_I, pull_PE, push_PE, ])
      case kN =>
        intro k0 hk tm g0 g1 g5 g6
        obtain rfl : fin = newsA c i p2 d := by rw [← hfin]; simp only [hear2, hp2, k0, hk, Bool.false_eq_true, if_false]
        unfold AHD
        have cag := c_Agree p2
        have che := c_Hear p2 (vecD d) d.age c.cf
        obtain ⟨w, hw2⟩ : ∃ w, hearW p2 (vecD d) d.age c.cf = w := ⟨_, rfl⟩
        obtain ⟨q, hq⟩ : ∃ q, hearP p2 (vecD d) d.age c.cf = q := ⟨_, rfl⟩
        have hNq := nn_setA (i := i) hN1 (nn_hearP p2 (vecD d) d.age c.cf (hN1.at hp2))
        have hnq := nn_hearP p2 (vecD d) d.age c.cf (hN1.at hp2)
        rw [hw2, hq] at che
        rw [hq] at hNq hnq
        have h1 := setA_fr c i q
        have hset : (setA c i q).ps[i]? = some q := by simp [setA, (List.getElem?_eq_some_iff.1 hp2).1]
        have hsz := h1.sz
        have cs := c_ttell (setA c i q) i q (by rw [h1.len]; omega) hset hnq (by have := szA_t (setA c i q); omega)
        have cc := c_tchoose (setA c i q) (by rw [h1.len]; omega) hNq (by omega)
        cases m1 : (w == 1) with
        | true =>
          have m2 : (w == 2) = false := by rw [eq_of_beq m1]; rfl
          have m3 : (w == 3) = false := by rw [eq_of_beq m1]; rfl
          cases m4 : (q.ro == 4) with
          | true =>
            have hmn : newsA c i p2 d = tellA (setA c i q) i q := by simp only [newsA, hw2, hq, m1, m4, if_true]
            rw [hmn]
            repeat' first
              | with_reducible rfl
              | simp only [AHD, encV_vecD, rowA, hcP, encPEs_len, encPEs_pull, encPEs_push, hb0, hbN2, hps2, hpi, hw3, encPE, encPD, Int.toNat_natCast, List.length_set, eq_v5, eq_v4', g0, g1, g5, g6, k0, m1, m2, m3, m4, RS_, FB_, segR, ST_, seval, ne_eq, bne, forall_const, implies_true, TY_, WLS]
              | (with_reducible refine drawK_id ?_); refine drawK_auto hmix (by kernel_rfl) ?_
              | (with_reducible refine draw_fin ?_ ?_); · kernel_rfl
              | (with_reducible refine draw_id ?_); kernel_rfl
              | (with_reducible refine callD_id (f := 48) ?_); refine callD_of (c_vec') rfl rfl ?_
              | (with_reducible refine callD_id (f := 50) ?_); refine callD_of (che) rfl rfl ?_
              | (with_reducible refine callK_id (f := 48) ?_); refine callK_fun (c_vec') rfl rfl ?_
              | (with_reducible refine callK_id (f := 49) ?_); refine callK_fun (cag) rfl rfl ?_
              | ((with_reducible refine callK_id (f := 45) ?_); refine callK_funW [] [0, 1, 2, 3, 4, 8, 9] (cs) (by simp [AH, Function.comp_def, pullHW, rowA, pullS, ix, pull_PE, encPEs_pull, mapC_rows, mapC_gone, pushC_rows, pushC_gone, pullP, pullV, pullSS, pullD, pullT, pullF, pushP, pushV, pushSS, pushD, pushT, pushF, pullD16, pushD16, cP_s, setA, setPEs, hpi]) rfl rfl (by decide) (by simp [cP, cV, cS, cD, cT, cF]) (by simp [pullI, pullS, ix]) ?_; rintro r Hn ⟨rfl, rfl⟩ -; clear hcP)
              | (with_reducible refine And.intro ?_ ?_; · omega)
            repeat' first
              | with_reducible rfl
              | simp only [AH2, rowA, m2, m3, mapC_rows, mapC_gone, pushC_rows, pushC_gone, pullP, pullV, pullSS, pullD, pullT, pullF, pushP, pushV, pushSS, pushD, pushT, pushF, pullD16, pushD16, pull_I, push_I, g0, g1, g5, g6, RS_, FB_, segR, ST_, seval, ne_eq, bne, forall_const, implies_true, TY_, WLS]
              | (with_reducible refine drawK_id ?_); refine drawK_auto hmix (by kernel_rfl) ?_
              | (with_reducible refine draw_fin ?_ ?_); · kernel_rfl
              | (with_reducible refine draw_id ?_); kernel_rfl
              | (with_reducible refine And.intro ?_ ?_; · omega)
            all_goals (refine ⟨.t [], AH2 (tellA (setA c i q) i q), (WkR.can [(17, 0, 0, 25), (1, 0, 0, 26)] [.inl 0, .inl 1, .inl 2, .inl 3, .inl 4, .inl 5, .inl 6, .inr 0, .inr 1] rfl (by simp [patL])).to rfl ?_, by simp [AH2], rfl, rfl⟩; simp [Function.comp_def, get_gcT, get, put, gcI, pullI, push1, pushI, pullS, pushS, gcH, patL, canL, canH, canTL, canT, segR, ix, upd, up1, mapC_rows, mapC_gone, pushC_rows, pushC_gone, pullP, pullV, pullSS, pullD, pullT, pullF, pushP, pushV, pushSS, pushD, pushT, pushF, pullD16, pushD16, AH2, rowA, cT, cF, pull_I, push_I, pull_PE, push_PE, ])
          | false =>
            have hmn : newsA c i p2 d = setA c i q := by simp only [newsA, hw2, hq, m1, m4, if_true, Bool.false_eq_true, if_false]
            rw [hmn]
            repeat' first
              | with_reducible rfl
              | simp only [AHD, encV_vecD, rowA, hcP, encPEs_len, encPEs_pull, encPEs_push, hb0, hbN2, hps2, hpi, hw3, encPE, encPD, Int.toNat_natCast, List.length_set, eq_v5, eq_v4', g0, g1, g5, g6, k0, m1, m2, m3, m4, RS_, FB_, segR, ST_, seval, ne_eq, bne, forall_const, implies_true, TY_, WLS]
              | (with_reducible refine drawK_id ?_); refine drawK_auto hmix (by kernel_rfl) ?_
              | (with_reducible refine draw_fin ?_ ?_); · kernel_rfl
              | (with_reducible refine draw_id ?_); kernel_rfl
              | (with_reducible refine callD_id (f := 48) ?_); refine callD_of (c_vec') rfl rfl ?_
              | (with_reducible refine callD_id (f := 50) ?_); refine callD_of (che) rfl rfl ?_
              | (with_reducible refine callK_id (f := 48) ?_); refine callK_fun (c_vec') rfl rfl ?_
              | (with_reducible refine callK_id (f := 49) ?_); refine callK_fun (cag) rfl rfl ?_
              | (with_reducible refine And.intro ?_ ?_; · omega)
            all_goals (refine ⟨.t [], AH2 (setA c i q), (WkR.can [(17, 0, 0, 25), (1, 0, 0, 26)] [.inl 0, .inl 1, .inl 2, .inl 3, .inl 4, .inl 5, .inl 6, .inr 0, .inr 1] rfl (by simp [patL])).to rfl ?_, by simp [AH2], rfl, ?_⟩ <;> simp [Function.comp_def, get_gcT, get, put, gcI, pullI, push1, pushI, pullS, pushS, gcH, patL, canL, canH, canTL, canT, segR, ix, upd, up1, mapC_rows, mapC_gone, pushC_rows, pushC_gone, pullP, pullV, pullSS, pullD, pullT, pullF, pushP, pushV, pushSS, pushD, pushT, pushF, pullD16, pushD16, AH2, rowA, cP_s, encPEs_pull, encPEs_push, cT, cF, pull_I, push_I, pull_PE, push_PE, m4, setA, setPEs, hpi])
        | false =>
          cases m5 : (w == 2 || w == 3) with
          | false =>
            have m2 : (w == 2) = false := (Bool.or_eq_false_iff.1 m5).1
            have m3 : (w == 3) = false := (Bool.or_eq_false_iff.1 m5).2
            have hmn : newsA c i p2 d = setA c i q := by simp only [newsA, hw2, hq, m1, m5, Bool.false_eq_true, if_false]
            rw [hmn]
            repeat' first
              | with_reducible rfl
              | simp only [AHD, encV_vecD, rowA, hcP, encPEs_len, encPEs_pull, encPEs_push, hb0, hbN2, hps2, hpi, hw3, encPE, encPD, Int.toNat_natCast, List.length_set, eq_v5, eq_v4', g0, g1, g5, g6, k0, m1, m2, m3, RS_, FB_, segR, ST_, seval, ne_eq, bne, forall_const, implies_true, TY_, WLS]
              | (with_reducible refine drawK_id ?_); refine drawK_auto hmix (by kernel_rfl) ?_
              | (with_reducible refine draw_fin ?_ ?_); · kernel_rfl
              | (with_reducible refine draw_id ?_); kernel_rfl
              | (with_reducible refine callD_id (f := 48) ?_); refine callD_of (c_vec') rfl rfl ?_
              | (with_reducible refine callD_id (f := 50) ?_); refine callD_of (che) rfl rfl ?_
              | (with_reducible refine callK_id (f := 48) ?_); refine callK_fun (c_vec') rfl rfl ?_
              | (with_reducible refine callK_id (f := 49) ?_); refine callK_fun (cag) rfl rfl ?_
              | (with_reducible refine And.intro ?_ ?_; · omega)
            all_goals (refine ⟨.t [], AH2 (setA c i q), (WkR.can [(17, 0, 0, 25), (1, 0, 0, 26)] [.inl 0, .inl 1, .inl 2, .inl 3, .inl 4, .inl 5, .inl 6, .inr 0, .inr 1] rfl (by simp [patL])).to rfl ?_, by simp [AH2], rfl, ?_⟩ <;> simp [Function.comp_def, get_gcT, get, put, gcI, pullI, push1, pushI, pullS, pushS, gcH, patL, canL, canH, canTL, canT, segR, ix, upd, up1, mapC_rows, mapC_gone, pushC_rows, pushC_gone, pullP, pullV, pullSS, pullD, pullT, pullF, pushP, pushV, pushSS, pushD, pushT, pushF, pullD16, pushD16, AH2, rowA, cP_s, encPEs_pull, encPEs_push, cT, cF, pull_I, push_I, pull_PE, push_PE, m1, setA, setPEs, hpi])
          | true =>
            have frc := chooseA_fr (n := 16) (setA c i q) (by rw [h1.len]; omega)
            obtain ⟨r, hr⟩ : ∃ r, (chooseA (setA c i q)).ps[i]? = some r := ⟨_, List.getElem?_eq_getElem (by rw [frc.len, h1.len]; omega)⟩
            have hel : (chooseA (setA c i q)).ps.length = c.ps.length := frc.len.trans h1.len
            have hes := frc.sz
            have ck : w = 2 ∨ w = 3 := by simpa using m5
            have hmod : newsA c i p2 d = if d.prop then (if r.ro == 3 || (r.ro == 1 || r.ro == 2) then agreeA (chooseA (setA c i q)) i else chooseA (setA c i q)) else chooseA (setA c i q) := by
              simp only [newsA, hw2, hq, m1, m5, hr, Bool.false_eq_true, if_false, if_true]
            rw [hmod]
            clear hmod
            generalize chooseA (setA c i q) = e at *
            have hrs := encPEs_get hr
            have hbN4 : (i : Int) < (e.ps.length : Int) := by omega
            have m6 : (w == 2) = true ∨ ((w == 2) = false ∧ (w == 3) = true) := by rcases ck with rfl | rfl <;> simp
            rcases m6 with m2 | ⟨m2, m3⟩
            · repeat' first
                | with_reducible rfl
                | simp only [AHD, encV_vecD, rowA, hcP, encPEs_len, encPEs_pull, encPEs_push, hb0, hbN2, hps2, hpi, hw3, encPE, encPD, Int.toNat_natCast, List.length_set, eq_v5, eq_v4', g0, g1, g5, g6, k0, m1, m2, RS_, FB_, segR, ST_, seval, ne_eq, bne, forall_const, implies_true, TY_, WLS]
                | (with_reducible refine drawK_id ?_); refine drawK_auto hmix (by kernel_rfl) ?_
                | (with_reducible refine draw_fin ?_ ?_); · kernel_rfl
                | (with_reducible refine draw_id ?_); kernel_rfl
                | (with_reducible refine callD_id (f := 48) ?_); refine callD_of (c_vec') rfl rfl ?_
                | (with_reducible refine callD_id (f := 50) ?_); refine callD_of (che) rfl rfl ?_
                | (with_reducible refine callK_id (f := 48) ?_); refine callK_fun (c_vec') rfl rfl ?_
                | (with_reducible refine callK_id (f := 49) ?_); refine callK_fun (cag) rfl rfl ?_
                | ((with_reducible refine callK_id (f := 43) ?_); refine callK_funW [] [0, 1, 2, 3, 4, 8, 9] (cc) (by simp [AH, Function.comp_def, pullHW, rowA, pullS, ix, pull_PE, encPEs_pull, mapC_rows, mapC_gone, pushC_rows, pushC_gone, pullP, pullV, pullSS, pullD, pullT, pullF, pushP, pushV, pushSS, pushD, pushT, pushF, pullD16, pushD16, cP_s, setA, setPEs, hpi]) rfl rfl (by decide) (by simp [cP, cV, cS, cD, cT, cF]) (by simp [pullI, pullS, ix]) ?_; rintro r Hn ⟨rfl, rfl⟩ -; clear hcP)
                | (with_reducible refine And.intro ?_ ?_; · omega)
              have hcP := cP_s
              cases n1 : d.prop with
              | false =>
                simp only [n1, Bool.false_eq_true, if_false, if_true]
                repeat' first
                  | with_reducible rfl
                  | simp only [AH2, rowA, hcP, hrs, hb0, hbN4, hpi, encPE, encPD, encPEs_len, encPEs_pull, encPEs_push, Int.toNat_natCast, mapC_rows, mapC_gone, pushC_rows, pushC_gone, pullV, pullSS, pullD, pullT, pullF, pushV, pushSS, pushD, pushT, pushF, pullD16, pushD16, pull_I, push_I, g0, g1, g5, g6, n1, RS_, FB_, segR, ST_, seval, ne_eq, bne, forall_const, implies_true, TY_, WLS]
                  | (with_reducible refine drawK_id ?_); refine drawK_auto hmix (by kernel_rfl) ?_
                  | (with_reducible refine draw_fin ?_ ?_); · kernel_rfl
                  | (with_reducible refine draw_id ?_); kernel_rfl
                  | (with_reducible refine And.intro ?_ ?_; · omega)
                all_goals (refine ⟨.t [], AH2 (e), (WkR.can [(17, 0, 0, 25), (1, 0, 0, 26)] [.inl 0, .inl 1, .inl 2, .inl 3, .inl 4, .inl 5, .inl 6, .inr 0, .inr 1] rfl (by simp [patL])).to rfl ?_, by simp [AH2], rfl, ?_⟩ <;> simp [Function.comp_def, get_gcT, get, put, gcI, pullI, push1, pushI, pullS, pushS, gcH, patL, canL, canH, canTL, canT, segR, ix, upd, up1, mapC_rows, mapC_gone, pushC_rows, pushC_gone, pullP, pullV, pullSS, pullD, pullT, pullF, pushP, pushV, pushSS, pushD, pushT, pushF, pullD16, pushD16, AH2, rowA, cP_s, encPEs_pull, encPEs_push, cT, cF, pull_I, push_I, pull_PE, push_PE, n1])
              | true =>
                cases n2 : decide (1 ≤ r.ro) with
                | false =>
                  have n4 : (r.ro == 3 || (r.ro == 1 || r.ro == 2)) = false := by have := of_decide_eq_false n2; simp; omega
                  simp only [n1, n2, n4, Bool.false_eq_true, if_false, if_true]
                  repeat' first
                    | with_reducible rfl
                    | simp only [AH2, rowA, hcP, hrs, hb0, hbN4, hpi, encPE, encPD, encPEs_len, encPEs_pull, encPEs_push, Int.toNat_natCast, mapC_rows, mapC_gone, pushC_rows, pushC_gone, pullV, pullSS, pullD, pullT, pullF, pushV, pushSS, pushD, pushT, pushF, pullD16, pushD16, pull_I, push_I, g0, g1, g5, g6, n1, n2, n4, RS_, FB_, segR, ST_, seval, ne_eq, bne, forall_const, implies_true, TY_, WLS]
                    | (with_reducible refine drawK_id ?_); refine drawK_auto hmix (by kernel_rfl) ?_
                    | (with_reducible refine draw_fin ?_ ?_); · kernel_rfl
                    | (with_reducible refine draw_id ?_); kernel_rfl
                    | (with_reducible refine And.intro ?_ ?_; · omega)
                  all_goals (refine ⟨.t [], AH2 (e), (WkR.can [(17, 0, 0, 25), (1, 0, 0, 26)] [.inl 0, .inl 1, .inl 2, .inl 3, .inl 4, .inl 5, .inl 6, .inr 0, .inr 1] rfl (by simp [patL])).to rfl ?_, by simp [AH2], rfl, ?_⟩ <;> simp [Function.comp_def, get_gcT, get, put, gcI, pullI, push1, pushI, pullS, pushS, gcH, patL, canL, canH, canTL, canT, segR, ix, upd, up1, mapC_rows, mapC_gone, pushC_rows, pushC_gone, pullP, pullV, pullSS, pullD, pullT, pullF, pushP, pushV, pushSS, pushD, pushT, pushF, pullD16, pushD16, AH2, rowA, cP_s, encPEs_pull, encPEs_push, cT, cF, pull_I, push_I, pull_PE, push_PE, n1, n2, n4])
                | true =>
                  cases n3 : decide (r.ro ≤ 3) with
                  | false =>
                    have n4 : (r.ro == 3 || (r.ro == 1 || r.ro == 2)) = false := by have := of_decide_eq_false n3; simp; omega
                    simp only [n1, n2, n3, n4, Bool.false_eq_true, if_false, if_true]
                    repeat' first
                      | with_reducible rfl
                      | simp only [AH2, rowA, hcP, hrs, hb0, hbN4, hpi, encPE, encPD, encPEs_len, encPEs_pull, encPEs_push, Int.toNat_natCast, mapC_rows, mapC_gone, pushC_rows, pushC_gone, pullV, pullSS, pullD, pullT, pullF, pushV, pushSS, pushD, pushT, pushF, pullD16, pushD16, pull_I, push_I, g0, g1, g5, g6, n1, n2, n3, n4, RS_, FB_, segR, ST_, seval, ne_eq, bne, forall_const, implies_true, TY_, WLS]
                      | (with_reducible refine drawK_id ?_); refine drawK_auto hmix (by kernel_rfl) ?_
                      | (with_reducible refine draw_fin ?_ ?_); · kernel_rfl
                      | (with_reducible refine draw_id ?_); kernel_rfl
                      | (with_reducible refine And.intro ?_ ?_; · omega)
                    all_goals (refine ⟨.t [], AH2 (e), (WkR.can [(17, 0, 0, 25), (1, 0, 0, 26)] [.inl 0, .inl 1, .inl 2, .inl 3, .inl 4, .inl 5, .inl 6, .inr 0, .inr 1] rfl (by simp [patL])).to rfl ?_, by simp [AH2], rfl, ?_⟩ <;> simp [Function.comp_def, get_gcT, get, put, gcI, pullI, push1, pushI, pullS, pushS, gcH, patL, canL, canH, canTL, canT, segR, ix, upd, up1, mapC_rows, mapC_gone, pushC_rows, pushC_gone, pullP, pullV, pullSS, pullD, pullT, pullF, pushP, pushV, pushSS, pushD, pushT, pushF, pullD16, pushD16, AH2, rowA, cP_s, encPEs_pull, encPEs_push, cT, cF, pull_I, push_I, pull_PE, push_PE, n1, n2, n3, n4])
                  | true =>
                    have n4 : (r.ro == 3 || (r.ro == 1 || r.ro == 2)) = true := by have := of_decide_eq_true n3; have := of_decide_eq_true n2; simp; omega
                    simp only [n1, n4, if_true]
                    repeat' first
                      | with_reducible rfl
                      | simp only [AH2, rowA, hcP, hrs, hb0, hbN4, hpi, encPE, encPD, encPEs_len, encPEs_pull, encPEs_push, Int.toNat_natCast, mapC_rows, mapC_gone, pushC_rows, pushC_gone, pullV, pullSS, pullD, pullT, pullF, pushV, pushSS, pushD, pushT, pushF, pullD16, pushD16, pull_I, push_I, g0, g1, g5, g6, n1, n2, n3, RS_, FB_, segR, ST_, seval, ne_eq, bne, forall_const, implies_true, TY_, WLS]
                      | (with_reducible refine drawK_id ?_); refine drawK_auto hmix (by kernel_rfl) ?_
                      | (with_reducible refine draw_fin ?_ ?_); · kernel_rfl
                      | (with_reducible refine draw_id ?_); kernel_rfl
                      | (with_reducible refine And.intro ?_ ?_; · omega)
                    refine loopK_wk (by kernel_rfl) (I_tb e r.ro port i) e.ps.length ⟨_, _, Wk.can [(17, 0, 0, 25), (1, 0, 0, 26)] [.inl 0, .inl 1, .inl 2, .inl 3, .inl 4, .inl 5, .inl 6, .inr 0, .inr 1] rfl (by simp [patL]), 0, by omega, by omega, ?_, ?_, ?_, ?_, ?_, ?_⟩ ?_
                    · simp [Function.comp_def, get_gcT, get, put, gcI, pullI, push1, pushI, pullS, pushS, gcH, patL, canL, canH, canTL, canT, segR, ix, upd, up1, mapC_rows, mapC_gone, pushC_rows, pushC_gone, pullP, pullV, pullSS, pullD, pullT, pullF, pushP, pushV, pushSS, pushD, pushT, pushF, pullD16, pushD16, AH2, rowA, cT, cF, pull_I, push_I, cP_s, encPEs_pull, encPEs_push, itA, hpi, g0, g1, g5, g6]
                    · simp [Function.comp_def, get_gcT, get, put, gcI, pullI, push1, pushI, pullS, pushS, gcH, patL, canL, canH, canTL, canT, segR, ix, upd, up1, mapC_rows, mapC_gone, pushC_rows, pushC_gone, pullP, pullV, pullSS, pullD, pullT, pullF, pushP, pushV, pushSS, pushD, pushT, pushF, pullD16, pushD16, AH2, rowA, cT, cF, pull_I, push_I, cP_s, encPEs_pull, encPEs_push, itA, hpi, g0, g1, g5, g6]
                    · simp [Function.comp_def, get_gcT, get, put, gcI, pullI, push1, pushI, pullS, pushS, gcH, patL, canL, canH, canTL, canT, segR, ix, upd, up1, mapC_rows, mapC_gone, pushC_rows, pushC_gone, pullP, pullV, pullSS, pullD, pullT, pullF, pushP, pushV, pushSS, pushD, pushT, pushF, pullD16, pushD16, AH2, rowA, cT, cF, pull_I, push_I, cP_s, encPEs_pull, encPEs_push, itA, hpi, g0, g1, g5, g6]
                    · simp [Function.comp_def, get_gcT, get, put, gcI, pullI, push1, pushI, pullS, pushS, gcH, patL, canL, canH, canTL, canT, segR, ix, upd, up1, mapC_rows, mapC_gone, pushC_rows, pushC_gone, pullP, pullV, pullSS, pullD, pullT, pullF, pushP, pushV, pushSS, pushD, pushT, pushF, pullD16, pushD16, AH2, rowA, cT, cF, pull_I, push_I, cP_s, encPEs_pull, encPEs_push, itA, hpi, g0, g1, g5, g6]
                    · simp [Function.comp_def, get_gcT, get, put, gcI, pullI, push1, pushI, pullS, pushS, gcH, patL, canL, canH, canTL, canT, segR, ix, upd, up1, mapC_rows, mapC_gone, pushC_rows, pushC_gone, pullP, pullV, pullSS, pullD, pullT, pullF, pushP, pushV, pushSS, pushD, pushT, pushF, pullD16, pushD16, AH2, rowA, cT, cF, pull_I, push_I, cP_s, encPEs_pull, encPEs_push, itA, hpi, g0, g1, g5, g6]
                    · simp [Function.comp_def, get_gcT, get, put, gcI, pullI, push1, pushI, pullS, pushS, gcH, patL, canL, canH, canTL, canT, segR, ix, upd, up1, mapC_rows, mapC_gone, pushC_rows, pushC_gone, pullP, pullV, pullSS, pullD, pullT, pullF, pushP, pushV, pushSS, pushD, pushT, pushF, pullD16, pushD16, AH2, rowA, cT, cF, pull_I, push_I, cP_s, encPEs_pull, encPEs_push, itA, hpi, g0, g1, g5, g6]
                    rintro m tm H ⟨k, rfl, hk, g0, g1, g6, g15, g16, rfl⟩
                    have fr := itA_fr (blkI_fr i) e k
                    have hat := blk_at i e k
                    by_cases hq9 : k < e.ps.length
                    · have q : decide ((k : Int) < (e.ps.length : Int)) = true := decide_eq_true (by omega)
                      have hc0 : (0 : Int) ≤ (k : Int) := by omega
                      have hcN : (k : Int) < (e.ps.length : Int) := by omega
                      have hk1 : IntKind.i64.wrap ((k : Int) + 1) = ((k + 1 : Nat) : Int) := by rw [wr_i64 (by omega) (by omega)]; rfl
                      obtain ⟨s, hs⟩ : ∃ s, (itA (blkI i) e k).ps[k]? = some s := ⟨_, List.getElem?_eq_getElem (by rw [fr.len]; omega)⟩
                      have hnx := itA_next hs
                      have hbl := fr.len
                      clear fr hat
                      generalize itA (blkI i) e k = b at *
                      have hss := encPEs_get hs
                      have hbN5 : (k : Int) < (b.ps.length : Int) := by omega
                      have hcP := cP_s
                      have cb := c_Block s b.cf
                      unfold AH2
                      cases z1 : ((k : Int) == (i : Int)) with
                      | true =>
                        generalize hb2 : blockP s b.cf = p3 at *
                        repeat' first
                          | with_reducible rfl
                          | simp only [rowA, hcP, q, hc0, hcN, hbN5, hbl, hk1, hss, encPEs_len, encPE, g0, g1, g6, g15, g16, z1, Int.toNat_natCast, RS_, FB_, segR, ST_, seval, ne_eq, bne, forall_const, implies_true, TY_, WLS]
                          | (with_reducible refine drawK_id ?_); refine drawK_auto hmix (by kernel_rfl) ?_
                          | (with_reducible refine draw_fin ?_ ?_); · kernel_rfl
                          | (with_reducible refine draw_id ?_); kernel_rfl
                          | (with_reducible refine callD_id (f := 51) ?_); refine callD_of (cb) rfl rfl ?_
                          | (with_reducible refine And.intro ?_ ?_; · omega)
                        refine ⟨e.ps.length - (k + 1), _, _, by omega, Wk.can [(17, 0, 0, 25), (1, 0, 0, 26)] [.inl 0, .inl 1, .inl 2, .inl 3, .inl 4, .inl 5, .inl 6, .inr 0, .inr 1] rfl (by simp [patL]), k + 1, rfl, by omega, ?_, ?_, ?_, ?_, ?_, ?_⟩ <;> first | (simp [Function.comp_def, get_gcT, get, put, gcI, pullI, push1, pushI, pullS, pushS, gcH, patL, canL, canH, canTL, canT, segR, ix, upd, up1, mapC_rows, mapC_gone, pushC_rows, pushC_gone, pullP, pullV, pullSS, pullD, pullT, pullF, pushP, pushV, pushSS, pushD, pushT, pushF, pullD16, pushD16, AH2, rowA, cT, cF, pull_I, push_I, cP_s, encPEs_pull, encPEs_push, g0, g1, g6, g15, g16, hk1]; done) | (rw [hnx]; simp [Function.comp_def, get_gcT, get, put, gcI, pullI, push1, pushI, pullS, pushS, gcH, patL, canL, canH, canTL, canT, segR, ix, upd, up1, mapC_rows, mapC_gone, pushC_rows, pushC_gone, pullP, pullV, pullSS, pullD, pullT, pullF, pushP, pushV, pushSS, pushD, pushT, pushF, pullD16, pushD16, AH2, rowA, cT, cF, pull_I, push_I, cP_s, encPEs_pull, encPEs_push, blkI, hb2, setA, setPEs, hbl, z1])
                      | false =>
                        generalize hb2 : blockP s b.cf = p3 at *
                        repeat' first
                          | with_reducible rfl
                          | simp only [rowA, hcP, q, hc0, hcN, hbN5, hbl, hk1, hss, encPEs_len, encPE, g0, g1, g6, g15, g16, z1, Int.toNat_natCast, RS_, FB_, segR, ST_, seval, ne_eq, bne, forall_const, implies_true, TY_, WLS]
                          | (with_reducible refine drawK_id ?_); refine drawK_auto hmix (by kernel_rfl) ?_
                          | (with_reducible refine draw_fin ?_ ?_); · kernel_rfl
                          | (with_reducible refine draw_id ?_); kernel_rfl
                          | (with_reducible refine callD_id (f := 51) ?_); refine callD_of (cb) rfl rfl ?_
                          | (with_reducible refine And.intro ?_ ?_; · omega)
                        refine ⟨e.ps.length - (k + 1), _, _, by omega, Wk.can [(17, 0, 0, 25), (1, 0, 0, 26)] [.inl 0, .inl 1, .inl 2, .inl 3, .inl 4, .inl 5, .inl 6, .inr 0, .inr 1] rfl (by simp [patL]), k + 1, rfl, by omega, ?_, ?_, ?_, ?_, ?_, ?_⟩ <;> first | (simp [Function.comp_def, get_gcT, get, put, gcI, pullI, push1, pushI, pullS, pushS, gcH, patL, canL, canH, canTL, canT, segR, ix, upd, up1, mapC_rows, mapC_gone, pushC_rows, pushC_gone, pullP, pullV, pullSS, pullD, pullT, pullF, pushP, pushV, pushSS, pushD, pushT, pushF, pullD16, pushD16, AH2, rowA, cT, cF, pull_I, push_I, cP_s, encPEs_pull, encPEs_push, g0, g1, g6, g15, g16, hk1]; done) | (rw [hnx]; simp [Function.comp_def, get_gcT, get, put, gcI, pullI, push1, pushI, pullS, pushS, gcH, patL, canL, canH, canTL, canT, segR, ix, upd, up1, mapC_rows, mapC_gone, pushC_rows, pushC_gone, pullP, pullV, pullSS, pullD, pullT, pullF, pushP, pushV, pushSS, pushD, pushT, pushF, pullD16, pushD16, AH2, rowA, cT, cF, pull_I, push_I, cP_s, encPEs_pull, encPEs_push, blkI, hb2, setA, setPEs, hbl, z1])
                    · have hin : k = e.ps.length := by omega
                      subst hin
                      have q : decide ((e.ps.length : Int) < (e.ps.length : Int)) = false := decide_eq_false (by omega)
                      have hbl := fr.len
                      have hbs := fr.sz
                      rw [hr] at hat
                      have hss := encPEs_get hat
                      have hmod : agreeA e i = sendA (itA (blkI i) e e.ps.length) ((i : Int) + 1) (agrD r) := by simp only [agreeA, hat]
                      rw [hmod]
                      clear hmod fr
                      generalize itA (blkI i) e e.ps.length = b at *
                      have hbN5 : (i : Int) < (b.ps.length : Int) := by omega
                      have hcP := cP_s
                      have htl : b.told.length ≤ 1000000 := by have := szA_t b; omega
                      unfold AH2
                      cases z1 : (r.ro == 3) with
                      | true =>
                        repeat' first
                          | with_reducible rfl
                          | simp only [rowA, hcP, q, hb0, hbN5, hbl, hss, hpi, htl, encPEs_len, encPE, encPD, pduV, g0, g1, g6, g15, g16, z1, cT, List.length_map, Int.toNat_natCast, RS_, FB_, segR, ST_, seval, ne_eq, bne, forall_const, implies_true, TY_, WLS]
                          | (with_reducible refine drawK_id ?_); refine drawK_auto hmix (by kernel_rfl) ?_
                          | (with_reducible refine draw_fin ?_ ?_); · kernel_rfl
                          | (with_reducible refine draw_id ?_); kernel_rfl
                          | (with_reducible refine callK_id (f := 46) ?_); refine callK_fun (c_with') rfl rfl ?_
                          | (with_reducible refine And.intro ?_ ?_; · omega)
                        all_goals (refine ⟨.t [], AH2 (sendA b ((i : Int) + 1) (agrD r)), (WkR.can [(17, 0, 0, 25), (1, 0, 0, 26)] [.inl 0, .inl 1, .inl 2, .inl 3, .inl 4, .inl 5, .inl 6, .inr 0, .inr 1] rfl (by simp [patL])).to rfl ?_, by simp [AH2], rfl, ?_⟩ <;> simp [Function.comp_def, get_gcT, get, put, gcI, pullI, push1, pushI, pullS, pushS, gcH, patL, canL, canH, canTL, canT, segR, ix, upd, up1, mapC_rows, mapC_gone, pushC_rows, pushC_gone, pullP, pullV, pullSS, pullD, pullT, pullF, pushP, pushV, pushSS, pushD, pushT, pushF, pullD16, pushD16, AH2, rowA, cP_s, encPEs_pull, encPEs_push, cT, cF, pull_I, push_I, pull_PE, push_PE, sendA, agrD, encTE, encPD, pduV, z1, hbl])
                      | false =>
                        repeat' first
                          | with_reducible rfl
                          | simp only [rowA, hcP, q, hb0, hbN5, hbl, hss, hpi, htl, encPEs_len, encPE, encPD, pduV, g0, g1, g6, g15, g16, z1, cT, List.length_map, Int.toNat_natCast, RS_, FB_, segR, ST_, seval, ne_eq, bne, forall_const, implies_true, TY_, WLS]
                          | (with_reducible refine drawK_id ?_); refine drawK_auto hmix (by kernel_rfl) ?_
                          | (with_reducible refine draw_fin ?_ ?_); · kernel_rfl
                          | (with_reducible refine draw_id ?_); kernel_rfl
                          | (with_reducible refine callK_id (f := 46) ?_); refine callK_fun (c_with') rfl rfl ?_
                          | (with_reducible refine And.intro ?_ ?_; · omega)
                        all_goals (refine ⟨.t [], AH2 (sendA b ((i : Int) + 1) (agrD r)), (WkR.can [(17, 0, 0, 25), (1, 0, 0, 26)] [.inl 0, .inl 1, .inl 2, .inl 3, .inl 4, .inl 5, .inl 6, .inr 0, .inr 1] rfl (by simp [patL])).to rfl ?_, by simp [AH2], rfl, ?_⟩ <;> simp [Function.comp_def, get_gcT, get, put, gcI, pullI, push1, pushI, pullS, pushS, gcH, patL, canL, canH, canTL, canT, segR, ix, upd, up1, mapC_rows, mapC_gone, pushC_rows, pushC_gone, pullP, pullV, pullSS, pullD, pullT, pullF, pushP, pushV, pushSS, pushD, pushT, pushF, pullD16, pushD16, AH2, rowA, cP_s, encPEs_pull, encPEs_push, cT, cF, pull_I, push_I, pull_PE, push_PE, sendA, agrD, encTE, encPD, pduV, z1, hbl])
            · repeat' first
                | with_reducible rfl
                | simp only [AHD, encV_vecD, rowA, hcP, encPEs_len, encPEs_pull, encPEs_push, hb0, hbN2, hps2, hpi, hw3, encPE, encPD, Int.toNat_natCast, List.length_set, eq_v5, eq_v4', g0, g1, g5, g6, k0, m1, m2, m3, RS_, FB_, segR, ST_, seval, ne_eq, bne, forall_const, implies_true, TY_, WLS]
                | (with_reducible refine drawK_id ?_); refine drawK_auto hmix (by kernel_rfl) ?_
                | (with_reducible refine draw_fin ?_ ?_); · kernel_rfl
                | (with_reducible refine draw_id ?_); kernel_rfl
                | (with_reducible refine callD_id (f := 48) ?_); refine callD_of (c_vec') rfl rfl ?_
                | (with_reducible refine callD_id (f := 50) ?_); refine callD_of (che) rfl rfl ?_
                | (with_reducible refine callK_id (f := 48) ?_); refine callK_fun (c_vec') rfl rfl ?_
                | (with_reducible refine callK_id (f := 49) ?_); refine callK_fun (cag) rfl rfl ?_
                | ((with_reducible refine callK_id (f := 43) ?_); refine callK_funW [] [0, 1, 2, 3, 4, 8, 9] (cc) (by simp [AH, Function.comp_def, pullHW, rowA, pullS, ix, pull_PE, encPEs_pull, mapC_rows, mapC_gone, pushC_rows, pushC_gone, pullP, pullV, pullSS, pullD, pullT, pullF, pushP, pushV, pushSS, pushD, pushT, pushF, pullD16, pushD16, cP_s, setA, setPEs, hpi]) rfl rfl (by decide) (by simp [cP, cV, cS, cD, cT, cF]) (by simp [pullI, pullS, ix]) ?_; rintro r Hn ⟨rfl, rfl⟩ -; clear hcP)
                | (with_reducible refine And.intro ?_ ?_; · omega)
              have hcP := cP_s
              cases n1 : d.prop with
              | false =>
                simp only [n1, Bool.false_eq_true, if_false, if_true]
                repeat' first
                  | with_reducible rfl
                  | simp only [AH2, rowA, hcP, hrs, hb0, hbN4, hpi, encPE, encPD, encPEs_len, encPEs_pull, encPEs_push, Int.toNat_natCast, mapC_rows, mapC_gone, pushC_rows, pushC_gone, pullV, pullSS, pullD, pullT, pullF, pushV, pushSS, pushD, pushT, pushF, pullD16, pushD16, pull_I, push_I, g0, g1, g5, g6, n1, RS_, FB_, segR, ST_, seval, ne_eq, bne, forall_const, implies_true, TY_, WLS]
                  | (with_reducible refine drawK_id ?_); refine drawK_auto hmix (by kernel_rfl) ?_
                  | (with_reducible refine draw_fin ?_ ?_); · kernel_rfl
                  | (with_reducible refine draw_id ?_); kernel_rfl
                  | (with_reducible refine And.intro ?_ ?_; · omega)
                all_goals (refine ⟨.t [], AH2 (e), (WkR.can [(17, 0, 0, 25), (1, 0, 0, 26)] [.inl 0, .inl 1, .inl 2, .inl 3, .inl 4, .inl 5, .inl 6, .inr 0, .inr 1] rfl (by simp [patL])).to rfl ?_, by simp [AH2], rfl, ?_⟩ <;> simp [Function.comp_def, get_gcT, get, put, gcI, pullI, push1, pushI, pullS, pushS, gcH, patL, canL, canH, canTL, canT, segR, ix, upd, up1, mapC_rows, mapC_gone, pushC_rows, pushC_gone, pullP, pullV, pullSS, pullD, pullT, pullF, pushP, pushV, pushSS, pushD, pushT, pushF, pullD16, pushD16, AH2, rowA, cP_s, encPEs_pull, encPEs_push, cT, cF, pull_I, push_I, pull_PE, push_PE, n1])
              | true =>
                cases n2 : decide (1 ≤ r.ro) with
                | false =>
                  have n4 : (r.ro == 3 || (r.ro == 1 || r.ro == 2)) = false := by have := of_decide_eq_false n2; simp; omega
                  simp only [n1, n2, n4, Bool.false_eq_true, if_false, if_true]
                  repeat' first
                    | with_reducible rfl
                    | simp only [AH2, rowA, hcP, hrs, hb0, hbN4, hpi, encPE, encPD, encPEs_len, encPEs_pull, encPEs_push, Int.toNat_natCast, mapC_rows, mapC_gone, pushC_rows, pushC_gone, pullV, pullSS, pullD, pullT, pullF, pushV, pushSS, pushD, pushT, pushF, pullD16, pushD16, pull_I, push_I, g0, g1, g5, g6, n1, n2, n4, RS_, FB_, segR, ST_, seval, ne_eq, bne, forall_const, implies_true, TY_, WLS]
                    | (with_reducible refine drawK_id ?_); refine drawK_auto hmix (by kernel_rfl) ?_
                    | (with_reducible refine draw_fin ?_ ?_); · kernel_rfl
                    | (with_reducible refine draw_id ?_); kernel_rfl
                    | (with_reducible refine And.intro ?_ ?_; · omega)
                  all_goals (refine ⟨.t [], AH2 (e), (WkR.can [(17, 0, 0, 25), (1, 0, 0, 26)] [.inl 0, .inl 1, .inl 2, .inl 3, .inl 4, .inl 5, .inl 6, .inr 0, .inr 1] rfl (by simp [patL])).to rfl ?_, by simp [AH2], rfl, ?_⟩ <;> simp [Function.comp_def, get_gcT, get, put, gcI, pullI, push1, pushI, pullS, pushS, gcH, patL, canL, canH, canTL, canT, segR, ix, upd, up1, mapC_rows, mapC_gone, pushC_rows, pushC_gone, pullP, pullV, pullSS, pullD, pullT, pullF, pushP, pushV, pushSS, pushD, pushT, pushF, pullD16, pushD16, AH2, rowA, cP_s, encPEs_pull, encPEs_push, cT, cF, pull_I, push_I, pull_PE, push_PE, n1, n2, n4])
                | true =>
                  cases n3 : decide (r.ro ≤ 3) with
                  | false =>
                    have n4 : (r.ro == 3 || (r.ro == 1 || r.ro == 2)) = false := by have := of_decide_eq_false n3; simp; omega
                    simp only [n1, n2, n3, n4, Bool.false_eq_true, if_false, if_true]
                    repeat' first
                      | with_reducible rfl
                      | simp only [AH2, rowA, hcP, hrs, hb0, hbN4, hpi, encPE, encPD, encPEs_len, encPEs_pull, encPEs_push, Int.toNat_natCast, mapC_rows, mapC_gone, pushC_rows, pushC_gone, pullV, pullSS, pullD, pullT, pullF, pushV, pushSS, pushD, pushT, pushF, pullD16, pushD16, pull_I, push_I, g0, g1, g5, g6, n1, n2, n3, n4, RS_, FB_, segR, ST_, seval, ne_eq, bne, forall_const, implies_true, TY_, WLS]
                      | (with_reducible refine drawK_id ?_); refine drawK_auto hmix (by kernel_rfl) ?_
                      | (with_reducible refine draw_fin ?_ ?_); · kernel_rfl
                      | (with_reducible refine draw_id ?_); kernel_rfl
                      | (with_reducible refine And.intro ?_ ?_; · omega)
                    all_goals (refine ⟨.t [], AH2 (e), (WkR.can [(17, 0, 0, 25), (1, 0, 0, 26)] [.inl 0, .inl 1, .inl 2, .inl 3, .inl 4, .inl 5, .inl 6, .inr 0, .inr 1] rfl (by simp [patL])).to rfl ?_, by simp [AH2], rfl, ?_⟩ <;> simp [Function.comp_def, get_gcT, get, put, gcI, pullI, push1, pushI, pullS, pushS, gcH, patL, canL, canH, canTL, canT, segR, ix, upd, up1, mapC_rows, mapC_gone, pushC_rows, pushC_gone, pullP, pullV, pullSS, pullD, pullT, pullF, pushP, pushV, pushSS, pushD, pushT, pushF, pullD16, pushD16, AH2, rowA, cP_s, encPEs_pull, encPEs_push, cT, cF, pull_I, push_I, pull_PE, push_PE, n1, n2, n3, n4])
                  | true =>
                    have n4 : (r.ro == 3 || (r.ro == 1 || r.ro == 2)) = true := by have := of_decide_eq_true n3; have := of_decide_eq_true n2; simp; omega
                    simp only [n1, n4, if_true]
                    repeat' first
                      | with_reducible rfl
                      | simp only [AH2, rowA, hcP, hrs, hb0, hbN4, hpi, encPE, encPD, encPEs_len, encPEs_pull, encPEs_push, Int.toNat_natCast, mapC_rows, mapC_gone, pushC_rows, pushC_gone, pullV, pullSS, pullD, pullT, pullF, pushV, pushSS, pushD, pushT, pushF, pullD16, pushD16, pull_I, push_I, g0, g1, g5, g6, n1, n2, n3, RS_, FB_, segR, ST_, seval, ne_eq, bne, forall_const, implies_true, TY_, WLS]
                      | (with_reducible refine drawK_id ?_); refine drawK_auto hmix (by kernel_rfl) ?_
                      | (with_reducible refine draw_fin ?_ ?_); · kernel_rfl
                      | (with_reducible refine draw_id ?_); kernel_rfl
                      | (with_reducible refine And.intro ?_ ?_; · omega)
                    refine loopK_wk (by kernel_rfl) (I_tb e r.ro port i) e.ps.length ⟨_, _, Wk.can [(17, 0, 0, 25), (1, 0, 0, 26)] [.inl 0, .inl 1, .inl 2, .inl 3, .inl 4, .inl 5, .inl 6, .inr 0, .inr 1] rfl (by simp [patL]), 0, by omega, by omega, ?_, ?_, ?_, ?_, ?_, ?_⟩ ?_
                    · simp [Function.comp_def, get_gcT, get, put, gcI, pullI, push1, pushI, pullS, pushS, gcH, patL, canL, canH, canTL, canT, segR, ix, upd, up1, mapC_rows, mapC_gone, pushC_rows, pushC_gone, pullP, pullV, pullSS, pullD, pullT, pullF, pushP, pushV, pushSS, pushD, pushT, pushF, pullD16, pushD16, AH2, rowA, cT, cF, pull_I, push_I, cP_s, encPEs_pull, encPEs_push, itA, hpi, g0, g1, g5, g6]
                    · simp [Function.comp_def, get_gcT, get, put, gcI, pullI, push1, pushI, pullS, pushS, gcH, patL, canL, canH, canTL, canT, segR, ix, upd, up1, mapC_rows, mapC_gone, pushC_rows, pushC_gone, pullP, pullV, pullSS, pullD, pullT, pullF, pushP, pushV, pushSS, pushD, pushT, pushF, pullD16, pushD16, AH2, rowA, cT, cF, pull_I, push_I, cP_s, encPEs_pull, encPEs_push, itA, hpi, g0, g1, g5, g6]
                    · simp [Function.comp_def, get_gcT, get, put, gcI, pullI, push1, pushI, pullS, pushS, gcH, patL, canL, canH, canTL, canT, segR, ix, upd, up1, mapC_rows, mapC_gone, pushC_rows, pushC_gone, pullP, pullV, pullSS, pullD, pullT, pullF, pushP, pushV, pushSS, pushD, pushT, pushF, pullD16, pushD16, AH2, rowA, cT, cF, pull_I, push_I, cP_s, encPEs_pull, encPEs_push, itA, hpi, g0, g1, g5, g6]
                    · simp [Function.comp_def, get_gcT, get, put, gcI, pullI, push1, pushI, pullS, pushS, gcH, patL, canL, canH, canTL, canT, segR, ix, upd, up1, mapC_rows, mapC_gone, pushC_rows, pushC_gone, pullP, pullV, pullSS, pullD, pullT, pullF, pushP, pushV, pushSS, pushD, pushT, pushF, pullD16, pushD16, AH2, rowA, cT, cF, pull_I, push_I, cP_s, encPEs_pull, encPEs_push, itA, hpi, g0, g1, g5, g6]
                    · simp [Function.comp_def, get_gcT, get, put, gcI, pullI, push1, pushI, pullS, pushS, gcH, patL, canL, canH, canTL, canT, segR, ix, upd, up1, mapC_rows, mapC_gone, pushC_rows, pushC_gone, pullP, pullV, pullSS, pullD, pullT, pullF, pushP, pushV, pushSS, pushD, pushT, pushF, pullD16, pushD16, AH2, rowA, cT, cF, pull_I, push_I, cP_s, encPEs_pull, encPEs_push, itA, hpi, g0, g1, g5, g6]
                    · simp [Function.comp_def, get_gcT, get, put, gcI, pullI, push1, pushI, pullS, pushS, gcH, patL, canL, canH, canTL, canT, segR, ix, upd, up1, mapC_rows, mapC_gone, pushC_rows, pushC_gone, pullP, pullV, pullSS, pullD, pullT, pullF, pushP, pushV, pushSS, pushD, pushT, pushF, pullD16, pushD16, AH2, rowA, cT, cF, pull_I, push_I, cP_s, encPEs_pull, encPEs_push, itA, hpi, g0, g1, g5, g6]
                    rintro m tm H ⟨k, rfl, hk, g0, g1, g6, g15, g16, rfl⟩
                    have fr := itA_fr (blkI_fr i) e k
                    have hat := blk_at i e k
                    by_cases hq9 : k < e.ps.length
                    · have q : decide ((k : Int) < (e.ps.length : Int)) = true := decide_eq_true (by omega)
                      have hc0 : (0 : Int) ≤ (k : Int) := by omega
                      have hcN : (k : Int) < (e.ps.length : Int) := by omega
                      have hk1 : IntKind.i64.wrap ((k : Int) + 1) = ((k + 1 : Nat) : Int) := by rw [wr_i64 (by omega) (by omega)]; rfl
                      obtain ⟨s, hs⟩ : ∃ s, (itA (blkI i) e k).ps[k]? = some s := ⟨_, List.getElem?_eq_getElem (by rw [fr.len]; omega)⟩
                      have hnx := itA_next hs
                      have hbl := fr.len
                      clear fr hat
                      generalize itA (blkI i) e k = b at *
                      have hss := encPEs_get hs
                      have hbN5 : (k : Int) < (b.ps.length : Int) := by omega
                      have hcP := cP_s
                      have cb := c_Block s b.cf
                      unfold AH2
                      cases z1 : ((k : Int) == (i : Int)) with
                      | true =>
                        generalize hb2 : blockP s b.cf = p3 at *
                        repeat' first
                          | with_reducible rfl
                          | simp only [rowA, hcP, q, hc0, hcN, hbN5, hbl, hk1, hss, encPEs_len, encPE, g0, g1, g6, g15, g16, z1, Int.toNat_natCast, RS_, FB_, segR, ST_, seval, ne_eq, bne, forall_const, implies_true, TY_, WLS]
                          | (with_reducible refine drawK_id ?_); refine drawK_auto hmix (by kernel_rfl) ?_
                          | (with_reducible refine draw_fin ?_ ?_); · kernel_rfl
                          | (with_reducible refine draw_id ?_); kernel_rfl
                          | (with_reducible refine callD_id (f := 51) ?_); refine callD_of (cb) rfl rfl ?_
                          | (with_reducible refine And.intro ?_ ?_; · omega)
                        refine ⟨e.ps.length - (k + 1), _, _, by omega, Wk.can [(17, 0, 0, 25), (1, 0, 0, 26)] [.inl 0, .inl 1, .inl 2, .inl 3, .inl 4, .inl 5, .inl 6, .inr 0, .inr 1] rfl (by simp [patL]), k + 1, rfl, by omega, ?_, ?_, ?_, ?_, ?_, ?_⟩ <;> first | (simp [Function.comp_def, get_gcT, get, put, gcI, pullI, push1, pushI, pullS, pushS, gcH, patL, canL, canH, canTL, canT, segR, ix, upd, up1, mapC_rows, mapC_gone, pushC_rows, pushC_gone, pullP, pullV, pullSS, pullD, pullT, pullF, pushP, pushV, pushSS, pushD, pushT, pushF, pullD16, pushD16, AH2, rowA, cT, cF, pull_I, push_I, cP_s, encPEs_pull, encPEs_push, g0, g1, g6, g15, g16, hk1]; done) | (rw [hnx]; simp [Function.comp_def, get_gcT, get, put, gcI, pullI, push1, pushI, pullS, pushS, gcH, patL, canL, canH, canTL, canT, segR, ix, upd, up1, mapC_rows, mapC_gone, pushC_rows, pushC_gone, pullP, pullV, pullSS, pullD, pullT, pullF, pushP, pushV, pushSS, pushD, pushT, pushF, pullD16, pushD16, AH2, rowA, cT, cF, pull_I, push_I, cP_s, encPEs_pull, encPEs_push, blkI, hb2, setA, setPEs, hbl, z1])
                      | false =>
                        generalize hb2 : blockP s b.cf = p3 at *
                        repeat' first
                          | with_reducible rfl
                          | simp only [rowA, hcP, q, hc0, hcN, hbN5, hbl, hk1, hss, encPEs_len, encPE, g0, g1, g6, g15, g16, z1, Int.toNat_natCast, RS_, FB_, segR, ST_, seval, ne_eq, bne, forall_const, implies_true, TY_, WLS]
                          | (with_reducible refine drawK_id ?_); refine drawK_auto hmix (by kernel_rfl) ?_
                          | (with_reducible refine draw_fin ?_ ?_); · kernel_rfl
                          | (with_reducible refine draw_id ?_); kernel_rfl
                          | (with_reducible refine callD_id (f := 51) ?_); refine callD_of (cb) rfl rfl ?_
                          | (with_reducible refine And.intro ?_ ?_; · omega)
                        refine ⟨e.ps.length - (k + 1), _, _, by omega, Wk.can [(17, 0, 0, 25), (1, 0, 0, 26)] [.inl 0, .inl 1, .inl 2, .inl 3, .inl 4, .inl 5, .inl 6, .inr 0, .inr 1] rfl (by simp [patL]), k + 1, rfl, by omega, ?_, ?_, ?_, ?_, ?_, ?_⟩ <;> first | (simp [Function.comp_def, get_gcT, get, put, gcI, pullI, push1, pushI, pullS, pushS, gcH, patL, canL, canH, canTL, canT, segR, ix, upd, up1, mapC_rows, mapC_gone, pushC_rows, pushC_gone, pullP, pullV, pullSS, pullD, pullT, pullF, pushP, pushV, pushSS, pushD, pushT, pushF, pullD16, pushD16, AH2, rowA, cT, cF, pull_I, push_I, cP_s, encPEs_pull, encPEs_push, g0, g1, g6, g15, g16, hk1]; done) | (rw [hnx]; simp [Function.comp_def, get_gcT, get, put, gcI, pullI, push1, pushI, pullS, pushS, gcH, patL, canL, canH, canTL, canT, segR, ix, upd, up1, mapC_rows, mapC_gone, pushC_rows, pushC_gone, pullP, pullV, pullSS, pullD, pullT, pullF, pushP, pushV, pushSS, pushD, pushT, pushF, pullD16, pushD16, AH2, rowA, cT, cF, pull_I, push_I, cP_s, encPEs_pull, encPEs_push, blkI, hb2, setA, setPEs, hbl, z1])
                    · have hin : k = e.ps.length := by omega
                      subst hin
                      have q : decide ((e.ps.length : Int) < (e.ps.length : Int)) = false := decide_eq_false (by omega)
                      have hbl := fr.len
                      have hbs := fr.sz
                      rw [hr] at hat
                      have hss := encPEs_get hat
                      have hmod : agreeA e i = sendA (itA (blkI i) e e.ps.length) ((i : Int) + 1) (agrD r) := by simp only [agreeA, hat]
                      rw [hmod]
                      clear hmod fr
                      generalize itA (blkI i) e e.ps.length = b at *
                      have hbN5 : (i : Int) < (b.ps.length : Int) := by omega
                      have hcP := cP_s
                      have htl : b.told.length ≤ 1000000 := by have := szA_t b; omega
                      unfold AH2
                      cases z1 : (r.ro == 3) with
                      | true =>
                        repeat' first
                          | with_reducible rfl
                          | simp only [rowA, hcP, q, hb0, hbN5, hbl, hss, hpi, htl, encPEs_len, encPE, encPD, pduV, g0, g1, g6, g15, g16, z1, cT, List.length_map, Int.toNat_natCast, RS_, FB_, segR, ST_, seval, ne_eq, bne, forall_const, implies_true, TY_, WLS]
                          | (with_reducible refine drawK_id ?_); refine drawK_auto hmix (by kernel_rfl) ?_
                          | (with_reducible refine draw_fin ?_ ?_); · kernel_rfl
                          | (with_reducible refine draw_id ?_); kernel_rfl
                          | (with_reducible refine callK_id (f := 46) ?_); refine callK_fun (c_with') rfl rfl ?_
                          | (with_reducible refine And.intro ?_ ?_; · omega)
                        all_goals (refine ⟨.t [], AH2 (sendA b ((i : Int) + 1) (agrD r)), (WkR.can [(17, 0, 0, 25), (1, 0, 0, 26)] [.inl 0, .inl 1, .inl 2, .inl 3, .inl 4, .inl 5, .inl 6, .inr 0, .inr 1] rfl (by simp [patL])).to rfl ?_, by simp [AH2], rfl, ?_⟩ <;> simp [Function.comp_def, get_gcT, get, put, gcI, pullI, push1, pushI, pullS, pushS, gcH, patL, canL, canH, canTL, canT, segR, ix, upd, up1, mapC_rows, mapC_gone, pushC_rows, pushC_gone, pullP, pullV, pullSS, pullD, pullT, pullF, pushP, pushV, pushSS, pushD, pushT, pushF, pullD16, pushD16, AH2, rowA, cP_s, encPEs_pull, encPEs_push, cT, cF, pull_I, push_I, pull_PE, push_PE, sendA, agrD, encTE, encPD, pduV, z1, hbl])
                      | false =>
                        repeat' first
                          | with_reducible rfl
                          | simp only [rowA, hcP, q, hb0, hbN5, hbl, hss, hpi, htl, encPEs_len, encPE, encPD, pduV, g0, g1, g6, g15, g16, z1, cT, List.length_map, Int.toNat_natCast, RS_, FB_, segR, ST_, seval, ne_eq, bne, forall_const, implies_true, TY_, WLS]
                          | (with_reducible refine drawK_id ?_); refine drawK_auto hmix (by kernel_rfl) ?_
                          | (with_reducible refine draw_fin ?_ ?_); · kernel_rfl
                          | (with_reducible refine draw_id ?_); kernel_rfl
                          | (with_reducible refine callK_id (f := 46) ?_); refine callK_fun (c_with') rfl rfl ?_
                          | (with_reducible refine And.intro ?_ ?_; · omega)
                        all_goals (refine ⟨.t [], AH2 (sendA b ((i : Int) + 1) (agrD r)), (WkR.can [(17, 0, 0, 25), (1, 0, 0, 26)] [.inl 0, .inl 1, .inl 2, .inl 3, .inl 4, .inl 5, .inl 6, .inr 0, .inr 1] rfl (by simp [patL])).to rfl ?_, by simp [AH2], rfl, ?_⟩ <;> simp [Function.comp_def, get_gcT, get, put, gcI, pullI, push1, pushI, pullS, pushS, gcH, patL, canL, canH, canTL, canT, segR, ix, upd, up1, mapC_rows, mapC_gone, pushC_rows, pushC_gone, pullP, pullV, pullSS, pullD, pullT, pullF, pushP, pushV, pushSS, pushD, pushT, pushF, pullD16, pushD16, AH2, rowA, cP_s, encPEs_pull, encPEs_push, cT, cF, pull_I, push_I, pull_PE, push_PE, sendA, agrD, encTE, encPD, pduV, z1, hbl])
end Go.Ev
