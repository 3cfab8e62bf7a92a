/- A part of the proof: contracts of the functions that the statement reaches. -/
import Derived.Test.YtadikegdadnahaaT23
namespace Go.Ev
open Go.Proofs
set_option maxRecDepth 100000
set_option linter.unusedSimpArgs false
set_option linter.unusedVariables false
set_option maxHeartbeats 4000000
theorem encTE_def (t : TE) : encTE t = .raw (.int .i64 t.port) :: [.raw (.int .u8 t.d.kind), .raw (.bool t.d.top), .raw (.bool t.d.prop), .raw (.bool t.d.lrn), .raw (.bool t.d.fwd), .raw (.bool t.d.agr), .raw (.bool t.d.ack), .raw (.int .u8 t.d.role), .raw (.int .u64 t.d.root), .raw (.int .u32 t.d.cost), .raw (.int .u64 t.d.br), .raw (.int .u16 t.d.port), .raw (.int .u16 t.d.age), .raw (.int .u16 t.d.ma), .raw (.int .u16 t.d.he), .raw (.int .u16 t.d.de)] := rfl
def encTEs (l : List TE) : List (List SV) := l.map encTE
theorem encTEs_len (l : List TE) : (encTEs l).length = l.length := List.length_map _
theorem encTEs_get {l : List TE} {i : Nat} {p : TE} (h : l[i]? = some p) : (encTEs l)[i]? = some (encTE p) := by unfold encTEs; rw [List.getElem?_map, h]; rfl
theorem encTEs_pull (σ : List Nat) (l : List TE) : (encTEs l).map (fun r => r.map (pullS σ)) = encTEs l := by unfold encTEs; rw [List.map_map]; rfl
theorem cT_s (l : List TE) : cT l = .rows true 17 (encTEs l) := rfl
theorem rT_s (l : List TE) : rT l = .rows false 17 (encTEs l) := rfl
theorem sIs_get {l : List Int} {i : Nat} {x : Int} (h : l[i]? = some x) : (sIs l)[i]? = some [.raw (.int .i64 x)] := by unfold sIs; rw [List.getElem?_map, h]; rfl
def HrS (a : AS) : Heap := [rP a.ps, rV a.vs, rS a.ss, rD a.ds, rT a.told, rF a.fl]
def I_sm (a : AS) (t : Nat) (m : Nat) (tm : TM) (H : Heap) : Prop := ∃ i : Nat, m = (if t = 7 then a.told.length else a.fl.length) - i ∧ i ≤ (if t = 7 then a.told.length else a.fl.length) ∧ get tm 0 = .s (.ptr 6 0 0) ∧ get tm 5 = .s (.ptr 13 0 0) ∧ get tm t = .s (.raw (.int .i64 (i : Int))) ∧ H = HrS a ++ AHo 6 a ++ [.rows true 2 [[.slice 4 0 a.told.length, .slice 5 0 a.fl.length]]]
theorem c_same (a : AS) (hn : a.ps.length ≤ 100) (hb : Bare a) (hsz : szA a ≤ 900000) : FunW Try.prog 20 (HrS a) (AHo 6 a) [.s (.ptr 6 0 0), .a (rowS 0 1 2 3 a), .a [.slice 4 0 a.told.length, .slice 5 0 a.fl.length]] fun r Hn => r = .s (.raw (.bool true)) ∧ Hn = [.rows true 27 [rowA 7 8 9 10 13 14 (noT a)], cP a.ps, cV a.vs, cS a.ss, cD a.ds, cT a.told, cF a.fl, cT [], cF []] := by
  refine funW_of fun X => ?_
  refine callK_inline (rs := [.tmp 6]) (n := 84) Try.func20 rfl rfl rfl (by kernel_rfl) (by kernel_rfl) (by simp only [List.length_cons, List.length_nil]; decide) ?_
  have h1 := c_Same a hn hb
  have htl := szA_t a
  have hfl := szA_f a
  unfold HrS AHo
  repeat' first
    | with_reducible rfl
    | simp only [rowA, rowS, bne_self_eq_false, RS_, FB_, segR, ST_, seval, ne_eq, bne, forall_const, implies_true, TY_, WLS]
    | (with_reducible refine drawK_id ?_); refine drawK_auto hmix (by kernel_rfl) ?_
    | (with_reducible refine draw_fin ?_ ?_); · kernel_rfl
    | (with_reducible refine draw_id ?_); kernel_rfl
    | ((with_reducible refine callD_id (f := 24) ?_); refine callD_read [0, 1, 2, 3, 7, 8, 9, 10] h1 (by simp [pullH, roC_rP, roC_rV, roC_rS, roC_rD, roP, roV, roSS, roD]) (by simp [pullI, pullS, ix, rowS]) rfl ?_)
    | (with_reducible refine And.intro ?_ ?_; · omega)
  refine loopK_wk (by kernel_rfl) (I_sm a 7) a.told.length ⟨_, _, Wk.gc [0, 1, 2, 3, 4, 5, 6, 7, 8, 9, 10, 11, 12, 14] rfl (by decide), 0, rfl, Nat.zero_le _, ?_, ?_, ?_, ?_⟩ ?_
  · simp [Function.comp_def, get_gcT, get, put, gcI, pullI, push1, pushI, pullS, pushS, gcH, patL, canL, canH, canTL, canT, segR, ix, upd, up1, mapC_rows, mapC_gone, pushC_rows, pushC_gone, pullP, pullV, pullSS, pullD, pullT, pullF, pushP, pushV, pushSS, pushD, pushT, pushF, pullD16, pushD16, HrS, AHo, rowA, prP, prV, prSS, prD, prT, prF]
  · simp [Function.comp_def, get_gcT, get, put, gcI, pullI, push1, pushI, pullS, pushS, gcH, patL, canL, canH, canTL, canT, segR, ix, upd, up1, mapC_rows, mapC_gone, pushC_rows, pushC_gone, pullP, pullV, pullSS, pullD, pullT, pullF, pushP, pushV, pushSS, pushD, pushT, pushF, pullD16, pushD16, HrS, AHo, rowA, prP, prV, prSS, prD, prT, prF]
  · simp [Function.comp_def, get_gcT, get, put, gcI, pullI, push1, pushI, pullS, pushS, gcH, patL, canL, canH, canTL, canT, segR, ix, upd, up1, mapC_rows, mapC_gone, pushC_rows, pushC_gone, pullP, pullV, pullSS, pullD, pullT, pullF, pushP, pushV, pushSS, pushD, pushT, pushF, pullD16, pushD16, HrS, AHo, rowA, prP, prV, prSS, prD, prT, prF]
  · simp [Function.comp_def, get_gcT, get, put, gcI, pullI, push1, pushI, pullS, pushS, gcH, patL, canL, canH, canTL, canT, segR, ix, upd, up1, mapC_rows, mapC_gone, pushC_rows, pushC_gone, pullP, pullV, pullSS, pullD, pullT, pullF, pushP, pushV, pushSS, pushD, pushT, pushF, pullD16, pushD16, HrS, AHo, rowA, prP, prV, prSS, prD, prT, prF]
  rintro m tm H ⟨i, rfl, hi, g0, g5, g7, rfl⟩
  simp only [if_true] at hi ⊢
  unfold HrS AHo
  by_cases hq : i < a.told.length
  · have q : decide ((i : Int) < (a.told.length : Int)) = true := decide_eq_true (by omega)
    have hb0 : (0 : Int) ≤ (i : Int) := by omega
    have hbN : (i : Int) < (a.told.length : Int) := by omega
    have hi1 : IntKind.i64.wrap ((i : Int) + 1) = ((i + 1 : Nat) : Int) := by rw [wr_i64 (by omega) (by omega)]; rfl
    obtain ⟨p, hp⟩ : ∃ p, a.told[i]? = some p := ⟨_, List.getElem?_eq_getElem (by omega)⟩
    have hps := encTEs_get hp
    repeat' first
      | with_reducible rfl
      | simp only [rowA, cT_s, rT_s, encTEs_len, q, hb0, hbN, hi1, hps, encTE_def, g0, g5, g7, bne_self_eq_false, Int.toNat_natCast, RS_, FB_, segR, ST_, seval, ne_eq, bne, forall_const, implies_true, TY_, WLS]
      | (with_reducible refine drawK_id ?_); refine drawK_auto hmix (by kernel_rfl) ?_
      | (with_reducible refine draw_fin ?_ ?_); · kernel_rfl
      | (with_reducible refine draw_id ?_); kernel_rfl
      | (with_reducible refine And.intro ?_ ?_; · omega)
    refine ⟨a.told.length - (i + 1), _, _, by omega, Wk.gc [0, 1, 2, 3, 4, 5, 6, 7, 8, 9, 10, 11, 12, 13] rfl (by decide), i + 1, rfl, by simp only [if_true]; omega, ?_, ?_, ?_, ?_⟩ <;> simp [Function.comp_def, get_gcT, get, put, gcI, pullI, push1, pushI, pullS, pushS, gcH, patL, canL, canH, canTL, canT, segR, ix, upd, up1, mapC_rows, mapC_gone, pushC_rows, pushC_gone, pullP, pullV, pullSS, pullD, pullT, pullF, pushP, pushV, pushSS, pushD, pushT, pushF, pullD16, pushD16, HrS, AHo, rowA, prP, prV, prSS, prD, prT, prF, g0, g5, g7, hi1, cT_s, rT_s, encTEs_pull]
  · have q : decide ((i : Int) < (a.told.length : Int)) = false := decide_eq_false (by omega)
    repeat' first
      | with_reducible rfl
      | simp only [rowA, q, g0, g5, g7, RS_, FB_, segR, ST_, seval, ne_eq, bne, forall_const, implies_true, TY_, WLS]
      | (with_reducible refine drawK_id ?_); refine drawK_auto hmix (by kernel_rfl) ?_
      | (with_reducible refine draw_fin ?_ ?_); · kernel_rfl
      | (with_reducible refine draw_id ?_); kernel_rfl
      | (with_reducible refine And.intro ?_ ?_; · omega)
    refine loopK_wk (by kernel_rfl) (I_sm a 8) a.fl.length ⟨_, _, Wk.gc [0, 1, 2, 3, 4, 5, 6, 7, 8, 9, 10, 11, 12, 13] rfl (by decide), 0, rfl, Nat.zero_le _, ?_, ?_, ?_, ?_⟩ ?_
    · simp [Function.comp_def, get_gcT, get, put, gcI, pullI, push1, pushI, pullS, pushS, gcH, patL, canL, canH, canTL, canT, segR, ix, upd, up1, mapC_rows, mapC_gone, pushC_rows, pushC_gone, pullP, pullV, pullSS, pullD, pullT, pullF, pushP, pushV, pushSS, pushD, pushT, pushF, pullD16, pushD16, HrS, AHo, rowA, prP, prV, prSS, prD, prT, prF, g0, g5, g7]
    · simp [Function.comp_def, get_gcT, get, put, gcI, pullI, push1, pushI, pullS, pushS, gcH, patL, canL, canH, canTL, canT, segR, ix, upd, up1, mapC_rows, mapC_gone, pushC_rows, pushC_gone, pullP, pullV, pullSS, pullD, pullT, pullF, pushP, pushV, pushSS, pushD, pushT, pushF, pullD16, pushD16, HrS, AHo, rowA, prP, prV, prSS, prD, prT, prF, g0, g5, g7]
    · simp [Function.comp_def, get_gcT, get, put, gcI, pullI, push1, pushI, pullS, pushS, gcH, patL, canL, canH, canTL, canT, segR, ix, upd, up1, mapC_rows, mapC_gone, pushC_rows, pushC_gone, pullP, pullV, pullSS, pullD, pullT, pullF, pushP, pushV, pushSS, pushD, pushT, pushF, pullD16, pushD16, HrS, AHo, rowA, prP, prV, prSS, prD, prT, prF, g0, g5, g7]
    · simp [Function.comp_def, get_gcT, get, put, gcI, pullI, push1, pushI, pullS, pushS, gcH, patL, canL, canH, canTL, canT, segR, ix, upd, up1, mapC_rows, mapC_gone, pushC_rows, pushC_gone, pullP, pullV, pullSS, pullD, pullT, pullF, pushP, pushV, pushSS, pushD, pushT, pushF, pullD16, pushD16, HrS, AHo, rowA, prP, prV, prSS, prD, prT, prF, g0, g5, g7]
    rintro m tm H ⟨i, rfl, hi, g0, g5, g8, rfl⟩
    simp only [show ¬ (8 = 7) by decide, if_false] at hi ⊢
    clear hq q
    unfold HrS AHo
    by_cases hq : i < a.fl.length
    · have q : decide ((i : Int) < (a.fl.length : Int)) = true := decide_eq_true (by omega)
      have hb0 : (0 : Int) ≤ (i : Int) := by omega
      have hbN : (i : Int) < (a.fl.length : Int) := by omega
      have hi1 : IntKind.i64.wrap ((i : Int) + 1) = ((i + 1 : Nat) : Int) := by rw [wr_i64 (by omega) (by omega)]; rfl
      obtain ⟨p, hp⟩ : ∃ p, a.fl[i]? = some p := ⟨_, List.getElem?_eq_getElem (by omega)⟩
      have hps := sIs_get hp
      repeat' first
        | with_reducible rfl
        | simp only [rowA, cF_s, rF_s, sIs_len, q, hb0, hbN, hi1, hps, List.length_nil, g0, g5, g8, bne_self_eq_false, Int.toNat_natCast, RS_, FB_, segR, ST_, seval, ne_eq, bne, forall_const, implies_true, TY_, WLS]
        | (with_reducible refine drawK_id ?_); refine drawK_auto hmix (by kernel_rfl) ?_
        | (with_reducible refine draw_fin ?_ ?_); · kernel_rfl
        | (with_reducible refine draw_id ?_); kernel_rfl
        | (with_reducible refine And.intro ?_ ?_; · omega)
      refine ⟨a.fl.length - (i + 1), _, _, by omega, Wk.gc [0, 1, 2, 3, 4, 5, 6, 7, 8, 9, 10, 11, 12, 13] rfl (by decide), i + 1, rfl, by simp only [show ¬ (8 = 7) by decide, if_false]; omega, ?_, ?_, ?_, ?_⟩ <;> simp [Function.comp_def, get_gcT, get, put, gcI, pullI, push1, pushI, pullS, pushS, gcH, patL, canL, canH, canTL, canT, segR, ix, upd, up1, mapC_rows, mapC_gone, pushC_rows, pushC_gone, pullP, pullV, pullSS, pullD, pullT, pullF, pushP, pushV, pushSS, pushD, pushT, pushF, pullD16, pushD16, HrS, AHo, rowA, prP, prV, prSS, prD, prT, prF, g0, g5, g8, hi1, cF_s, rF_s, sIs_pull]
    · have q : decide ((i : Int) < (a.fl.length : Int)) = false := decide_eq_false (by omega)
      repeat' first
        | with_reducible rfl
        | simp only [rowA, q, g0, g5, g8, RS_, FB_, segR, ST_, seval, ne_eq, bne, forall_const, implies_true, TY_, WLS]
        | (with_reducible refine drawK_id ?_); refine drawK_auto hmix (by kernel_rfl) ?_
        | (with_reducible refine draw_fin ?_ ?_); · kernel_rfl
        | (with_reducible refine draw_id ?_); kernel_rfl
        | (with_reducible refine And.intro ?_ ?_; · omega)
      refine ⟨.s (.raw (.bool true)), [.rows true 27 [rowA 7 8 9 10 13 14 (noT a)], cP a.ps, cV a.vs, cS a.ss, cD a.ds, cT a.told, cF a.fl, cT [], cF []], (WkR.can [(17, 6, 0, 25), (1, 6, 0, 26)] [.inl 0, .inl 1, .inl 2, .inl 3, .inl 4, .inl 5, .inl 6, .inl 7, .inl 8, .inl 9, .inl 10, .inl 11, .inl 12, .inr 0, .inr 1] rfl (by simp [patL])).to rfl ?_, by simp, rfl, rfl⟩
      simp [Function.comp_def, get_gcT, get, put, gcI, pullI, push1, pushI, pullS, pushS, gcH, patL, canL, canH, canTL, canT, segR, ix, upd, up1, mapC_rows, mapC_gone, pushC_rows, pushC_gone, pullP, pullV, pullSS, pullD, pullT, pullF, pushP, pushV, pushSS, pushD, pushT, pushF, pullD16, pushD16, HrS, AHo, rowA, prP, prV, prSS, prD, prT, prF, noT]
      simp [cT, cF]
structure A18 where
  (what port kind role : Int) (f0 f1 f2 f3 : Bool) (v0 v1 v2 v3 age : Int) (own : Bool)
  deriving Inhabited
def encX (x : A18) : List SV := [.raw (.int .u8 x.what), .raw (.int .u8 x.port), .raw (.int .u8 x.kind), .raw (.int .u8 x.role), .raw (.bool x.f0), .raw (.bool x.f1), .raw (.bool x.f2), .raw (.bool x.f3), .raw (.int .u8 x.v0), .raw (.int .u8 x.v1), .raw (.int .u8 x.v2), .raw (.int .u8 x.v3), .raw (.int .u8 x.age), .raw (.bool x.own)]
theorem pull_X (σ : List Nat) (p : A18) : (encX p).map (pullS σ) = encX p := rfl
def kindX (k : Int) : Int := if k == 0 then 2 else if k == 1 then 2 else if k == 2 then 0 else 128
def pd0 (x : A18) (k : Int) : PD := ⟨k, x.f0, if k == 2 then x.f1 else false, false, false, if k == 2 then x.f2 else false, false, if k == 2 then Int.tmod x.role 4 else 0, IntKind.u64.wrap (1 + IntKind.u64.wrap (Int.tmod x.v0 8)), IntKind.u32.wrap (Int.tmod x.v1 5), IntKind.u64.wrap (1 + IntKind.u64.wrap (Int.tmod x.v2 8)), IntKind.u16.wrap (Int.tmod x.v3 4), IntKind.u16.wrap (Int.tmod x.age 14), 0, 0, 0⟩
def ownD (d : PD) (v : V4) : PD := { d with root := v.r, cost := v.c, br := v.b, port := v.p }
def ownO (x : A18) (ps : List PE) (port : Int) : Option PE := if x.own then (if decide (1 ≤ port) then (if decide (port ≤ (ps.length : Int)) then ps[(port - 1).toNat]? else none) else none) else none
def pduX (x : A18) (ps : List PE) (port : Int) : PD :=
  if kindX (Int.tmod x.kind 4) == 128 then ⟨128, false, false, false, false, false, false, 0, 0, 0, 0, 0, 0, 0, 0, 0⟩
  else match ownO x ps port with
    | some p => ownD (pd0 x (kindX (Int.tmod x.kind 4))) p.v
    | none => pd0 x (kindX (Int.tmod x.kind 4))
theorem u16_wrap_ok (x : Int) : 0 ≤ IntKind.u16.wrap x ∧ IntKind.u16.wrap x ≤ 65535 := by
  have : IntKind.u16.wrap x = x % 65536 := by simp [IntKind.wrap, IntKind.signed, IntKind.bits]
  omega
theorem pduX_age (x : A18) (ps : List PE) (port : Int) : 0 ≤ (pduX x ps port).age ∧ (pduX x ps port).age ≤ 65535 := by
  unfold pduX
  split
  · simp
  · split <;> exact u16_wrap_ok _
theorem c_pduOf (x : A18) (hk : 0 ≤ x.kind) (a : AS) (hn : a.ps.length ≤ 100) (port : Int) (hp0 : 0 ≤ port ∧ port ≤ 7) : FunR Try.prog 13 [rP a.ps, rV a.vs, rS a.ss, rD a.ds] [.a (encX x), .a (rowS 0 1 2 3 a), .s (.raw (.int .i64 port))] (.a (encPD (pduX x a.ps port))) := by
  refine funR_of rfl fun X => ?_
  refine callK_inline (rs := [.cell 6 55]) (n := 103) Try.func13 rfl rfl rfl (by kernel_rfl) (by kernel_rfl) (by simp only [List.length_cons, List.length_nil]; decide) ?_
  have hw : IntKind.i64.wrap (port - 1) = port - 1 := wr_i64 (by omega) (by omega)
  have h4 : Int.tmod x.kind 4 = 0 ∨ Int.tmod x.kind 4 = 1 ∨ Int.tmod x.kind 4 = 2 ∨ Int.tmod x.kind 4 = 3 := by
    rw [Int.tmod_eq_emod_of_nonneg hk]; omega
  have key : ∀ k : Int, (k = 0 ∨ k = 1 ∨ k = 2 ∨ k = 3) → Int.tmod x.kind 4 = k → ((ownO x a.ps port = none ∧ (x.own = false ∨ x.own = true ∧ (decide (1 ≤ port) = false ∨ decide (1 ≤ port) = true ∧ decide (port ≤ (a.ps.length : Int)) = false))) ∨ ∃ (i : Nat) (p : PE), x.own = true ∧ decide (1 ≤ port) = true ∧ decide (port ≤ (a.ps.length : Int)) = true ∧ port - 1 = (i : Int) ∧ i < a.ps.length ∧ a.ps[i]? = some p ∧ ownO x a.ps port = some p) := fun k _ _ => by
    unfold ownO
    cases h1 : x.own with
    | false => exact .inl ⟨rfl, .inl rfl⟩
    | true =>
      cases h2 : decide (1 ≤ port) with
      | false => exact .inl ⟨rfl, .inr ⟨rfl, .inl rfl⟩⟩
      | true =>
        cases h3 : decide (port ≤ (a.ps.length : Int)) with
        | false => exact .inl ⟨rfl, .inr ⟨rfl, .inr ⟨rfl, rfl⟩⟩⟩
        | true =>
          have a1 := of_decide_eq_true h2
          have a2 := of_decide_eq_true h3
          obtain ⟨p, hp⟩ : ∃ p, a.ps[(port - 1).toNat]? = some p := ⟨_, List.getElem?_eq_getElem (by omega)⟩
          exact .inr ⟨(port - 1).toNat, p, rfl, rfl, rfl, by omega, by omega, hp, by simp only [if_true]; exact hp⟩
  rcases h4 with k4 | k4 | k4 | k4
  · rcases key _ (by omega) k4 with ⟨hno, ho | ⟨ho, hc | ⟨hc, hd⟩⟩⟩ | ⟨i, p, ho, hc, hd, hi, hlt, hp, hs⟩
    · have hm : pduX x a.ps port = pd0 x 2 := by simp [pduX, k4, kindX, hno]
      rw [hm]
      repeat' first
        | with_reducible rfl
        | simp only [encX, rowS, encPD, hw, k4, ho, pd0, RS_, FB_, segR, ST_, seval, ne_eq, bne, forall_const, implies_true, TY_, WLS]
        | (with_reducible refine drawK_id ?_); refine drawK_auto hmix (by kernel_rfl) ?_
        | (with_reducible refine draw_fin ?_ ?_); · kernel_rfl
        | (with_reducible refine draw_id ?_); kernel_rfl
        | (with_reducible refine And.intro ?_ ?_; · omega)
    · have hm : pduX x a.ps port = pd0 x 2 := by simp [pduX, k4, kindX, hno]
      rw [hm]
      repeat' first
        | with_reducible rfl
        | simp only [encX, rowS, encPD, hw, k4, ho, hc, pd0, RS_, FB_, segR, ST_, seval, ne_eq, bne, forall_const, implies_true, TY_, WLS]
        | (with_reducible refine drawK_id ?_); refine drawK_auto hmix (by kernel_rfl) ?_
        | (with_reducible refine draw_fin ?_ ?_); · kernel_rfl
        | (with_reducible refine draw_id ?_); kernel_rfl
        | (with_reducible refine And.intro ?_ ?_; · omega)
    · have hm : pduX x a.ps port = pd0 x 2 := by simp [pduX, k4, kindX, hno]
      rw [hm]
      repeat' first
        | with_reducible rfl
        | simp only [encX, rowS, encPD, hw, k4, ho, hc, hd, pd0, RS_, FB_, segR, ST_, seval, ne_eq, bne, forall_const, implies_true, TY_, WLS]
        | (with_reducible refine drawK_id ?_); refine drawK_auto hmix (by kernel_rfl) ?_
        | (with_reducible refine draw_fin ?_ ?_); · kernel_rfl
        | (with_reducible refine draw_id ?_); kernel_rfl
        | (with_reducible refine And.intro ?_ ?_; · omega)
    · have hm : pduX x a.ps port = ownD (pd0 x 2) p.v := by simp [pduX, k4, kindX, hs]
      rw [hm]
      have hps := encPEs_get hp
      have hb0 : (0 : Int) ≤ (i : Int) := by omega
      have hbN : (i : Int) < (a.ps.length : Int) := by omega
      have hw2 := hw.trans hi
      repeat' first
        | with_reducible rfl
        | simp only [encX, rowS, encPD, hw2, k4, ho, hc, hd, hps, hb0, hbN, rP_s, encPE, pd0, ownD, Int.toNat_natCast, RS_, FB_, segR, ST_, seval, ne_eq, bne, forall_const, implies_true, TY_, WLS]
        | (with_reducible refine drawK_id ?_); refine drawK_auto hmix (by kernel_rfl) ?_
        | (with_reducible refine draw_fin ?_ ?_); · kernel_rfl
        | (with_reducible refine draw_id ?_); kernel_rfl
        | (with_reducible refine And.intro ?_ ?_; · omega)
  · rcases key _ (by omega) k4 with ⟨hno, ho | ⟨ho, hc | ⟨hc, hd⟩⟩⟩ | ⟨i, p, ho, hc, hd, hi, hlt, hp, hs⟩
    · have hm : pduX x a.ps port = pd0 x 2 := by simp [pduX, k4, kindX, hno]
      rw [hm]
      repeat' first
        | with_reducible rfl
        | simp only [encX, rowS, encPD, hw, k4, ho, pd0, RS_, FB_, segR, ST_, seval, ne_eq, bne, forall_const, implies_true, TY_, WLS]
        | (with_reducible refine drawK_id ?_); refine drawK_auto hmix (by kernel_rfl) ?_
        | (with_reducible refine draw_fin ?_ ?_); · kernel_rfl
        | (with_reducible refine draw_id ?_); kernel_rfl
        | (with_reducible refine And.intro ?_ ?_; · omega)
    · have hm : pduX x a.ps port = pd0 x 2 := by simp [pduX, k4, kindX, hno]
      rw [hm]
      repeat' first
        | with_reducible rfl
        | simp only [encX, rowS, encPD, hw, k4, ho, hc, pd0, RS_, FB_, segR, ST_, seval, ne_eq, bne, forall_const, implies_true, TY_, WLS]
        | (with_reducible refine drawK_id ?_); refine drawK_auto hmix (by kernel_rfl) ?_
        | (with_reducible refine draw_fin ?_ ?_); · kernel_rfl
        | (with_reducible refine draw_id ?_); kernel_rfl
        | (with_reducible refine And.intro ?_ ?_; · omega)
    · have hm : pduX x a.ps port = pd0 x 2 := by simp [pduX, k4, kindX, hno]
      rw [hm]
      repeat' first
        | with_reducible rfl
        | simp only [encX, rowS, encPD, hw, k4, ho, hc, hd, pd0, RS_, FB_, segR, ST_, seval, ne_eq, bne, forall_const, implies_true, TY_, WLS]
        | (with_reducible refine drawK_id ?_); refine drawK_auto hmix (by kernel_rfl) ?_
        | (with_reducible refine draw_fin ?_ ?_); · kernel_rfl
        | (with_reducible refine draw_id ?_); kernel_rfl
        | (with_reducible refine And.intro ?_ ?_; · omega)
    · have hm : pduX x a.ps port = ownD (pd0 x 2) p.v := by simp [pduX, k4, kindX, hs]
      rw [hm]
      have hps := encPEs_get hp
      have hb0 : (0 : Int) ≤ (i : Int) := by omega
      have hbN : (i : Int) < (a.ps.length : Int) := by omega
      have hw2 := hw.trans hi
      repeat' first
        | with_reducible rfl
        | simp only [encX, rowS, encPD, hw2, k4, ho, hc, hd, hps, hb0, hbN, rP_s, encPE, pd0, ownD, Int.toNat_natCast, RS_, FB_, segR, ST_, seval, ne_eq, bne, forall_const, implies_true, TY_, WLS]
        | (with_reducible refine drawK_id ?_); refine drawK_auto hmix (by kernel_rfl) ?_
        | (with_reducible refine draw_fin ?_ ?_); · kernel_rfl
        | (with_reducible refine draw_id ?_); kernel_rfl
        | (with_reducible refine And.intro ?_ ?_; · omega)
  · rcases key _ (by omega) k4 with ⟨hno, ho | ⟨ho, hc | ⟨hc, hd⟩⟩⟩ | ⟨i, p, ho, hc, hd, hi, hlt, hp, hs⟩
    · have hm : pduX x a.ps port = pd0 x 0 := by simp [pduX, k4, kindX, hno]
      rw [hm]
      repeat' first
        | with_reducible rfl
        | simp only [encX, rowS, encPD, hw, k4, ho, pd0, RS_, FB_, segR, ST_, seval, ne_eq, bne, forall_const, implies_true, TY_, WLS]
        | (with_reducible refine drawK_id ?_); refine drawK_auto hmix (by kernel_rfl) ?_
        | (with_reducible refine draw_fin ?_ ?_); · kernel_rfl
        | (with_reducible refine draw_id ?_); kernel_rfl
        | (with_reducible refine And.intro ?_ ?_; · omega)
    · have hm : pduX x a.ps port = pd0 x 0 := by simp [pduX, k4, kindX, hno]
      rw [hm]
      repeat' first
        | with_reducible rfl
        | simp only [encX, rowS, encPD, hw, k4, ho, hc, pd0, RS_, FB_, segR, ST_, seval, ne_eq, bne, forall_const, implies_true, TY_, WLS]
        | (with_reducible refine drawK_id ?_); refine drawK_auto hmix (by kernel_rfl) ?_
        | (with_reducible refine draw_fin ?_ ?_); · kernel_rfl
        | (with_reducible refine draw_id ?_); kernel_rfl
        | (with_reducible refine And.intro ?_ ?_; · omega)
    · have hm : pduX x a.ps port = pd0 x 0 := by simp [pduX, k4, kindX, hno]
      rw [hm]
      repeat' first
        | with_reducible rfl
        | simp only [encX, rowS, encPD, hw, k4, ho, hc, hd, pd0, RS_, FB_, segR, ST_, seval, ne_eq, bne, forall_const, implies_true, TY_, WLS]
        | (with_reducible refine drawK_id ?_); refine drawK_auto hmix (by kernel_rfl) ?_
        | (with_reducible refine draw_fin ?_ ?_); · kernel_rfl
        | (with_reducible refine draw_id ?_); kernel_rfl
        | (with_reducible refine And.intro ?_ ?_; · omega)
    · have hm : pduX x a.ps port = ownD (pd0 x 0) p.v := by simp [pduX, k4, kindX, hs]
      rw [hm]
      have hps := encPEs_get hp
      have hb0 : (0 : Int) ≤ (i : Int) := by omega
      have hbN : (i : Int) < (a.ps.length : Int) := by omega
      have hw2 := hw.trans hi
      repeat' first
        | with_reducible rfl
        | simp only [encX, rowS, encPD, hw2, k4, ho, hc, hd, hps, hb0, hbN, rP_s, encPE, pd0, ownD, Int.toNat_natCast, RS_, FB_, segR, ST_, seval, ne_eq, bne, forall_const, implies_true, TY_, WLS]
        | (with_reducible refine drawK_id ?_); refine drawK_auto hmix (by kernel_rfl) ?_
        | (with_reducible refine draw_fin ?_ ?_); · kernel_rfl
        | (with_reducible refine draw_id ?_); kernel_rfl
        | (with_reducible refine And.intro ?_ ?_; · omega)
  · have hm : pduX x a.ps port = ⟨128, false, false, false, false, false, false, 0, 0, 0, 0, 0, 0, 0, 0, 0⟩ := by simp [pduX, k4, kindX]
    rw [hm]
    repeat' first
      | with_reducible rfl
      | simp only [encX, rowS, encPD, hw, k4, List.length_nil, RS_, FB_, segR, ST_, seval, ne_eq, bne, forall_const, implies_true, TY_, WLS]
      | (with_reducible refine drawK_id ?_); refine drawK_auto hmix (by kernel_rfl) ?_
      | (with_reducible refine draw_fin ?_ ?_); · kernel_rfl
      | (with_reducible refine draw_id ?_); kernel_rfl
      | (with_reducible refine And.intro ?_ ?_; · omega)
end Go.Ev
