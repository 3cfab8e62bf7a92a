/- A part of the proof: contracts of the functions that the statement reaches. -/
import Derived.Test.YtadikegdadnahaaT23
namespace Go.Ev
open Go.Proofs
set_option maxRecDepth 100000
set_option linter.unusedSimpArgs false
set_option linter.unusedVariables false
set_option maxHeartbeats 4000000
theorem encTE_def (t : TE) : encTE t = .raw (.int .i64 t.port) :: [.raw (.int .u8 t.d.kind), .raw (.bool t.d.top), .raw (.bool t.d.prop), .raw (.bool t.d.lrn), .raw (.bool t.d.fwd), .raw (.bool t.d.agr), .raw (.bool t.d.ack), .raw (.int .u8 t.d.role), .raw (.int .u64 t.d.root), .raw (.int .u32 t.d.cost), .raw (.int .u64 t.d.br), .raw (.int .u16 t.d.port), .raw (.int .u16 t.d.age), .raw (.int .u16 t.d.ma), .raw (.int .u16 t.d.he), .raw (.int .u16 t.d.de)] := rfl
def encTEs (l : List TE) : List (List SV) := l.map encTE
theorem encTEs_len (l : List TE) : (encTEs l).length = l.length := List.length_map _
theorem encTEs_get {l : List TE} {i : Nat} {p : TE} (h : l[i]? = some p) : (encTEs l)[i]? = some (encTE p) := by unfold encTEs; rw [List.getElem?_map, h]; rfl
theorem cT_s (l : List TE) : cT l = .rows true 17 (encTEs l) := rfl
def HrS (a : AS) : Heap := [rP a.ps, rV a.vs, rS a.ss, rD a.ds, rT a.told, rF a.fl]
structure A18 where
  (what port kind role : Int) (f0 f1 f2 f3 : Bool) (v0 v1 v2 v3 age : Int) (own : Bool)
  deriving Inhabited
def encX (x : A18) : List SV := [.raw (.int .u8 x.what), .raw (.int .u8 x.port), .raw (.int .u8 x.kind), .raw (.int .u8 x.role), .raw (.bool x.f0), .raw (.bool x.f1), .raw (.bool x.f2), .raw (.bool x.f3), .raw (.int .u8 x.v0), .raw (.int .u8 x.v1), .raw (.int .u8 x.v2), .raw (.int .u8 x.v3), .raw (.int .u8 x.age), .raw (.bool x.own)]
theorem pull_X (σ : List Nat) (p : A18) : (encX p).map (pullS σ) = encX p := rfl
def kindX (k : Int) : Int := if k == 0 then 2 else if k == 1 then 2 else if k == 2 then 0 else 128
def pd0 (x : A18) (k : Int) : PD := ⟨k, x.f0, if k == 2 then x.f1 else false, false, false, if k == 2 then x.f2 else false, false, if k == 2 then Int.tmod x.role 4 else 0, IntKind.u64.wrap (1 + IntKind.u64.wrap (Int.tmod x.v0 8)), IntKind.u32.wrap (Int.tmod x.v1 5), IntKind.u64.wrap (1 + IntKind.u64.wrap (Int.tmod x.v2 8)), IntKind.u16.wrap (Int.tmod x.v3 4), IntKind.u16.wrap (Int.tmod x.age 14), 0, 0, 0⟩
def ownD (d : PD) (v : V4) : PD := { d with root := v.r, cost := v.c, br := v.b, port := v.p }
def ownO (x : A18) (ps : List PE) (port : Int) : Option PE := if x.own then (if decide (1 ≤ port) then (if decide (port ≤ (ps.length : Int)) then ps[(port - 1).toNat]? else none) else none) else none
def pduX (x : A18) (ps : List PE) (port : Int) : PD :=
  if kindX (Int.tmod x.kind 4) == 128 then ⟨128, false, false, false, false, false, false, 0, 0, 0, 0, 0, 0, 0, 0, 0⟩
  else match ownO x ps port with
    | some p => ownD (pd0 x (kindX (Int.tmod x.kind 4))) p.v
    | none => pd0 x (kindX (Int.tmod x.kind 4))
theorem u16_wrap_ok (x : Int) : 0 ≤ IntKind.u16.wrap x ∧ IntKind.u16.wrap x ≤ 65535 := by
  have : IntKind.u16.wrap x = x % 65536 := by simp [IntKind.wrap, IntKind.signed, IntKind.bits]
  omega
theorem pduX_age (x : A18) (ps : List PE) (port : Int) : 0 ≤ (pduX x ps port).age ∧ (pduX x ps port).age ≤ 65535 := by
  unfold pduX
  split
  · simp
  · split <;> exact u16_wrap_ok _
theorem c_pduOf (x : A18) (hk : 0 ≤ x.kind) (a : AS) (hn : a.ps.length ≤ 100) (port : Int) (hp0 : 0 ≤ port ∧ port ≤ 7) : FunR Try.prog 13 [rP a.ps, rV a.vs, rS a.ss, rD a.ds] [.a (encX x), .a (rowS 0 1 2 3 a), .s (.raw (.int .i64 port))] (.a (encPD (pduX x a.ps port))) := by
  refine funR_of rfl fun X => ?_
  refine callK_inline (rs := [.cell 6 55]) (n := 103) Try.func13 rfl rfl rfl (by kernel_rfl) (by kernel_rfl) (by simp only [List.length_cons, List.length_nil]; decide) ?_
  have hw : IntKind.i64.wrap (port - 1) = port - 1 := wr_i64 (by omega) (by omega)
  have h4 : Int.tmod x.kind 4 = 0 ∨ Int.tmod x.kind 4 = 1 ∨ Int.tmod x.kind 4 = 2 ∨ Int.tmod x.kind 4 = 3 := by
    rw [Int.tmod_eq_emod_of_nonneg hk]; omega
  have key : ∀ k : Int, (k = 0 ∨ k = 1 ∨ k = 2 ∨ k = 3) → Int.tmod x.kind 4 = k → ((ownO x a.ps port = none ∧ (x.own = false ∨ x.own = true ∧ (decide (1 ≤ port) = false ∨ decide (1 ≤ port) = true ∧ decide (port ≤ (a.ps.length : Int)) = false))) ∨ ∃ (i : Nat) (p : PE), x.own = true ∧ decide (1 ≤ port) = true ∧ decide (port ≤ (a.ps.length : Int)) = true ∧ port - 1 = (i : Int) ∧ i < a.ps.length ∧ a.ps[i]? = some p ∧ ownO x a.ps port = some p) := fun k _ _ => by
    unfold ownO
    cases h1 : x.own with
    | false => exact .inl ⟨rfl, .inl rfl⟩
    | true =>
      cases h2 : decide (1 ≤ port) with
      | false => exact .inl ⟨rfl, .inr ⟨rfl, .inl rfl⟩⟩
      | true =>
        cases h3 : decide (port ≤ (a.ps.length : Int)) with
        | false => exact .inl ⟨rfl, .inr ⟨rfl, .inr ⟨rfl, rfl⟩⟩⟩
        | true =>
          have a1 := of_decide_eq_true h2
          have a2 := of_decide_eq_true h3
          obtain ⟨p, hp⟩ : ∃ p, a.ps[(port - 1).toNat]? = some p := ⟨_, List.getElem?_eq_getElem (by omega)⟩
          exact .inr ⟨(port - 1).toNat, p, rfl, rfl, rfl, by omega, by omega, hp, by simp only [if_true]; exact hp⟩
  rcases h4 with k4 | k4 | k4 | k4
  · rcases key _ (by omega) k4 with ⟨hno, ho | ⟨ho, hc | ⟨hc, hd⟩⟩⟩ | ⟨i, p, ho, hc, hd, hi, hlt, hp, hs⟩
    · have hm : pduX x a.ps port = pd0 x 2 := by simp [pduX, k4, kindX, hno]
      rw [hm]
      repeat' first
        | with_reducible rfl
        | simp only [encX, rowS, encPD, hw, k4, ho, pd0, RS_, FB_, segR, ST_, seval, ne_eq, bne, forall_const, implies_true, TY_, WLS]
        | (with_reducible refine drawK_id ?_); refine drawK_auto hmix (by kernel_rfl) ?_
        | (with_reducible refine draw_fin ?_ ?_); · kernel_rfl
        | (with_reducible refine draw_id ?_); kernel_rfl
        | (with_reducible refine And.intro ?_ ?_; · omega)
    · have hm : pduX x a.ps port = pd0 x 2 := by simp [pduX, k4, kindX, hno]
      rw [hm]
      repeat' first
        | with_reducible rfl
        | simp only [encX, rowS, encPD, hw, k4, ho, hc, pd0, RS_, FB_, segR, ST_, seval, ne_eq, bne, forall_const, implies_true, TY_, WLS]
        | (with_reducible refine drawK_id ?_); refine drawK_auto hmix (by kernel_rfl) ?_
        | (with_reducible refine draw_fin ?_ ?_); · kernel_rfl
        | (with_reducible refine draw_id ?_); kernel_rfl
        | (with_reducible refine And.intro ?_ ?_; · omega)
    · have hm : pduX x a.ps port = pd0 x 2 := by simp [pduX, k4, kindX, hno]
      rw [hm]
      repeat' first
        | with_reducible rfl
        | simp only [encX, rowS, encPD, hw, k4, ho, hc, hd, pd0, RS_, FB_, segR, ST_, seval, ne_eq, bne, forall_const, implies_true, TY_, WLS]
        | (with_reducible refine drawK_id ?_); refine drawK_auto hmix (by kernel_rfl) ?_
        | (with_reducible refine draw_fin ?_ ?_); · kernel_rfl
        | (with_reducible refine draw_id ?_); kernel_rfl
        | (with_reducible refine And.intro ?_ ?_; · omega)
    · have hm : pduX x a.ps port = ownD (pd0 x 2) p.v := by simp [pduX, k4, kindX, hs]
      rw [hm]
      have hps := encPEs_get hp
      have hb0 : (0 : Int) ≤ (i : Int) := by omega
      have hbN : (i : Int) < (a.ps.length : Int) := by omega
      have hw2 := hw.trans hi
      repeat' first
        | with_reducible rfl
        | simp only [encX, rowS, encPD, hw2, k4, ho, hc, hd, hps, hb0, hbN, rP_s, encPE, pd0, ownD, Int.toNat_natCast, RS_, FB_, segR, ST_, seval, ne_eq, bne, forall_const, implies_true, TY_, WLS]
        | (with_reducible refine drawK_id ?_); refine drawK_auto hmix (by kernel_rfl) ?_
        | (with_reducible refine draw_fin ?_ ?_); · kernel_rfl
        | (with_reducible refine draw_id ?_); kernel_rfl
        | (with_reducible refine And.intro ?_ ?_; · omega)
  · rcases key _ (by omega) k4 with ⟨hno, ho | ⟨ho, hc | ⟨hc, hd⟩⟩⟩ | ⟨i, p, ho, hc, hd, hi, hlt, hp, hs⟩
    · have hm : pduX x a.ps port = pd0 x 2 := by simp [pduX, k4, kindX, hno]
      rw [hm]
      repeat' first
        | with_reducible rfl
        | simp only [encX, rowS, encPD, hw, k4, ho, pd0, RS_, FB_, segR, ST_, seval, ne_eq, bne, forall_const, implies_true, TY_, WLS]
        | (with_reducible refine drawK_id ?_); refine drawK_auto hmix (by kernel_rfl) ?_
        | (with_reducible refine draw_fin ?_ ?_); · kernel_rfl
        | (with_reducible refine draw_id ?_); kernel_rfl
        | (with_reducible refine And.intro ?_ ?_; · omega)
    · have hm : pduX x a.ps port = pd0 x 2 := by simp [pduX, k4, kindX, hno]
      rw [hm]
      repeat' first
        | with_reducible rfl
        | simp only [encX, rowS, encPD, hw, k4, ho, hc, pd0, RS_, FB_, segR, ST_, seval, ne_eq, bne, forall_const, implies_true, TY_, WLS]
        | (with_reducible refine drawK_id ?_); refine drawK_auto hmix (by kernel_rfl) ?_
        | (with_reducible refine draw_fin ?_ ?_); · kernel_rfl
        | (with_reducible refine draw_id ?_); kernel_rfl
        | (with_reducible refine And.intro ?_ ?_; · omega)
    · have hm : pduX x a.ps port = pd0 x 2 := by simp [pduX, k4, kindX, hno]
      rw [hm]
      repeat' first
        | with_reducible rfl
        | simp only [encX, rowS, encPD, hw, k4, ho, hc, hd, pd0, RS_, FB_, segR, ST_, seval, ne_eq, bne, forall_const, implies_true, TY_, WLS]
        | (with_reducible refine drawK_id ?_); refine drawK_auto hmix (by kernel_rfl) ?_
        | (with_reducible refine draw_fin ?_ ?_); · kernel_rfl
        | (with_reducible refine draw_id ?_); kernel_rfl
        | (with_reducible refine And.intro ?_ ?_; · omega)
    · have hm : pduX x a.ps port = ownD (pd0 x 2) p.v := by simp [pduX, k4, kindX, hs]
      rw [hm]
      have hps := encPEs_get hp
      have hb0 : (0 : Int) ≤ (i : Int) := by omega
      have hbN : (i : Int) < (a.ps.length : Int) := by omega
      have hw2 := hw.trans hi
      repeat' first
        | with_reducible rfl
        | simp only [encX, rowS, encPD, hw2, k4, ho, hc, hd, hps, hb0, hbN, rP_s, encPE, pd0, ownD, Int.toNat_natCast, RS_, FB_, segR, ST_, seval, ne_eq, bne, forall_const, implies_true, TY_, WLS]
        | (with_reducible refine drawK_id ?_); refine drawK_auto hmix (by kernel_rfl) ?_
        | (with_reducible refine draw_fin ?_ ?_); · kernel_rfl
        | (with_reducible refine draw_id ?_); kernel_rfl
        | (with_reducible refine And.intro ?_ ?_; · omega)
  · rcases key _ (by omega) k4 with ⟨hno, ho | ⟨ho, hc | ⟨hc, hd⟩⟩⟩ | ⟨i, p, ho, hc, hd, hi, hlt, hp, hs⟩
    · have hm : pduX x a.ps port = pd0 x 0 := by simp [pduX, k4, kindX, hno]
      rw [hm]
      repeat' first
        | with_reducible rfl
        | simp only [encX, rowS, encPD, hw, k4, ho, pd0, RS_, FB_, segR, ST_, seval, ne_eq, bne, forall_const, implies_true, TY_, WLS]
        | (with_reducible refine drawK_id ?_); refine drawK_auto hmix (by kernel_rfl) ?_
        | (with_reducible refine draw_fin ?_ ?_); · kernel_rfl
        | (with_reducible refine draw_id ?_); kernel_rfl
        | (with_reducible refine And.intro ?_ ?_; · omega)
    · have hm : pduX x a.ps port = pd0 x 0 := by simp [pduX, k4, kindX, hno]
      rw [hm]
      repeat' first
        | with_reducible rfl
        | simp only [encX, rowS, encPD, hw, k4, ho, hc, pd0, RS_, FB_, segR, ST_, seval, ne_eq, bne, forall_const, implies_true, TY_, WLS]
        | (with_reducible refine drawK_id ?_); refine drawK_auto hmix (by kernel_rfl) ?_
        | (with_reducible refine draw_fin ?_ ?_); · kernel_rfl
        | (with_reducible refine draw_id ?_); kernel_rfl
        | (with_reducible refine And.intro ?_ ?_; · omega)
    · have hm : pduX x a.ps port = pd0 x 0 := by simp [pduX, k4, kindX, hno]
      rw [hm]
      repeat' first
        | with_reducible rfl
        | simp only [encX, rowS, encPD, hw, k4, ho, hc, hd, pd0, RS_, FB_, segR, ST_, seval, ne_eq, bne, forall_const, implies_true, TY_, WLS]
        | (with_reducible refine drawK_id ?_); refine drawK_auto hmix (by kernel_rfl) ?_
        | (with_reducible refine draw_fin ?_ ?_); · kernel_rfl
        | (with_reducible refine draw_id ?_); kernel_rfl
        | (with_reducible refine And.intro ?_ ?_; · omega)
    · have hm : pduX x a.ps port = ownD (pd0 x 0) p.v := by simp [pduX, k4, kindX, hs]
      rw [hm]
      have hps := encPEs_get hp
      have hb0 : (0 : Int) ≤ (i : Int) := by omega
      have hbN : (i : Int) < (a.ps.length : Int) := by omega
      have hw2 := hw.trans hi
      repeat' first
        | with_reducible rfl
        | simp only [encX, rowS, encPD, hw2, k4, ho, hc, hd, hps, hb0, hbN, rP_s, encPE, pd0, ownD, Int.toNat_natCast, RS_, FB_, segR, ST_, seval, ne_eq, bne, forall_const, implies_true, TY_, WLS]
        | (with_reducible refine drawK_id ?_); refine drawK_auto hmix (by kernel_rfl) ?_
        | (with_reducible refine draw_fin ?_ ?_); · kernel_rfl
        | (with_reducible refine draw_id ?_); kernel_rfl
        | (with_reducible refine And.intro ?_ ?_; · omega)
  · have hm : pduX x a.ps port = ⟨128, false, false, false, false, false, false, 0, 0, 0, 0, 0, 0, 0, 0, 0⟩ := by simp [pduX, k4, kindX]
    rw [hm]
    repeat' first
      | with_reducible rfl
      | simp only [encX, rowS, encPD, hw, k4, List.length_nil, RS_, FB_, segR, ST_, seval, ne_eq, bne, forall_const, implies_true, TY_, WLS]
      | (with_reducible refine drawK_id ?_); refine drawK_auto hmix (by kernel_rfl) ?_
      | (with_reducible refine draw_fin ?_ ?_); · kernel_rfl
      | (with_reducible refine draw_id ?_); kernel_rfl
      | (with_reducible refine And.intro ?_ ?_; · omega)
end Go.Ev
