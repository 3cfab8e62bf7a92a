/- A part of the proof: contracts of the functions that the statement reaches. -/
import Derived.Test.YtadikegdadnahaaR3
namespace Go.Ev
open Go.Proofs
set_option maxRecDepth 100000
set_option linter.unusedSimpArgs false
set_option linter.unusedVariables false
set_option maxHeartbeats 4000000
structure CH where
  (r c n : Int)
def chS (self : Int) (ps : List PT) : CH := if 0 < (bestW self ps ps.length).n ∧ (bestW self ps ps.length).v.r < self then ⟨(bestW self ps ps.length).v.r, (bestW self ps ps.length).v.c, (bestW self ps ps.length).n⟩ else ⟨self, 0, 0⟩
def tellI (self : Int) (h : CH) (p : PT) : V4 := ⟨h.r, h.c, self, p.id⟩
def rolesN (self : Int) (h : CH) (ps : List PT) : Nat → List Int
  | 0 => []
  | i + 1 => match ps[i]? with
    | some p => rolesN self h ps i ++ [roleI self h.n ((i : Int) + 1) p (tellI self h p)]
    | none => rolesN self h ps i
def tellsN (self : Int) (h : CH) (ps : List PT) : Nat → List V4
  | 0 => []
  | i + 1 => match ps[i]? with
    | some p => tellsN self h ps i ++ [tellI self h p]
    | none => tellsN self h ps i
theorem rolesN_len (self : Int) (h : CH) (ps : List PT) : ∀ i, i ≤ ps.length → (rolesN self h ps i).length = i
  | 0, _ => rfl
  | i + 1, hi => by
    have : ps[i]? = some ps[i] := List.getElem?_eq_getElem (by omega)
    simp only [rolesN, this, List.length_append, rolesN_len self h ps i (by omega), List.length_cons, List.length_nil]
theorem tellsN_len (self : Int) (h : CH) (ps : List PT) : ∀ i, i ≤ ps.length → (tellsN self h ps i).length = i
  | 0, _ => rfl
  | i + 1, hi => by
    have : ps[i]? = some ps[i] := List.getElem?_eq_getElem (by omega)
    simp only [tellsN, this, List.length_append, tellsN_len self h ps i (by omega), List.length_cons, List.length_nil]
def sI (x : Int) : List SV := [.raw (.int .i64 x)]
theorem pull_I (σ : List Nat) (x : Int) : (sI x).map (pullS σ) = sI x := rfl
theorem push_I (σ : List Nat) (x : Int) : (sI x).map (pushS σ) = sI x := rfl
def I13 (self : Int) (h : CH) (ps : List PT) (m : Nat) (tm : TM) (H : Heap) : Prop := ∃ i : Nat, m = ps.length - i ∧ i ≤ ps.length ∧ get tm 0 = .s (.raw (.int .u64 self)) ∧ get tm 36 = .s (.slice 0 0 ps.length) ∧ get tm 37 = .s (.raw (.int .i64 ps.length)) ∧ get tm 38 = .s (.raw (.int .i64 i)) ∧ get tm 4 = .s (.ptr 1 0 0) ∧ get tm 5 = .s (.ptr 2 0 0) ∧
  H = [.rows false 8 (ps.map encP), .rows true 5 [[.raw (.int .u64 0), .raw (.int .u32 0), .raw (.int .i64 0), .raw (.slice none 0 0), .raw (.slice none 0 0)]], .rows true 5 [[.raw (.int .u64 h.r), .raw (.int .u32 h.c), .raw (.int .i64 h.n), .slice 3 0 i, .slice 4 0 i]], .rows true 1 ((rolesN self h ps i).map sI), .rows true 4 ((tellsN self h ps i).map encV)]
theorem f13 (self : Int) (ps : List PT) (hn : ps.length ≤ 1000) : FunW Try.prog 16 [.rows false 8 (ps.map encP)] [] [.s (.raw (.int .u64 self)), .s (.slice 0 0 ps.length)] (fun r Hn => r = .a [.raw (.int .u64 (chS self ps).r), .raw (.int .u32 (chS self ps).c), .raw (.int .i64 (chS self ps).n), .slice 1 0 ps.length, .slice 2 0 ps.length] ∧ Hn = [.rows true 1 ((rolesN self (chS self ps) ps ps.length).map sI), .rows true 4 ((tellsN self (chS self ps) ps ps.length).map encV)]) := by
  refine funW_of fun X => ?_
  refine callK_inline (rs := [.cell 4 82]) (n := 71) Try.func16 rfl rfl rfl (by kernel_rfl) (by kernel_rfl) (by simp only [List.length_cons, List.length_nil]; decide) ?_
  have f41' := f41 self ps hn
  generalize hb : bestW self ps ps.length = b at f41'
  by_cases c1 : 0 < b.n
  · have d1 : decide (0 < b.n) = true := decide_eq_true c1
    by_cases c2 : b.v.r < self
    · have d2 : decide (b.v.r < self) = true := decide_eq_true c2
      repeat' first
        | with_reducible rfl
        | simp only [encW, d1, d2, List.length_map, RS_, FB_, mapC, pushC, segR, ST_, seval, ne_eq, bne, forall_const, implies_true, TY_, WLS]
        | with_reducible refine gdb_split (fun h => ?_) (fun h => ?_)
        | (with_reducible refine drawK_id ?_); refine drawK_auto hmix (by kernel_rfl) ?_
        | (with_reducible refine draw_fin ?_ ?_); · kernel_rfl
        | (with_reducible refine draw_id ?_); kernel_rfl
        | ((with_reducible refine callK_id (f := 37) ?_); refine callK_funR [0] (r := .a (encW b)) (by simpa [Function.comp_def, pullH, roC, pullS, pullI, ix, pull_P] using f41') rfl ?_)
        | (with_reducible refine And.intro ?_ ?_; · omega)
      obtain ⟨h, hh⟩ : ∃ h : CH, chS self ps = h := ⟨_, rfl⟩
      have hhr : h = ⟨b.v.r, b.v.c, b.n⟩ := by rw [← hh]; simp [chS, hb, c1, c2]
      rw [hh]
      refine loopK_wk (by kernel_rfl) (I13 self h ps) ps.length ⟨_, _, Wk.can [(1, 2, 0, 3), (4, 2, 0, 4)] [.inl 0, .inl 1, .inl 2, .inr 0, .inr 1] rfl (by simp [patL]), 0, rfl, by omega, ?_, ?_, ?_, ?_, ?_, ?_, ?_⟩ ?_
      · simp [Function.comp_def, get_gcT, get, gcI, pullI, pullS, gcH, patL, canL, canH, canTL, canT, segR, mapC, ix, pull_P, pull_V, pull_A]
      · simp [Function.comp_def, get_gcT, get, gcI, pullI, pullS, gcH, patL, canL, canH, canTL, canT, segR, mapC, ix, pull_P, pull_V, pull_A]
      · simp [Function.comp_def, get_gcT, get, gcI, pullI, pullS, gcH, patL, canL, canH, canTL, canT, segR, mapC, ix, pull_P, pull_V, pull_A]
      · simp [Function.comp_def, get_gcT, get, gcI, pullI, pullS, gcH, patL, canL, canH, canTL, canT, segR, mapC, ix, pull_P, pull_V, pull_A]
      · simp [Function.comp_def, get_gcT, get, gcI, pullI, pullS, gcH, patL, canL, canH, canTL, canT, segR, mapC, ix, pull_P, pull_V, pull_A]
      · simp [Function.comp_def, get_gcT, get, gcI, pullI, pullS, gcH, patL, canL, canH, canTL, canT, segR, mapC, ix, pull_P, pull_V, pull_A]
      · simp [Function.comp_def, get_gcT, get, gcI, pullI, pullS, gcH, patL, canL, canH, canTL, canT, segR, mapC, ix, pull_P, pull_V, pull_A, rolesN, tellsN, hhr]
      clear hhr
      rintro m tm H ⟨i, rfl, hi, g0, g36, g37, g38, g4, g5, rfl⟩
      have hi1 : IntKind.i64.wrap ((i : Int) + 1) = (i : Int) + 1 := wr_i64 (by omega) (by omega)
      have lr : ((rolesN self h ps i).map sI).length = i := by rw [List.length_map, rolesN_len self h ps i hi]
      have lt : ((tellsN self h ps i).map encV).length = i := by rw [List.length_map, tellsN_len self h ps i hi]
      by_cases hq : i < ps.length
      · have q : decide ((i : Int) < (ps.length : Int)) = true := decide_eq_true (by omega)
        have hb0 : (0 : Int) ≤ (i : Int) := by omega
        have hbN : (i : Int) < (ps.length : Int) := by omega
        have hB1 : (i + 1) * 8 ≤ 140737488355328 := by omega
        have hB2 : (i + 1) * 32 ≤ 140737488355328 := by omega
        have hB3 : (i + 1) * 24 ≤ 140737488355328 := by omega
        obtain ⟨p, hp⟩ : ∃ p, ps[i]? = some p := ⟨ps[i], by simp [hq]⟩
        have hpr : (ps.map encP)[i]? = some (encP p) := by rw [List.getElem?_map, hp]; rfl
        have hs1 : rolesN self h ps (i + 1) = rolesN self h ps i ++ [roleI self h.n ((i : Int) + 1) p (tellI self h p)] := by simp only [rolesN, hp]
        have hs2 : tellsN self h ps (i + 1) = tellsN self h ps i ++ [tellI self h p] := by simp only [tellsN, hp]
        repeat' first
          | with_reducible rfl
          | simp only [q, hb0, hbN, hB1, hB2, hB3, hpr, hi1, lr, lt, encP, Int.toNat_natCast, g0, g36, g37, g38, g4, g5, RS_, FB_, mapC, pushC, segR, ST_, seval, ne_eq, bne, forall_const, implies_true, TY_, WLS]
          | with_reducible refine gdb_split (fun h => ?_) (fun h => ?_)
          | (with_reducible refine drawK_id ?_); refine drawK_auto hmix (by kernel_rfl) ?_
          | (with_reducible refine draw_fin ?_ ?_); · kernel_rfl
          | (with_reducible refine draw_id ?_); kernel_rfl
          | ((with_reducible refine callD_id (f := 38) ?_); refine callD_read [] (f42R h.r h.c h.n self ((i : Int) + 1) p (tellI self h p)) rfl rfl rfl ?_)
          | (refine ⟨ps.length - (i + 1), _, _, by omega, Wk.can [(1, 2, 0, 3), (4, 2, 0, 4)] [.inl 0, .inl 1, .inl 2, .inr 0, .inr 1] rfl (by simp [patL]), i + 1, rfl, by omega, ?_, ?_, ?_, ?_, ?_, ?_, ?_⟩ <;> first | with_reducible rfl | (simp [Function.comp_def, get_gcT, get, gcI, pullI, pullS, gcH, patL, canL, canH, canTL, canT, segR, mapC, ix, pull_P, pull_V, pull_A, g0, g36, g37, g38, g4, g5]; done) | (simp [Function.comp_def, get_gcT, get, gcI, pullI, pullS, gcH, patL, canL, canH, canTL, canT, segR, mapC, ix, pull_P, pull_V, pull_A, pull_I, lr, lt, rolesN_len self h ps i hi, tellsN_len self h ps i hi, hs1, hs2, sI, encV, tellI]; done))
          | (with_reducible refine And.intro ?_ ?_; · omega)
      · have q : decide ((i : Int) < (ps.length : Int)) = false := decide_eq_false (by omega)
        have hin : i = ps.length := by omega
        subst hin
        repeat' first
          | with_reducible rfl
          | simp only [q, g0, g36, g37, g38, g4, g5, RS_, FB_, mapC, pushC, segR, ST_, seval, ne_eq, bne, forall_const, implies_true, TY_, WLS]
          | with_reducible refine gdb_split (fun h => ?_) (fun h => ?_)
          | (with_reducible refine drawK_id ?_); refine drawK_auto hmix (by kernel_rfl) ?_
          | (with_reducible refine draw_fin ?_ ?_); · kernel_rfl
          | (with_reducible refine draw_id ?_); kernel_rfl
          | (refine ⟨_, _, ?_, ?_, rfl, rfl⟩; · exact (WkR.gc [0, 3, 4] rfl (by decide)).to (by simp [Function.comp_def, get_gcT, get, gcI, pullI, pullS, gcH, patL, canL, canH, canTL, canT, segR, mapC, ix, pull_P, pull_V, pull_A]) (by simp [Function.comp_def, get_gcT, get, gcI, pullI, pullS, gcH, patL, canL, canH, canTL, canT, segR, mapC, ix, pull_P, pull_V, pull_A, pull_I]); all_goals simp)
          | (with_reducible refine And.intro ?_ ?_; · omega)
    · have d2 : decide (b.v.r < self) = false := decide_eq_false c2
      repeat' first
        | with_reducible rfl
        | simp only [encW, d1, d2, List.length_map, RS_, FB_, mapC, pushC, segR, ST_, seval, ne_eq, bne, forall_const, implies_true, TY_, WLS]
        | with_reducible refine gdb_split (fun h => ?_) (fun h => ?_)
        | (with_reducible refine drawK_id ?_); refine drawK_auto hmix (by kernel_rfl) ?_
        | (with_reducible refine draw_fin ?_ ?_); · kernel_rfl
        | (with_reducible refine draw_id ?_); kernel_rfl
        | ((with_reducible refine callK_id (f := 37) ?_); refine callK_funR [0] (r := .a (encW b)) (by simpa [Function.comp_def, pullH, roC, pullS, pullI, ix, pull_P] using f41') rfl ?_)
        | (with_reducible refine And.intro ?_ ?_; · omega)
      obtain ⟨h, hh⟩ : ∃ h : CH, chS self ps = h := ⟨_, rfl⟩
      have hhr : h = ⟨self, 0, 0⟩ := by rw [← hh]; simp [chS, hb, c1, c2]
      rw [hh]
      refine loopK_wk (by kernel_rfl) (I13 self h ps) ps.length ⟨_, _, Wk.can [(1, 2, 0, 3), (4, 2, 0, 4)] [.inl 0, .inl 1, .inl 2, .inr 0, .inr 1] rfl (by simp [patL]), 0, rfl, by omega, ?_, ?_, ?_, ?_, ?_, ?_, ?_⟩ ?_
      · simp [Function.comp_def, get_gcT, get, gcI, pullI, pullS, gcH, patL, canL, canH, canTL, canT, segR, mapC, ix, pull_P, pull_V, pull_A]
      · simp [Function.comp_def, get_gcT, get, gcI, pullI, pullS, gcH, patL, canL, canH, canTL, canT, segR, mapC, ix, pull_P, pull_V, pull_A]
      · simp [Function.comp_def, get_gcT, get, gcI, pullI, pullS, gcH, patL, canL, canH, canTL, canT, segR, mapC, ix, pull_P, pull_V, pull_A]
      · simp [Function.comp_def, get_gcT, get, gcI, pullI, pullS, gcH, patL, canL, canH, canTL, canT, segR, mapC, ix, pull_P, pull_V, pull_A]
      · simp [Function.comp_def, get_gcT, get, gcI, pullI, pullS, gcH, patL, canL, canH, canTL, canT, segR, mapC, ix, pull_P, pull_V, pull_A]
      · simp [Function.comp_def, get_gcT, get, gcI, pullI, pullS, gcH, patL, canL, canH, canTL, canT, segR, mapC, ix, pull_P, pull_V, pull_A]
      · simp [Function.comp_def, get_gcT, get, gcI, pullI, pullS, gcH, patL, canL, canH, canTL, canT, segR, mapC, ix, pull_P, pull_V, pull_A, rolesN, tellsN, hhr]
      clear hhr
      rintro m tm H ⟨i, rfl, hi, g0, g36, g37, g38, g4, g5, rfl⟩
      have hi1 : IntKind.i64.wrap ((i : Int) + 1) = (i : Int) + 1 := wr_i64 (by omega) (by omega)
      have lr : ((rolesN self h ps i).map sI).length = i := by rw [List.length_map, rolesN_len self h ps i hi]
      have lt : ((tellsN self h ps i).map encV).length = i := by rw [List.length_map, tellsN_len self h ps i hi]
      by_cases hq : i < ps.length
      · have q : decide ((i : Int) < (ps.length : Int)) = true := decide_eq_true (by omega)
        have hb0 : (0 : Int) ≤ (i : Int) := by omega
        have hbN : (i : Int) < (ps.length : Int) := by omega
        have hB1 : (i + 1) * 8 ≤ 140737488355328 := by omega
        have hB2 : (i + 1) * 32 ≤ 140737488355328 := by omega
        have hB3 : (i + 1) * 24 ≤ 140737488355328 := by omega
        obtain ⟨p, hp⟩ : ∃ p, ps[i]? = some p := ⟨ps[i], by simp [hq]⟩
        have hpr : (ps.map encP)[i]? = some (encP p) := by rw [List.getElem?_map, hp]; rfl
        have hs1 : rolesN self h ps (i + 1) = rolesN self h ps i ++ [roleI self h.n ((i : Int) + 1) p (tellI self h p)] := by simp only [rolesN, hp]
        have hs2 : tellsN self h ps (i + 1) = tellsN self h ps i ++ [tellI self h p] := by simp only [tellsN, hp]
        repeat' first
          | with_reducible rfl
          | simp only [q, hb0, hbN, hB1, hB2, hB3, hpr, hi1, lr, lt, encP, Int.toNat_natCast, g0, g36, g37, g38, g4, g5, RS_, FB_, mapC, pushC, segR, ST_, seval, ne_eq, bne, forall_const, implies_true, TY_, WLS]
          | with_reducible refine gdb_split (fun h => ?_) (fun h => ?_)
          | (with_reducible refine drawK_id ?_); refine drawK_auto hmix (by kernel_rfl) ?_
          | (with_reducible refine draw_fin ?_ ?_); · kernel_rfl
          | (with_reducible refine draw_id ?_); kernel_rfl
          | ((with_reducible refine callD_id (f := 38) ?_); refine callD_read [] (f42R h.r h.c h.n self ((i : Int) + 1) p (tellI self h p)) rfl rfl rfl ?_)
          | (refine ⟨ps.length - (i + 1), _, _, by omega, Wk.can [(1, 2, 0, 3), (4, 2, 0, 4)] [.inl 0, .inl 1, .inl 2, .inr 0, .inr 1] rfl (by simp [patL]), i + 1, rfl, by omega, ?_, ?_, ?_, ?_, ?_, ?_, ?_⟩ <;> first | with_reducible rfl | (simp [Function.comp_def, get_gcT, get, gcI, pullI, pullS, gcH, patL, canL, canH, canTL, canT, segR, mapC, ix, pull_P, pull_V, pull_A, g0, g36, g37, g38, g4, g5]; done) | (simp [Function.comp_def, get_gcT, get, gcI, pullI, pullS, gcH, patL, canL, canH, canTL, canT, segR, mapC, ix, pull_P, pull_V, pull_A, pull_I, lr, lt, rolesN_len self h ps i hi, tellsN_len self h ps i hi, hs1, hs2, sI, encV, tellI]; done))
          | (with_reducible refine And.intro ?_ ?_; · omega)
      · have q : decide ((i : Int) < (ps.length : Int)) = false := decide_eq_false (by omega)
        have hin : i = ps.length := by omega
        subst hin
        repeat' first
          | with_reducible rfl
          | simp only [q, g0, g36, g37, g38, g4, g5, RS_, FB_, mapC, pushC, segR, ST_, seval, ne_eq, bne, forall_const, implies_true, TY_, WLS]
          | with_reducible refine gdb_split (fun h => ?_) (fun h => ?_)
          | (with_reducible refine drawK_id ?_); refine drawK_auto hmix (by kernel_rfl) ?_
          | (with_reducible refine draw_fin ?_ ?_); · kernel_rfl
          | (with_reducible refine draw_id ?_); kernel_rfl
          | (refine ⟨_, _, ?_, ?_, rfl, rfl⟩; · exact (WkR.gc [0, 3, 4] rfl (by decide)).to (by simp [Function.comp_def, get_gcT, get, gcI, pullI, pullS, gcH, patL, canL, canH, canTL, canT, segR, mapC, ix, pull_P, pull_V, pull_A]) (by simp [Function.comp_def, get_gcT, get, gcI, pullI, pullS, gcH, patL, canL, canH, canTL, canT, segR, mapC, ix, pull_P, pull_V, pull_A, pull_I]); all_goals simp)
          | (with_reducible refine And.intro ?_ ?_; · omega)
  · have d1 : decide (0 < b.n) = false := decide_eq_false c1
    have c2 := trivial
    repeat' first
      | with_reducible rfl
      | simp only [encW, d1, List.length_map, RS_, FB_, mapC, pushC, segR, ST_, seval, ne_eq, bne, forall_const, implies_true, TY_, WLS]
      | with_reducible refine gdb_split (fun h => ?_) (fun h => ?_)
      | (with_reducible refine drawK_id ?_); refine drawK_auto hmix (by kernel_rfl) ?_
      | (with_reducible refine draw_fin ?_ ?_); · kernel_rfl
      | (with_reducible refine draw_id ?_); kernel_rfl
      | ((with_reducible refine callK_id (f := 37) ?_); refine callK_funR [0] (r := .a (encW b)) (by simpa [Function.comp_def, pullH, roC, pullS, pullI, ix, pull_P] using f41') rfl ?_)
      | (with_reducible refine And.intro ?_ ?_; · omega)
    obtain ⟨h, hh⟩ : ∃ h : CH, chS self ps = h := ⟨_, rfl⟩
    have hhr : h = ⟨self, 0, 0⟩ := by rw [← hh]; simp [chS, hb, c1, c2]
    rw [hh]
    refine loopK_wk (by kernel_rfl) (I13 self h ps) ps.length ⟨_, _, Wk.can [(1, 2, 0, 3), (4, 2, 0, 4)] [.inl 0, .inl 1, .inl 2, .inr 0, .inr 1] rfl (by simp [patL]), 0, rfl, by omega, ?_, ?_, ?_, ?_, ?_, ?_, ?_⟩ ?_
    · simp [Function.comp_def, get_gcT, get, gcI, pullI, pullS, gcH, patL, canL, canH, canTL, canT, segR, mapC, ix, pull_P, pull_V, pull_A]
    · simp [Function.comp_def, get_gcT, get, gcI, pullI, pullS, gcH, patL, canL, canH, canTL, canT, segR, mapC, ix, pull_P, pull_V, pull_A]
    · simp [Function.comp_def, get_gcT, get, gcI, pullI, pullS, gcH, patL, canL, canH, canTL, canT, segR, mapC, ix, pull_P, pull_V, pull_A]
    · simp [Function.comp_def, get_gcT, get, gcI, pullI, pullS, gcH, patL, canL, canH, canTL, canT, segR, mapC, ix, pull_P, pull_V, pull_A]
    · simp [Function.comp_def, get_gcT, get, gcI, pullI, pullS, gcH, patL, canL, canH, canTL, canT, segR, mapC, ix, pull_P, pull_V, pull_A]
    · simp [Function.comp_def, get_gcT, get, gcI, pullI, pullS, gcH, patL, canL, canH, canTL, canT, segR, mapC, ix, pull_P, pull_V, pull_A]
    · simp [Function.comp_def, get_gcT, get, gcI, pullI, pullS, gcH, patL, canL, canH, canTL, canT, segR, mapC, ix, pull_P, pull_V, pull_A, rolesN, tellsN, hhr]
    clear hhr
    rintro m tm H ⟨i, rfl, hi, g0, g36, g37, g38, g4, g5, rfl⟩
    have hi1 : IntKind.i64.wrap ((i : Int) + 1) = (i : Int) + 1 := wr_i64 (by omega) (by omega)
    have lr : ((rolesN self h ps i).map sI).length = i := by rw [List.length_map, rolesN_len self h ps i hi]
    have lt : ((tellsN self h ps i).map encV).length = i := by rw [List.length_map, tellsN_len self h ps i hi]
    by_cases hq : i < ps.length
    · have q : decide ((i : Int) < (ps.length : Int)) = true := decide_eq_true (by omega)
      have hb0 : (0 : Int) ≤ (i : Int) := by omega
      have hbN : (i : Int) < (ps.length : Int) := by omega
      have hB1 : (i + 1) * 8 ≤ 140737488355328 := by omega
      have hB2 : (i + 1) * 32 ≤ 140737488355328 := by omega
      have hB3 : (i + 1) * 24 ≤ 140737488355328 := by omega
      obtain ⟨p, hp⟩ : ∃ p, ps[i]? = some p := ⟨ps[i], by simp [hq]⟩
      have hpr : (ps.map encP)[i]? = some (encP p) := by rw [List.getElem?_map, hp]; rfl
      have hs1 : rolesN self h ps (i + 1) = rolesN self h ps i ++ [roleI self h.n ((i : Int) + 1) p (tellI self h p)] := by simp only [rolesN, hp]
      have hs2 : tellsN self h ps (i + 1) = tellsN self h ps i ++ [tellI self h p] := by simp only [tellsN, hp]
      repeat' first
        | with_reducible rfl
        | simp only [q, hb0, hbN, hB1, hB2, hB3, hpr, hi1, lr, lt, encP, Int.toNat_natCast, g0, g36, g37, g38, g4, g5, RS_, FB_, mapC, pushC, segR, ST_, seval, ne_eq, bne, forall_const, implies_true, TY_, WLS]
        | with_reducible refine gdb_split (fun h => ?_) (fun h => ?_)
        | (with_reducible refine drawK_id ?_); refine drawK_auto hmix (by kernel_rfl) ?_
        | (with_reducible refine draw_fin ?_ ?_); · kernel_rfl
        | (with_reducible refine draw_id ?_); kernel_rfl
        | ((with_reducible refine callD_id (f := 38) ?_); refine callD_read [] (f42R h.r h.c h.n self ((i : Int) + 1) p (tellI self h p)) rfl rfl rfl ?_)
        | (refine ⟨ps.length - (i + 1), _, _, by omega, Wk.can [(1, 2, 0, 3), (4, 2, 0, 4)] [.inl 0, .inl 1, .inl 2, .inr 0, .inr 1] rfl (by simp [patL]), i + 1, rfl, by omega, ?_, ?_, ?_, ?_, ?_, ?_, ?_⟩ <;> first | with_reducible rfl | (simp [Function.comp_def, get_gcT, get, gcI, pullI, pullS, gcH, patL, canL, canH, canTL, canT, segR, mapC, ix, pull_P, pull_V, pull_A, g0, g36, g37, g38, g4, g5]; done) | (simp [Function.comp_def, get_gcT, get, gcI, pullI, pullS, gcH, patL, canL, canH, canTL, canT, segR, mapC, ix, pull_P, pull_V, pull_A, pull_I, lr, lt, rolesN_len self h ps i hi, tellsN_len self h ps i hi, hs1, hs2, sI, encV, tellI]; done))
        | (with_reducible refine And.intro ?_ ?_; · omega)
    · have q : decide ((i : Int) < (ps.length : Int)) = false := decide_eq_false (by omega)
      have hin : i = ps.length := by omega
      subst hin
      repeat' first
        | with_reducible rfl
        | simp only [q, g0, g36, g37, g38, g4, g5, RS_, FB_, mapC, pushC, segR, ST_, seval, ne_eq, bne, forall_const, implies_true, TY_, WLS]
        | with_reducible refine gdb_split (fun h => ?_) (fun h => ?_)
        | (with_reducible refine drawK_id ?_); refine drawK_auto hmix (by kernel_rfl) ?_
        | (with_reducible refine draw_fin ?_ ?_); · kernel_rfl
        | (with_reducible refine draw_id ?_); kernel_rfl
        | (refine ⟨_, _, ?_, ?_, rfl, rfl⟩; · exact (WkR.gc [0, 3, 4] rfl (by decide)).to (by simp [Function.comp_def, get_gcT, get, gcI, pullI, pullS, gcH, patL, canL, canH, canTL, canT, segR, mapC, ix, pull_P, pull_V, pull_A]) (by simp [Function.comp_def, get_gcT, get, gcI, pullI, pullS, gcH, patL, canL, canH, canTL, canT, segR, mapC, ix, pull_P, pull_V, pull_A, pull_I]); all_goals simp)
        | (with_reducible refine And.intro ?_ ?_; · omega)
end Go.Ev
