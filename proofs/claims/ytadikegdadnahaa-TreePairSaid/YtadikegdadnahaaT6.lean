/- A part of the proof: contracts of the functions that the statement reaches. -/
import Derived.Test.YtadikegdadnahaaT5
namespace Go.Ev
open Go.Proofs
set_option maxRecDepth 100000
set_option linter.unusedSimpArgs false
set_option linter.unusedVariables false
set_option maxHeartbeats 4000000
theorem setPE {x0 x1 x3 x4 x10 x11 x12 x13 x14 x15 x16 x17 x18 x19 x20 : Int} {x2 x5 x6 x7 x8 x9 : Bool} (l : List PE) (i : Nat) : (l.map encPE).set i [.raw (.int .u16 x0), .raw (.int .i64 x1), .raw (.bool x2), .raw (.int .u32 x3), .raw (.int .i64 x4), .raw (.bool x5), .raw (.bool x6), .raw (.bool x7), .raw (.bool x8), .raw (.bool x9), .raw (.int .i64 x10), .raw (.int .i64 x11), .raw (.int .i64 x12), .raw (.int .u64 x13), .raw (.int .u32 x14), .raw (.int .u64 x15), .raw (.int .u16 x16), .raw (.int .i64 x17), .raw (.int .i64 x18), .raw (.int .i64 x19), .raw (.int .i64 x20)] = (l.set i ⟨x0, x1, x2, x3, x4, x5, x6, x7, x8, x9, x10, x11, x12, ⟨x13, x14, x15, x16⟩, x17, x18, x19, x20⟩).map encPE := by rw [List.map_set]; rfl
def itA (f : AS → Nat → PE → AS) (a : AS) : Nat → AS
  | 0 => a
  | i + 1 => match (itA f a i).ps[i]? with
    | some p => f (itA f a i) i p
    | none => itA f a i
theorem itA_next {f : AS → Nat → PE → AS} {a : AS} {i : Nat} {p : PE} (h : (itA f a i).ps[i]? = some p) : itA f a (i + 1) = f (itA f a i) i p := by simp only [itA, h]
def szA (a : AS) : Nat := a.told.length + a.fl.length
/-- What an act's function leaves as it is; how much more is told. -/
structure FrA (k : Nat) (a b : AS) : Prop where
  len : b.ps.length = a.ps.length
  cf : b.cf = a.cf
  sz : szA b ≤ szA a + k
theorem FrA.refl (a : AS) : FrA 0 a a := ⟨rfl, rfl, by omega⟩
theorem FrA.trans {j k : Nat} {a b c : AS} (h : FrA j a b) (g : FrA k b c) : FrA (j + k) a c := ⟨g.len.trans h.len, g.cf.trans h.cf, by have := h.sz; have := g.sz; omega⟩
theorem FrA.le {j k : Nat} {a b : AS} (h : FrA j a b) (g : j ≤ k) : FrA k a b := ⟨h.len, h.cf, by have := h.sz; omega⟩
theorem itA_fr {f : AS → Nat → PE → AS} {k : Nat} (hf : ∀ b i p, FrA k b (f b i p)) (a : AS) : ∀ i, FrA (i * k) a (itA f a i)
  | 0 => by rw [Nat.zero_mul]; exact .refl a
  | i + 1 => by
    rw [Nat.succ_mul]
    cases h : (itA f a i).ps[i]? with
    | some p => rw [itA_next h]; exact (itA_fr hf a i).trans (hf _ _ _)
    | none => simp only [itA, h]; exact (itA_fr hf a i).le (by omega)
theorem szA_t (a : AS) : a.told.length ≤ szA a := by unfold szA; omega
theorem szA_f (a : AS) : a.fl.length ≤ szA a := by unfold szA; omega
def leadsP (p : PE) : Bool := if p.ro == 3 then true else p.ro == 4
def sprI (but : Int) (al : Bool) (b : AS) (i : Nat) (p : PE) : AS :=
  if (i : Int) == but then b else if onP p then (if edgeP p then b else
    if leadsP p then { b with ps := b.ps.set i { p with ch := IntKind.i64.wrap (2 * b.cf.he) }, fl := b.fl ++ [(i : Int) + 1] }
    else if al then { b with fl := b.fl ++ [(i : Int) + 1] } else b) else b
def sprA (a : AS) (but : Int) (al : Bool) : AS := itA (sprI but al) a a.ps.length
theorem sprI_fr (but : Int) (al : Bool) (b : AS) (i : Nat) (p : PE) : FrA 1 b (sprI but al b i p) := by
  unfold sprI
  repeat' split
  all_goals refine ⟨by simp, rfl, by simp [szA]; try omega⟩
theorem sprA_fr (a : AS) (but : Int) (al : Bool) : FrA a.ps.length a (sprA a but al) := by
  have := itA_fr (sprI_fr but al) a a.ps.length
  rwa [Nat.mul_one] at this
def I_spr (a : AS) (but : Int) (al : Bool) (m : Nat) (tm : TM) (H : Heap) : Prop := ∃ i : Nat, m = a.ps.length - i ∧ i ≤ a.ps.length ∧ get tm 0 = .s (.ptr 0 0 0) ∧ get tm 1 = .s (.raw (.int .i64 but)) ∧ get tm 2 = .s (.raw (.bool al)) ∧ get tm 14 = .s (.raw (.int .i64 a.ps.length)) ∧ get tm 15 = .s (.raw (.int .i64 (i : Int))) ∧ H = AH2 (itA (sprI but al) a i)
theorem c_spread_true (a : AS) (but : Int) (hn : a.ps.length ≤ 100) (hb : szA a ≤ 900000) : FunW Try.prog 29 [] (AH a) [.s (.ptr 0 0 0), .s (.raw (.int .i64 but)), .s (.raw (.bool true))] fun r Hn => r = .t [] ∧ Hn = AH2 (sprA a but true) := by
  refine funW_of fun X => ?_
  refine callK_inline (rs := []) (n := 82) Try.func29 rfl rfl rfl (by kernel_rfl) (by kernel_rfl) (by simp only [List.length_cons, List.length_nil]; decide) ?_
  unfold AH
  repeat' first
    | with_reducible rfl
    | simp only [rowA, RS_, FB_, segR, ST_, seval, ne_eq, bne, forall_const, implies_true, TY_, WLS]
    | with_reducible refine gdb_split (fun h => ?_) (fun h => ?_)
    | (with_reducible refine drawK_id ?_); refine drawK_auto hmix (by kernel_rfl) ?_
    | (with_reducible refine draw_fin ?_ ?_); · kernel_rfl
    | (with_reducible refine draw_id ?_); kernel_rfl
    | (with_reducible refine And.intro ?_ ?_; · omega)
  refine loopK_wk (by kernel_rfl) (I_spr a but true) a.ps.length ⟨_, _, Wk.can [(17, 0, 0, 25), (1, 0, 0, 26)] [.inl 0, .inl 1, .inl 2, .inl 3, .inl 4, .inl 5, .inl 6, .inr 0, .inr 1] rfl (by simp [patL]), 0, by omega, by omega, ?_, ?_, ?_, ?_, ?_, ?_⟩ ?_
  · simp [Function.comp_def, get_gcT, get, put, gcI, pullI, push1, pushI, pullS, pushS, gcH, patL, canL, canH, canTL, canT, segR, ix, upd, up1, mapC_rows, mapC_gone, pushC_rows, pushC_gone, pullP, pullV, pullSS, pullD, pullT, pullF, pushP, pushV, pushSS, pushD, pushT, pushF, pullD16, pushD16, AH2, rowA, cT, cF, pull_I, push_I, pull_PE, push_PE, itA]
  · simp [Function.comp_def, get_gcT, get, put, gcI, pullI, push1, pushI, pullS, pushS, gcH, patL, canL, canH, canTL, canT, segR, ix, upd, up1, mapC_rows, mapC_gone, pushC_rows, pushC_gone, pullP, pullV, pullSS, pullD, pullT, pullF, pushP, pushV, pushSS, pushD, pushT, pushF, pullD16, pushD16, AH2, rowA, cT, cF, pull_I, push_I, pull_PE, push_PE, itA]
  · simp [Function.comp_def, get_gcT, get, put, gcI, pullI, push1, pushI, pullS, pushS, gcH, patL, canL, canH, canTL, canT, segR, ix, upd, up1, mapC_rows, mapC_gone, pushC_rows, pushC_gone, pullP, pullV, pullSS, pullD, pullT, pullF, pushP, pushV, pushSS, pushD, pushT, pushF, pullD16, pushD16, AH2, rowA, cT, cF, pull_I, push_I, pull_PE, push_PE, itA]
  · simp [Function.comp_def, get_gcT, get, put, gcI, pullI, push1, pushI, pullS, pushS, gcH, patL, canL, canH, canTL, canT, segR, ix, upd, up1, mapC_rows, mapC_gone, pushC_rows, pushC_gone, pullP, pullV, pullSS, pullD, pullT, pullF, pushP, pushV, pushSS, pushD, pushT, pushF, pullD16, pushD16, AH2, rowA, cT, cF, pull_I, push_I, pull_PE, push_PE, itA]
  · simp [Function.comp_def, get_gcT, get, put, gcI, pullI, push1, pushI, pullS, pushS, gcH, patL, canL, canH, canTL, canT, segR, ix, upd, up1, mapC_rows, mapC_gone, pushC_rows, pushC_gone, pullP, pullV, pullSS, pullD, pullT, pullF, pushP, pushV, pushSS, pushD, pushT, pushF, pullD16, pushD16, AH2, rowA, cT, cF, pull_I, push_I, pull_PE, push_PE, itA]
  · simp [Function.comp_def, get_gcT, get, put, gcI, pullI, push1, pushI, pullS, pushS, gcH, patL, canL, canH, canTL, canT, segR, ix, upd, up1, mapC_rows, mapC_gone, pushC_rows, pushC_gone, pullP, pullV, pullSS, pullD, pullT, pullF, pushP, pushV, pushSS, pushD, pushT, pushF, pullD16, pushD16, AH2, rowA, cT, cF, pull_I, push_I, pull_PE, push_PE, itA]
  rintro m tm H ⟨i, rfl, hi, g0, g1, g2, g14, g15, rfl⟩
  have fr := itA_fr (sprI_fr but true) a i
  by_cases hq : i < a.ps.length
  · have q : decide ((i : Int) < (a.ps.length : Int)) = true := decide_eq_true (by omega)
    have hb0 : (0 : Int) ≤ (i : Int) := by omega
    have hbN : (i : Int) < (a.ps.length : Int) := by omega
    have hi1 : IntKind.i64.wrap ((i : Int) + 1) = ((i + 1 : Nat) : Int) := by rw [wr_i64 (by omega) (by omega)]; rfl
    obtain ⟨p, hp⟩ : ∃ p, ((itA (sprI but true) a i).ps)[i]? = some p := ⟨_, List.getElem?_eq_getElem (by rw [fr.len]; omega)⟩
    have hpr : (((itA (sprI but true) a i).ps).map encPE)[i]? = some (encPE p) := by rw [List.getElem?_map, hp]; rfl
    have hnx := itA_next hp
    generalize itA (sprI but true) a i = b at *
    have hbl := fr.len
    have hbs : b.fl.length ≤ 1000000 := by have := fr.sz; have := szA_f b; omega
    have hbN' : (i : Int) < (b.ps.length : Int) := by omega
    clear fr
    unfold AH2
    have hcP : ∀ l, cP l = .rows true 21 (l.map encPE) := fun _ => rfl
    repeat' first
      | with_reducible rfl
      | simp only [*, leadsP, rowA, hcP, cF, encPE, List.length_map, Int.toNat_natCast, RS_, FB_, segR, ST_, seval, ne_eq, bne, forall_const, implies_true, TY_, WLS]
      | with_reducible refine gdb_split (fun h => ?_) (fun h => ?_)
      | (with_reducible refine drawK_id ?_); refine drawK_auto hmix (by kernel_rfl) ?_
      | (with_reducible refine draw_fin ?_ ?_); · kernel_rfl
      | (with_reducible refine draw_id ?_); kernel_rfl
      | (with_reducible refine callK_id (f := 14) ?_); refine callK_fun (c_On p) rfl rfl ?_
      | (with_reducible refine callK_id (f := 59) ?_); refine callK_fun (c_Edge p) rfl rfl ?_
      | (with_reducible refine And.intro ?_ ?_; · omega)
    all_goals
      refine ⟨a.ps.length - (i + 1), _, _, by omega, Wk.can [(17, 0, 0, 25), (1, 0, 0, 26)] [.inl 0, .inl 1, .inl 2, .inl 3, .inl 4, .inl 5, .inl 6, .inr 0, .inr 1] rfl (by simp [patL]), i + 1, rfl, by omega, ?_, ?_, ?_, ?_, ?_, ?_⟩ <;> first | (simp [*, Function.comp_def, get_gcT, get, put, gcI, pullI, push1, pushI, pullS, pushS, gcH, patL, canL, canH, canTL, canT, segR, ix, upd, up1, mapC_rows, mapC_gone, pushC_rows, pushC_gone, pullP, pullV, pullSS, pullD, pullT, pullF, pushP, pushV, pushSS, pushD, pushT, pushF, pullD16, pushD16, AH2, rowA, cT, cF, pull_I, push_I, pull_PE, push_PE]; done) | (rw [hnx]; simp [*, Function.comp_def, get_gcT, get, put, gcI, pullI, push1, pushI, pullS, pushS, gcH, patL, canL, canH, canTL, canT, segR, ix, upd, up1, mapC_rows, mapC_gone, pushC_rows, pushC_gone, pullP, pullV, pullSS, pullD, pullT, pullF, pushP, pushV, pushSS, pushD, pushT, pushF, pullD16, pushD16, AH2, rowA, cT, cF, pull_I, push_I, pull_PE, push_PE, cP, setPE, leadsP, sI, sprI])
  · have q : decide ((i : Int) < (a.ps.length : Int)) = false := decide_eq_false (by omega)
    have hin : i = a.ps.length := by omega
    subst hin
    unfold AH2
    repeat' first
      | with_reducible rfl
      | simp only [q, g0, g1, g2, g14, g15, rowA, RS_, FB_, segR, ST_, seval, ne_eq, bne, forall_const, implies_true, TY_, WLS]
      | with_reducible refine gdb_split (fun h => ?_) (fun h => ?_)
      | (with_reducible refine drawK_id ?_); refine drawK_auto hmix (by kernel_rfl) ?_
      | (with_reducible refine draw_fin ?_ ?_); · kernel_rfl
      | (with_reducible refine draw_id ?_); kernel_rfl
      | (with_reducible refine And.intro ?_ ?_; · omega)
    all_goals (refine ⟨.t [], AH2 (sprA a but true), (WkR.can [(17, 0, 0, 25), (1, 0, 0, 26)] [.inl 0, .inl 1, .inl 2, .inl 3, .inl 4, .inl 5, .inl 6, .inr 0, .inr 1] rfl (by simp [patL])).to rfl ?_, by simp [AH2], rfl, rfl⟩; simp [Function.comp_def, get_gcT, get, put, gcI, pullI, push1, pushI, pullS, pushS, gcH, patL, canL, canH, canTL, canT, segR, ix, upd, up1, mapC_rows, mapC_gone, pushC_rows, pushC_gone, pullP, pullV, pullSS, pullD, pullT, pullF, pushP, pushV, pushSS, pushD, pushT, pushF, pullD16, pushD16, AH2, rowA, cT, cF, pull_I, push_I, pull_PE, push_PE, sprA])
theorem c_spread_false (a : AS) (but : Int) (hn : a.ps.length ≤ 100) (hb : szA a ≤ 900000) : FunW Try.prog 29 [] (AH a) [.s (.ptr 0 0 0), .s (.raw (.int .i64 but)), .s (.raw (.bool false))] fun r Hn => r = .t [] ∧ Hn = AH2 (sprA a but false) := by
  refine funW_of fun X => ?_
  refine callK_inline (rs := []) (n := 82) Try.func29 rfl rfl rfl (by kernel_rfl) (by kernel_rfl) (by simp only [List.length_cons, List.length_nil]; decide) ?_
  unfold AH
  repeat' first
    | with_reducible rfl
    | simp only [rowA, RS_, FB_, segR, ST_, seval, ne_eq, bne, forall_const, implies_true, TY_, WLS]
    | with_reducible refine gdb_split (fun h => ?_) (fun h => ?_)
    | (with_reducible refine drawK_id ?_); refine drawK_auto hmix (by kernel_rfl) ?_
    | (with_reducible refine draw_fin ?_ ?_); · kernel_rfl
    | (with_reducible refine draw_id ?_); kernel_rfl
    | (with_reducible refine And.intro ?_ ?_; · omega)
  refine loopK_wk (by kernel_rfl) (I_spr a but false) a.ps.length ⟨_, _, Wk.can [(17, 0, 0, 25), (1, 0, 0, 26)] [.inl 0, .inl 1, .inl 2, .inl 3, .inl 4, .inl 5, .inl 6, .inr 0, .inr 1] rfl (by simp [patL]), 0, by omega, by omega, ?_, ?_, ?_, ?_, ?_, ?_⟩ ?_
  · simp [Function.comp_def, get_gcT, get, put, gcI, pullI, push1, pushI, pullS, pushS, gcH, patL, canL, canH, canTL, canT, segR, ix, upd, up1, mapC_rows, mapC_gone, pushC_rows, pushC_gone, pullP, pullV, pullSS, pullD, pullT, pullF, pushP, pushV, pushSS, pushD, pushT, pushF, pullD16, pushD16, AH2, rowA, cT, cF, pull_I, push_I, pull_PE, push_PE, itA]
  · simp [Function.comp_def, get_gcT, get, put, gcI, pullI, push1, pushI, pullS, pushS, gcH, patL, canL, canH, canTL, canT, segR, ix, upd, up1, mapC_rows, mapC_gone, pushC_rows, pushC_gone, pullP, pullV, pullSS, pullD, pullT, pullF, pushP, pushV, pushSS, pushD, pushT, pushF, pullD16, pushD16, AH2, rowA, cT, cF, pull_I, push_I, pull_PE, push_PE, itA]
  · simp [Function.comp_def, get_gcT, get, put, gcI, pullI, push1, pushI, pullS, pushS, gcH, patL, canL, canH, canTL, canT, segR, ix, upd, up1, mapC_rows, mapC_gone, pushC_rows, pushC_gone, pullP, pullV, pullSS, pullD, pullT, pullF, pushP, pushV, pushSS, pushD, pushT, pushF, pullD16, pushD16, AH2, rowA, cT, cF, pull_I, push_I, pull_PE, push_PE, itA]
  · simp [Function.comp_def, get_gcT, get, put, gcI, pullI, push1, pushI, pullS, pushS, gcH, patL, canL, canH, canTL, canT, segR, ix, upd, up1, mapC_rows, mapC_gone, pushC_rows, pushC_gone, pullP, pullV, pullSS, pullD, pullT, pullF, pushP, pushV, pushSS, pushD, pushT, pushF, pullD16, pushD16, AH2, rowA, cT, cF, pull_I, push_I, pull_PE, push_PE, itA]
  · simp [Function.comp_def, get_gcT, get, put, gcI, pullI, push1, pushI, pullS, pushS, gcH, patL, canL, canH, canTL, canT, segR, ix, upd, up1, mapC_rows, mapC_gone, pushC_rows, pushC_gone, pullP, pullV, pullSS, pullD, pullT, pullF, pushP, pushV, pushSS, pushD, pushT, pushF, pullD16, pushD16, AH2, rowA, cT, cF, pull_I, push_I, pull_PE, push_PE, itA]
  · simp [Function.comp_def, get_gcT, get, put, gcI, pullI, push1, pushI, pullS, pushS, gcH, patL, canL, canH, canTL, canT, segR, ix, upd, up1, mapC_rows, mapC_gone, pushC_rows, pushC_gone, pullP, pullV, pullSS, pullD, pullT, pullF, pushP, pushV, pushSS, pushD, pushT, pushF, pullD16, pushD16, AH2, rowA, cT, cF, pull_I, push_I, pull_PE, push_PE, itA]
  rintro m tm H ⟨i, rfl, hi, g0, g1, g2, g14, g15, rfl⟩
  have fr := itA_fr (sprI_fr but false) a i
  by_cases hq : i < a.ps.length
  · have q : decide ((i : Int) < (a.ps.length : Int)) = true := decide_eq_true (by omega)
    have hb0 : (0 : Int) ≤ (i : Int) := by omega
    have hbN : (i : Int) < (a.ps.length : Int) := by omega
    have hi1 : IntKind.i64.wrap ((i : Int) + 1) = ((i + 1 : Nat) : Int) := by rw [wr_i64 (by omega) (by omega)]; rfl
    obtain ⟨p, hp⟩ : ∃ p, ((itA (sprI but false) a i).ps)[i]? = some p := ⟨_, List.getElem?_eq_getElem (by rw [fr.len]; omega)⟩
    have hpr : (((itA (sprI but false) a i).ps).map encPE)[i]? = some (encPE p) := by rw [List.getElem?_map, hp]; rfl
    have hnx := itA_next hp
    generalize itA (sprI but false) a i = b at *
    have hbl := fr.len
    have hbs : b.fl.length ≤ 1000000 := by have := fr.sz; have := szA_f b; omega
    have hbN' : (i : Int) < (b.ps.length : Int) := by omega
    clear fr
    unfold AH2
    have hcP : ∀ l, cP l = .rows true 21 (l.map encPE) := fun _ => rfl
    repeat' first
      | with_reducible rfl
      | simp only [*, leadsP, rowA, hcP, cF, encPE, List.length_map, Int.toNat_natCast, RS_, FB_, segR, ST_, seval, ne_eq, bne, forall_const, implies_true, TY_, WLS]
      | with_reducible refine gdb_split (fun h => ?_) (fun h => ?_)
      | (with_reducible refine drawK_id ?_); refine drawK_auto hmix (by kernel_rfl) ?_
      | (with_reducible refine draw_fin ?_ ?_); · kernel_rfl
      | (with_reducible refine draw_id ?_); kernel_rfl
      | (with_reducible refine callK_id (f := 14) ?_); refine callK_fun (c_On p) rfl rfl ?_
      | (with_reducible refine callK_id (f := 59) ?_); refine callK_fun (c_Edge p) rfl rfl ?_
      | (with_reducible refine And.intro ?_ ?_; · omega)
    all_goals
      refine ⟨a.ps.length - (i + 1), _, _, by omega, Wk.can [(17, 0, 0, 25), (1, 0, 0, 26)] [.inl 0, .inl 1, .inl 2, .inl 3, .inl 4, .inl 5, .inl 6, .inr 0, .inr 1] rfl (by simp [patL]), i + 1, rfl, by omega, ?_, ?_, ?_, ?_, ?_, ?_⟩ <;> first | (simp [*, Function.comp_def, get_gcT, get, put, gcI, pullI, push1, pushI, pullS, pushS, gcH, patL, canL, canH, canTL, canT, segR, ix, upd, up1, mapC_rows, mapC_gone, pushC_rows, pushC_gone, pullP, pullV, pullSS, pullD, pullT, pullF, pushP, pushV, pushSS, pushD, pushT, pushF, pullD16, pushD16, AH2, rowA, cT, cF, pull_I, push_I, pull_PE, push_PE]; done) | (rw [hnx]; simp [*, Function.comp_def, get_gcT, get, put, gcI, pullI, push1, pushI, pullS, pushS, gcH, patL, canL, canH, canTL, canT, segR, ix, upd, up1, mapC_rows, mapC_gone, pushC_rows, pushC_gone, pullP, pullV, pullSS, pullD, pullT, pullF, pushP, pushV, pushSS, pushD, pushT, pushF, pullD16, pushD16, AH2, rowA, cT, cF, pull_I, push_I, pull_PE, push_PE, cP, setPE, leadsP, sI, sprI])
  · have q : decide ((i : Int) < (a.ps.length : Int)) = false := decide_eq_false (by omega)
    have hin : i = a.ps.length := by omega
    subst hin
    unfold AH2
    repeat' first
      | with_reducible rfl
      | simp only [q, g0, g1, g2, g14, g15, rowA, RS_, FB_, segR, ST_, seval, ne_eq, bne, forall_const, implies_true, TY_, WLS]
      | with_reducible refine gdb_split (fun h => ?_) (fun h => ?_)
      | (with_reducible refine drawK_id ?_); refine drawK_auto hmix (by kernel_rfl) ?_
      | (with_reducible refine draw_fin ?_ ?_); · kernel_rfl
      | (with_reducible refine draw_id ?_); kernel_rfl
      | (with_reducible refine And.intro ?_ ?_; · omega)
    all_goals (refine ⟨.t [], AH2 (sprA a but false), (WkR.can [(17, 0, 0, 25), (1, 0, 0, 26)] [.inl 0, .inl 1, .inl 2, .inl 3, .inl 4, .inl 5, .inl 6, .inr 0, .inr 1] rfl (by simp [patL])).to rfl ?_, by simp [AH2], rfl, rfl⟩; simp [Function.comp_def, get_gcT, get, put, gcI, pullI, push1, pushI, pullS, pushS, gcH, patL, canL, canH, canTL, canT, segR, ix, upd, up1, mapC_rows, mapC_gone, pushC_rows, pushC_gone, pullP, pullV, pullSS, pullD, pullT, pullF, pushP, pushV, pushSS, pushD, pushT, pushF, pullD16, pushD16, AH2, rowA, cT, cF, pull_I, push_I, pull_PE, push_PE, sprA])
theorem c_spread (a : AS) (but : Int) (al : Bool) (hn : a.ps.length ≤ 100) (hb : szA a ≤ 900000) : FunW Try.prog 29 [] (AH a) [.s (.ptr 0 0 0), .s (.raw (.int .i64 but)), .s (.raw (.bool al))] fun r Hn => r = .t [] ∧ Hn = AH2 (sprA a but al) := by
  cases al
  · exact c_spread_false a but hn hb
  · exact c_spread_true a but hn hb
end Go.Ev
