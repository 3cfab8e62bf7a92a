/- A part of the proof: contracts of the functions that the statement reaches. -/
import Derived.Test.YtadikegdadnahaaT4
namespace Go.Ev
open Go.Proofs
set_option maxRecDepth 100000
set_option linter.unusedSimpArgs false
set_option linter.unusedVariables false
set_option maxHeartbeats 4000000
def rP (l : List PE) : Chunk := .rows false 21 (l.map encPE)
def rV (l : List (List Value)) : Chunk := .rows false 3 (rawR l)
def rS (l : List (List Value)) : Chunk := .rows false 8 (rawR l)
def rD (l : List (List Value)) : Chunk := .rows false 9 (rawR l)
def rT (l : List TE) : Chunk := .rows false 17 (l.map encTE)
def rF (l : List Int) : Chunk := .rows false 1 (l.map sI)
def AHr (a : AS) : Heap := [.rows false 27 [rowA 1 2 3 4 5 6 a], rP a.ps, rV a.vs, rS a.ss, rD a.ds, rT a.told, rF a.fl]
theorem roC_rows (σ : List Nat) (o : Bool) (k : Nat) (l : List (List SV)) : roC σ (.rows o k l) = .rows false k (l.map fun r => r.map (pullS σ)) := rfl
theorem roP (σ : List Nat) (l : List PE) : roC σ (cP l) = rP l := by
  show Chunk.rows false _ _ = _
  unfold rP
  congr 1
  rw [List.map_map]; rfl
theorem prP (σ : List Nat) (g : IV → IV) (l : List PE) : mapC (pullS σ) g (rP l) = rP l := by
  show Chunk.rows false _ _ = _
  unfold rP
  congr 1
  rw [List.map_map]; rfl
theorem roV (σ : List Nat) (l : List (List Value)) : roC σ (cV l) = rV l := by
  show Chunk.rows false _ _ = _
  unfold rV
  congr 1
  exact rawR_map (pullS σ) (fun _ => rfl) l
theorem prV (σ : List Nat) (g : IV → IV) (l : List (List Value)) : mapC (pullS σ) g (rV l) = rV l := by
  show Chunk.rows false _ _ = _
  unfold rV
  congr 1
  exact rawR_map (pullS σ) (fun _ => rfl) l
theorem roSS (σ : List Nat) (l : List (List Value)) : roC σ (cS l) = rS l := by
  show Chunk.rows false _ _ = _
  unfold rS
  congr 1
  exact rawR_map (pullS σ) (fun _ => rfl) l
theorem prSS (σ : List Nat) (g : IV → IV) (l : List (List Value)) : mapC (pullS σ) g (rS l) = rS l := by
  show Chunk.rows false _ _ = _
  unfold rS
  congr 1
  exact rawR_map (pullS σ) (fun _ => rfl) l
theorem roD (σ : List Nat) (l : List (List Value)) : roC σ (cD l) = rD l := by
  show Chunk.rows false _ _ = _
  unfold rD
  congr 1
  exact rawR_map (pullS σ) (fun _ => rfl) l
theorem prD (σ : List Nat) (g : IV → IV) (l : List (List Value)) : mapC (pullS σ) g (rD l) = rD l := by
  show Chunk.rows false _ _ = _
  unfold rD
  congr 1
  exact rawR_map (pullS σ) (fun _ => rfl) l
theorem roT (σ : List Nat) (l : List TE) : roC σ (cT l) = rT l := by
  show Chunk.rows false _ _ = _
  unfold rT
  congr 1
  rw [List.map_map]; rfl
theorem prT (σ : List Nat) (g : IV → IV) (l : List TE) : mapC (pullS σ) g (rT l) = rT l := by
  show Chunk.rows false _ _ = _
  unfold rT
  congr 1
  rw [List.map_map]; rfl
theorem roF (σ : List Nat) (l : List Int) : roC σ (cF l) = rF l := by
  show Chunk.rows false _ _ = _
  unfold rF
  congr 1
  rw [List.map_map]; rfl
theorem prF (σ : List Nat) (g : IV → IV) (l : List Int) : mapC (pullS σ) g (rF l) = rF l := by
  show Chunk.rows false _ _ = _
  unfold rF
  congr 1
  rw [List.map_map]; rfl
def ageL : List PE → Int
  | [] => 0
  | p :: l => if p.ro == 3 then IntKind.i64.wrap (p.age + 1) else ageL l
def tellD (a : AS) (p : PE) : PD := { pduV p.v with role := 3, top := decide (0 < p.ch), prop := !(p.st == 2), lrn := !(p.st == 0), fwd := p.st == 2, age := IntKind.u16.wrap (ageL a.ps), ma := IntKind.u16.wrap a.cf.ma, he := IntKind.u16.wrap a.cf.he, de := IntKind.u16.wrap a.cf.de }
def tellA (a : AS) (i : Nat) (p : PE) : AS := sendA a ((i : Int) + 1) (tellD a p)
def I_age (a : AS) (m : Nat) (tm : TM) (H : Heap) : Prop := ∃ i : Nat, m = a.ps.length - i ∧ i ≤ a.ps.length ∧ ageL (a.ps.drop i) = ageL a.ps ∧ get tm 9 = .s (.slice 1 0 a.ps.length) ∧ get tm 10 = .s (.raw (.int .i64 a.ps.length)) ∧ get tm 11 = .s (.raw (.int .i64 (i : Int))) ∧ H = AHr a
theorem c_age (a : AS) (hn : a.ps.length ≤ 1000) : FunR Try.prog 69 (AHr a) [.s (.ptr 0 0 0)] (.s (.raw (.int .i64 (ageL a.ps)))) := by
  refine funR_of rfl fun X => ?_
  refine callK_inline (rs := [.tmp 2]) (n := 22) Try.func69 rfl rfl rfl (by kernel_rfl) (by kernel_rfl) (by simp only [List.length_cons, List.length_nil]; decide) ?_
  unfold AHr
  repeat' first
    | with_reducible rfl
    | simp only [rowA, RS_, FB_, mapC, pushC, segR, ST_, seval, ne_eq, bne, forall_const, implies_true, TY_, WLS]
    | with_reducible refine gdb_split (fun h => ?_) (fun h => ?_)
    | (with_reducible refine drawK_id ?_); refine drawK_auto hmix (by kernel_rfl) ?_
    | (with_reducible refine draw_fin ?_ ?_); · kernel_rfl
    | (with_reducible refine draw_id ?_); kernel_rfl
    | (with_reducible refine And.intro ?_ ?_; · omega)
  refine loopK_wk (by kernel_rfl) (I_age a) a.ps.length ⟨_, _, Wk.refl, 0, rfl, by omega, by simp, rfl, rfl, rfl, rfl⟩ ?_
  rintro m tm H ⟨i, rfl, hi, hA, g9, g10, g11, rfl⟩
  unfold AHr
  by_cases hq : i < a.ps.length
  · have q : decide ((i : Int) < (a.ps.length : Int)) = true := decide_eq_true (by omega)
    have hb0 : (0 : Int) ≤ (i : Int) := by omega
    have hbN : (i : Int) < (a.ps.length : Int) := by omega
    have hi1 : IntKind.i64.wrap ((i : Int) + 1) = ((i + 1 : Nat) : Int) := by rw [wr_i64 (by omega) (by omega)]; rfl
    obtain ⟨p, hp⟩ : ∃ p, (a.ps)[i]? = some p := ⟨_, List.getElem?_eq_getElem (by omega)⟩
    have hpr : ((a.ps).map encPE)[i]? = some (encPE p) := by rw [List.getElem?_map, hp]; rfl
    have hdrop : a.ps.drop i = p :: a.ps.drop (i + 1) := by
      obtain ⟨h, e⟩ := List.getElem?_eq_some_iff.1 hp
      rw [List.drop_eq_getElem_cons h, e]
    rw [hdrop] at hA
    cases hr : (p.ro == 3) with
    | true =>
      simp only [ageL, hr, if_true] at hA
      repeat' first
        | with_reducible rfl
        | simp only [rP, q, hb0, hbN, hi1, hpr, encPE, List.length_map, Int.toNat_natCast, g9, g10, g11, hr, hA, RS_, FB_, mapC, pushC, segR, ST_, seval, ne_eq, bne, forall_const, implies_true, TY_, WLS]
        | with_reducible refine gdb_split (fun h => ?_) (fun h => ?_)
        | (with_reducible refine drawK_id ?_); refine drawK_auto hmix (by kernel_rfl) ?_
        | (with_reducible refine draw_fin ?_ ?_); · kernel_rfl
        | (with_reducible refine draw_id ?_); kernel_rfl
        | (with_reducible refine And.intro ?_ ?_; · omega)
    | false =>
      simp only [ageL, hr, Bool.false_eq_true, if_false] at hA
      repeat' first
        | with_reducible rfl
        | simp only [rP, q, hb0, hbN, hi1, hpr, encPE, List.length_map, Int.toNat_natCast, g9, g10, g11, hr, RS_, FB_, mapC, pushC, segR, ST_, seval, ne_eq, bne, forall_const, implies_true, TY_, WLS]
        | with_reducible refine gdb_split (fun h => ?_) (fun h => ?_)
        | (with_reducible refine drawK_id ?_); refine drawK_auto hmix (by kernel_rfl) ?_
        | (with_reducible refine draw_fin ?_ ?_); · kernel_rfl
        | (with_reducible refine draw_id ?_); kernel_rfl
        | (with_reducible refine And.intro ?_ ?_; · omega)
      refine ⟨a.ps.length - (i + 1), _, _, by omega, Wk.gc [0, 1, 2, 3, 4, 5, 6] rfl (by decide), i + 1, rfl, by omega, hA, ?_, ?_, ?_, ?_⟩ <;> simp [Function.comp_def, get_gcT, get, gcI, pullI, pullS, gcH, patL, canL, canH, canTL, canT, segR, ix, mapC_rows, prP, prV, prSS, prD, prT, prF, g9, g10, AHr, rP, pull_PE, rowA]
  · have q : decide ((i : Int) < (a.ps.length : Int)) = false := decide_eq_false (by omega)
    have hin : i = a.ps.length := by omega
    have h0 : ageL a.ps = 0 := by rw [← hA, hin]; simp [ageL]
    repeat' first
      | with_reducible rfl
      | simp only [q, g9, g10, g11, h0, rowA, RS_, FB_, mapC, pushC, segR, ST_, seval, ne_eq, bne, forall_const, implies_true, TY_, WLS]
      | with_reducible refine gdb_split (fun h => ?_) (fun h => ?_)
      | (with_reducible refine drawK_id ?_); refine drawK_auto hmix (by kernel_rfl) ?_
      | (with_reducible refine draw_fin ?_ ?_); · kernel_rfl
      | (with_reducible refine draw_id ?_); kernel_rfl
      | (with_reducible refine And.intro ?_ ?_; · omega)
theorem c_tell (a : AS) (i : Nat) (p : PE) (hn : a.ps.length ≤ 1000) (hp : a.ps[i]? = some p) (hb : a.told.length ≤ 1000000) : FunW Try.prog 58 [] (AH a) [.s (.ptr 0 0 0), .s (.raw (.int .i64 (i : Int)))] fun r Hn => r = .t [] ∧ Hn = AH2 (tellA a i p) := by
  refine funW_of fun X => ?_
  refine callK_inline (rs := []) (n := 67) Try.func58 rfl rfl rfl (by kernel_rfl) (by kernel_rfl) (by simp only [List.length_cons, List.length_nil]; decide) ?_
  unfold AH
  have hlt : i < a.ps.length := (List.getElem?_eq_some_iff.1 hp).1
  have hb0 : (0 : Int) ≤ (i : Int) := by omega
  have hbN : (i : Int) < (a.ps.length : Int) := by omega
  have hi1 : IntKind.i64.wrap ((i : Int) + 1) = (i : Int) + 1 := wr_i64 (by omega) (by omega)
  have hpr : (a.ps.map encPE)[i]? = some (encPE p) := by rw [List.getElem?_map, hp]; rfl
  have hcP : ∀ l, cP l = .rows true 21 (l.map encPE) := fun _ => rfl
  repeat' first
    | with_reducible rfl
    | simp only [rowA, hcP, hb0, hbN, hi1, hpr, hlt, encPE, encPD, pduV, List.length_map, Int.toNat_natCast, RS_, FB_, segR, ST_, seval, ne_eq, bne, forall_const, implies_true, TY_, WLS]
    | (with_reducible refine drawK_id ?_); refine drawK_auto hmix (by kernel_rfl) ?_
    | (with_reducible refine draw_fin ?_ ?_); · kernel_rfl
    | (with_reducible refine draw_id ?_); kernel_rfl
    | (with_reducible refine callK_id (f := 62) ?_); refine callK_fun (c_pdu') rfl rfl ?_
    | ((with_reducible refine callD_id (f := 69) ?_); refine callD_read [0, 1, 2, 3, 4, 5, 6] (c_age a hn) (by simp [AHr, pullH, roC_rows, roP, roV, roSS, roD, roT, roF, rP, cP, rowA, pullS, ix, pull_PE]) (by simp [pullI, pullS, ix]) rfl ?_)
    | ((with_reducible refine callK_id (f := 63) ?_); refine callK_funW [] [0, 1, 2, 3, 4, 5, 6] (c_send a ((i : Int) + 1) (tellD a p) hb) (by simp [AH, Function.comp_def, pullHW, rowA, pullS, ix, pull_PE, mapC_rows, mapC_gone, pushC_rows, pushC_gone, pullP, pullV, pullSS, pullD, pullT, pullF, pushP, pushV, pushSS, pushD, pushT, pushF, pullD16, pushD16, cP]) rfl rfl (by decide) (by simp [cP, cV, cS, cD, cT, cF]) (by simp [pullI, pullS, ix, encPD, tellD, pduV]) ?_; rintro r Hn ⟨rfl, rfl⟩ -; clear hcP)
    | (with_reducible refine And.intro ?_ ?_; · omega)
  repeat' first
    | with_reducible rfl
    | simp only [AH2, rowA, mapC_rows, mapC_gone, pushC_rows, pushC_gone, pullP, pullV, pullSS, pullD, pullT, pullF, pushP, pushV, pushSS, pushD, pushT, pushF, pullD16, pushD16, pull_I, push_I, RS_, FB_, segR, ST_, seval, ne_eq, bne, forall_const, implies_true, TY_, WLS]
    | (with_reducible refine drawK_id ?_); refine drawK_auto hmix (by kernel_rfl) ?_
    | (with_reducible refine draw_fin ?_ ?_); · kernel_rfl
    | (with_reducible refine draw_id ?_); kernel_rfl
    | (with_reducible refine And.intro ?_ ?_; · omega)
  all_goals (refine ⟨.t [], AH2 (tellA a i p), (WkR.can [(17, 0, 0, 25), (1, 0, 0, 26)] [.inl 0, .inl 1, .inl 2, .inl 3, .inl 4, .inl 5, .inl 6, .inr 0, .inr 1] rfl (by simp [patL])).to rfl ?_, by simp [AH2], rfl, rfl⟩; simp [Function.comp_def, get_gcT, get, put, gcI, pullI, push1, pushI, pullS, pushS, gcH, patL, canL, canH, canTL, canT, segR, ix, upd, up1, mapC_rows, mapC_gone, pushC_rows, pushC_gone, pullP, pullV, pullSS, pullD, pullT, pullF, pushP, pushV, pushSS, pushD, pushT, pushF, pullD16, pushD16, AH2, rowA, cT, cF, pull_I, push_I, pull_PE, push_PE, tellA, pushI, push1, pushS, pull_PE, push_PE])
end Go.Ev
