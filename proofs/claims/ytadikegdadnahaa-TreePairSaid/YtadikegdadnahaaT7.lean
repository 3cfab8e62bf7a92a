/- A part of the proof: contracts of the functions that the statement reaches. -/
import Derived.Test.YtadikegdadnahaaT6
namespace Go.Ev
open Go.Proofs
set_option maxRecDepth 100000
set_option linter.unusedSimpArgs false
set_option linter.unusedVariables false
set_option maxHeartbeats 4000000
def chA (a : AS) (i : Nat) (p : PE) : AS := { a with ps := a.ps.set i { p with ch := IntKind.i64.wrap (2 * a.cf.he) } }
def changedA (a : AS) (i : Nat) (p : PE) : AS := if edgeP p then a else sprA (chA a i p) (i : Int) true
def changedI (a : AS) (i : Nat) : AS := match a.ps[i]? with
  | some p => changedA a i p
  | none => a
def tellI2 (a : AS) (i : Nat) : AS := match a.ps[i]? with
  | some p => tellA a i p
  | none => a
theorem changedA_fr (a : AS) (i : Nat) (p : PE) : FrA a.ps.length a (changedA a i p) := by
  unfold changedA
  split
  · exact (FrA.refl a).le (Nat.zero_le _)
  · have := sprA_fr (chA a i p) (i : Int) true
    exact ⟨by rw [this.len]; simp [chA], this.cf, by have h := this.sz; simp [chA, szA] at h ⊢; omega⟩
theorem tellA_fr (a : AS) (i : Nat) (p : PE) : FrA 1 a (tellA a i p) := ⟨rfl, rfl, by simp [tellA, sendA, szA]; omega⟩
theorem changedI_fr (a : AS) (i : Nat) : FrA a.ps.length a (changedI a i) := by
  unfold changedI; split
  · exact changedA_fr _ _ _
  · exact (FrA.refl a).le (Nat.zero_le _)
theorem tellI2_fr (a : AS) (i : Nat) : FrA 1 a (tellI2 a i) := by
  unfold tellI2; split
  · exact tellA_fr _ _ _
  · exact (FrA.refl a).le (Nat.zero_le _)
def allA (f : AS → Nat → AS) (bl : List Bool) (a : AS) : Nat → AS
  | 0 => a
  | i + 1 => if bl[i]? = some true then f (allA f bl a i) i else allA f bl a i
theorem allA_fr {f : AS → Nat → AS} {k n : Nat} (hf : ∀ b i, b.ps.length = n → FrA k b (f b i)) (bl : List Bool) (a : AS) (ha : a.ps.length = n) : ∀ i, FrA (i * k) a (allA f bl a i)
  | 0 => by rw [Nat.zero_mul]; exact .refl a
  | i + 1 => by
    have ih := allA_fr hf bl a ha i
    rw [Nat.succ_mul]
    unfold allA
    split
    · exact ih.trans (hf _ _ (ih.len.trans ha))
    · exact ih.le (by omega)
def sB (x : Bool) : List SV := [.raw (.bool x)]
theorem pull_B (σ : List Nat) (x : Bool) : (sB x).map (pullS σ) = sB x := rfl
theorem push_B (σ : List Nat) (x : Bool) : (sB x).map (pushS σ) = sB x := rfl
def cB (l : List Bool) : Chunk := .rows true 1 (l.map sB)
theorem pullB (σ : List Nat) (g : IV → IV) (l : List Bool) : mapC (pullS σ) g (cB l) = cB l := by
  show Chunk.rows true _ _ = _
  unfold cB
  congr 1
  rw [List.map_map]; rfl
theorem pushB (σ : List Nat) (l : List Bool) : pushC σ (cB l) = cB l := by
  show Chunk.rows true _ _ = _
  unfold cB
  congr 1
  rw [List.map_map]; rfl
theorem mapC_clo (f : SV → SV) (g : IV → IV) (fn : Fn) (a b : List IV) : mapC f g (.clo fn a b) = .clo fn (a.map g) (b.map g) := rfl
theorem pushC_clo (σ : List Nat) (fn : Fn) (a b : List IV) : pushC σ (.clo fn a b) = .clo fn (a.map (push1 σ)) (b.map (push1 σ)) := rfl
def kC (f : Nat) : Chunk := .clo (.func f) [.s (.ptr 0 0 0)] []
def AHB (bl : List Bool) (f : Nat) (a : AS) : Heap := [.rows true 27 [rowA 1 2 3 4 5 6 a], cP a.ps, cV a.vs, cS a.ss, cD a.ds, cT a.told, cF a.fl, cB bl, kC f]
def AHB2 (bl : List Bool) (f : Nat) (a : AS) : Heap := [.rows true 27 [rowA 1 2 3 4 9 10 a], cP a.ps, cV a.vs, cS a.ss, cD a.ds, .gone, .gone, cB bl, kC f, cT a.told, cF a.fl]
theorem c_changed (a : AS) (i : Nat) (p : PE) (hn : a.ps.length ≤ 100) (hp : a.ps[i]? = some p) (hb : szA a ≤ 900000) : FunW Try.prog 35 [] (AH a) [.s (.ptr 0 0 0), .s (.raw (.int .i64 (i : Int)))] fun r Hn => r = .t [] ∧ Hn = AH2 (changedA a i p) := by
  refine funW_of fun X => ?_
  refine callK_inline (rs := []) (n := 29) Try.func35 rfl rfl rfl (by kernel_rfl) (by kernel_rfl) (by simp only [List.length_cons, List.length_nil]; decide) ?_
  unfold AH
  have hlt : i < a.ps.length := (List.getElem?_eq_some_iff.1 hp).1
  have hb0 : (0 : Int) ≤ (i : Int) := by omega
  have hbN : (i : Int) < (a.ps.length : Int) := by omega
  have hpr : (a.ps.map encPE)[i]? = some (encPE p) := by rw [List.getElem?_map, hp]; rfl
  have cs := c_spread (chA a i p) (i : Int) true (by simpa [chA] using hn) hb
  cases he : edgeP p with
  | true =>
    have hcP : ∀ l, cP l = .rows true 21 (l.map encPE) := fun _ => rfl
    repeat' first
      | with_reducible rfl
      | simp only [rowA, hcP, hb0, hbN, hpr, hlt, encPE, List.length_map, Int.toNat_natCast, he, RS_, FB_, segR, ST_, seval, ne_eq, bne, forall_const, implies_true, TY_, WLS]
      | (with_reducible refine drawK_id ?_); refine drawK_auto hmix (by kernel_rfl) ?_
      | (with_reducible refine draw_fin ?_ ?_); · kernel_rfl
      | (with_reducible refine draw_id ?_); kernel_rfl
      | (with_reducible refine callK_id (f := 59) ?_); refine callK_fun (c_Edge p) rfl rfl ?_
      | (with_reducible refine And.intro ?_ ?_; · omega)
    all_goals (refine ⟨.t [], AH2 (changedA a i p), (WkR.can [(17, 0, 0, 25), (1, 0, 0, 26)] [.inl 0, .inl 1, .inl 2, .inl 3, .inl 4, .inl 5, .inl 6, .inr 0, .inr 1] rfl (by simp [patL])).to rfl ?_, by simp [AH2], rfl, rfl⟩; simp [Function.comp_def, get_gcT, get, put, gcI, pullI, push1, pushI, pullS, pushS, gcH, patL, canL, canH, canTL, canT, segR, ix, upd, up1, mapC_rows, mapC_gone, pushC_rows, pushC_gone, pullP, pullV, pullSS, pullD, pullT, pullF, pushP, pushV, pushSS, pushD, pushT, pushF, pullD16, pushD16, AH2, rowA, cT, cF, pull_I, push_I, pull_PE, push_PE, changedA, he, cP, pull_PE])
  | false =>
    have hcP : ∀ l, cP l = .rows true 21 (l.map encPE) := fun _ => rfl
    repeat' first
      | with_reducible rfl
      | simp only [rowA, hcP, hb0, hbN, hpr, hlt, encPE, List.length_map, Int.toNat_natCast, he, RS_, FB_, segR, ST_, seval, ne_eq, bne, forall_const, implies_true, TY_, WLS]
      | (with_reducible refine drawK_id ?_); refine drawK_auto hmix (by kernel_rfl) ?_
      | (with_reducible refine draw_fin ?_ ?_); · kernel_rfl
      | (with_reducible refine draw_id ?_); kernel_rfl
      | (with_reducible refine callK_id (f := 59) ?_); refine callK_fun (c_Edge p) rfl rfl ?_
      | ((with_reducible refine callK_id (f := 29) ?_); refine callK_funW [] [0, 1, 2, 3, 4, 5, 6] (cs) (by simp [AH, Function.comp_def, pullHW, rowA, pullS, ix, pull_PE, mapC_rows, mapC_gone, pushC_rows, pushC_gone, pullP, pullV, pullSS, pullD, pullT, pullF, pushP, pushV, pushSS, pushD, pushT, pushF, pullD16, pushD16, chA, cP, setPE]) rfl rfl (by decide) (by simp [cP, cV, cS, cD, cT, cF]) (by simp [pullI, pullS, ix]) ?_; rintro r Hn ⟨rfl, rfl⟩ -; clear hcP)
      | (with_reducible refine And.intro ?_ ?_; · omega)
    repeat' first
      | with_reducible rfl
      | simp only [AH2, rowA, mapC_rows, mapC_gone, pushC_rows, pushC_gone, pullP, pullV, pullSS, pullD, pullT, pullF, pushP, pushV, pushSS, pushD, pushT, pushF, pullD16, pushD16, pull_I, push_I, RS_, FB_, segR, ST_, seval, ne_eq, bne, forall_const, implies_true, TY_, WLS]
      | (with_reducible refine drawK_id ?_); refine drawK_auto hmix (by kernel_rfl) ?_
      | (with_reducible refine draw_fin ?_ ?_); · kernel_rfl
      | (with_reducible refine draw_id ?_); kernel_rfl
      | (with_reducible refine And.intro ?_ ?_; · omega)
    all_goals (refine ⟨.t [], AH2 (changedA a i p), (WkR.can [(17, 0, 0, 25), (1, 0, 0, 26)] [.inl 0, .inl 1, .inl 2, .inl 3, .inl 4, .inl 5, .inl 6, .inr 0, .inr 1] rfl (by simp [patL])).to rfl ?_, by simp [AH2], rfl, rfl⟩; simp [Function.comp_def, get_gcT, get, put, gcI, pullI, push1, pushI, pullS, pushS, gcH, patL, canL, canH, canTL, canT, segR, ix, upd, up1, mapC_rows, mapC_gone, pushC_rows, pushC_gone, pullP, pullV, pullSS, pullD, pullT, pullF, pushP, pushV, pushSS, pushD, pushT, pushF, pullD16, pushD16, AH2, rowA, cT, cF, pull_I, push_I, pull_PE, push_PE, changedA, he])
def I_c_allC (bl : List Bool) (a : AS) (m : Nat) (tm : TM) (H : Heap) : Prop := ∃ i : Nat, m = bl.length - i ∧ i ≤ bl.length ∧ get tm 1 = .s (.ref 8) ∧ get tm 6 = .s (.slice 7 0 bl.length) ∧ get tm 7 = .s (.raw (.int .i64 bl.length)) ∧ get tm 8 = .s (.raw (.int .i64 (i : Int))) ∧ H = AHB2 bl 35 (allA changedI bl a i)
theorem c_allC (bl : List Bool) (a : AS) (hn : a.ps.length ≤ 100) (hl : bl.length ≤ a.ps.length) (hb : szA a ≤ 800000) : FunW Try.prog 34 [] (AHB bl 35 a) [.s (.slice 7 0 bl.length), .s (.ref 8)] fun r Hn => r = .t [] ∧ Hn = AHB2 bl 35 (allA changedI bl a bl.length) := by
  refine funW_of fun X => ?_
  refine callK_inline (rs := []) (n := 18) Try.func34 rfl rfl rfl (by kernel_rfl) (by kernel_rfl) (by simp only [List.length_cons, List.length_nil]; decide) ?_
  unfold AHB
  repeat' first
    | with_reducible rfl
    | simp only [rowA, List.length_map, RS_, FB_, segR, ST_, seval, ne_eq, bne, forall_const, implies_true, TY_, WLS]
    | with_reducible refine gdb_split (fun h => ?_) (fun h => ?_)
    | (with_reducible refine drawK_id ?_); refine drawK_auto hmix (by kernel_rfl) ?_
    | (with_reducible refine draw_fin ?_ ?_); · kernel_rfl
    | (with_reducible refine draw_id ?_); kernel_rfl
    | (with_reducible refine And.intro ?_ ?_; · omega)
  refine loopK_wk (by kernel_rfl) (I_c_allC bl a) bl.length ⟨_, _, Wk.can [(17, 0, 0, 25), (1, 0, 0, 26)] [.inl 0, .inl 1, .inl 2, .inl 3, .inl 4, .inl 5, .inl 6, .inl 7, .inl 8, .inr 0, .inr 1] rfl (by simp [patL]), 0, by omega, by omega, ?_, ?_, ?_, ?_, ?_⟩ ?_
  · simp [Function.comp_def, get_gcT, get, put, gcI, pullI, push1, pushI, pullS, pushS, gcH, patL, canL, canH, canTL, canT, segR, ix, upd, up1, mapC_rows, mapC_gone, pushC_rows, pushC_gone, pullP, pullV, pullSS, pullD, pullT, pullF, pushP, pushV, pushSS, pushD, pushT, pushF, pullD16, pushD16, pullB, pushB, mapC_clo, pushC_clo, kC, AHB2, rowA, cT, cF, pull_I, push_I, pull_PE, push_PE, pull_B, push_B, allA]
  · simp [Function.comp_def, get_gcT, get, put, gcI, pullI, push1, pushI, pullS, pushS, gcH, patL, canL, canH, canTL, canT, segR, ix, upd, up1, mapC_rows, mapC_gone, pushC_rows, pushC_gone, pullP, pullV, pullSS, pullD, pullT, pullF, pushP, pushV, pushSS, pushD, pushT, pushF, pullD16, pushD16, pullB, pushB, mapC_clo, pushC_clo, kC, AHB2, rowA, cT, cF, pull_I, push_I, pull_PE, push_PE, pull_B, push_B, allA]
  · simp [Function.comp_def, get_gcT, get, put, gcI, pullI, push1, pushI, pullS, pushS, gcH, patL, canL, canH, canTL, canT, segR, ix, upd, up1, mapC_rows, mapC_gone, pushC_rows, pushC_gone, pullP, pullV, pullSS, pullD, pullT, pullF, pushP, pushV, pushSS, pushD, pushT, pushF, pullD16, pushD16, pullB, pushB, mapC_clo, pushC_clo, kC, AHB2, rowA, cT, cF, pull_I, push_I, pull_PE, push_PE, pull_B, push_B, allA]
  · simp [Function.comp_def, get_gcT, get, put, gcI, pullI, push1, pushI, pullS, pushS, gcH, patL, canL, canH, canTL, canT, segR, ix, upd, up1, mapC_rows, mapC_gone, pushC_rows, pushC_gone, pullP, pullV, pullSS, pullD, pullT, pullF, pushP, pushV, pushSS, pushD, pushT, pushF, pullD16, pushD16, pullB, pushB, mapC_clo, pushC_clo, kC, AHB2, rowA, cT, cF, pull_I, push_I, pull_PE, push_PE, pull_B, push_B, allA]
  · simp [Function.comp_def, get_gcT, get, put, gcI, pullI, push1, pushI, pullS, pushS, gcH, patL, canL, canH, canTL, canT, segR, ix, upd, up1, mapC_rows, mapC_gone, pushC_rows, pushC_gone, pullP, pullV, pullSS, pullD, pullT, pullF, pushP, pushV, pushSS, pushD, pushT, pushF, pullD16, pushD16, pullB, pushB, mapC_clo, pushC_clo, kC, AHB2, rowA, cT, cF, pull_I, push_I, pull_PE, push_PE, pull_B, push_B, allA]
  rintro m tm H ⟨i, rfl, hi, g1, g6, g7, g8, rfl⟩
  have fr := allA_fr (f := changedI) (n := a.ps.length) (fun b i h => h ▸ changedI_fr b i) bl a rfl i
  by_cases hq : i < bl.length
  · have q : decide ((i : Int) < (bl.length : Int)) = true := decide_eq_true (by omega)
    have hb0 : (0 : Int) ≤ (i : Int) := by omega
    have hbN : (i : Int) < (bl.length : Int) := by omega
    have hi1 : IntKind.i64.wrap ((i : Int) + 1) = ((i + 1 : Nat) : Int) := by rw [wr_i64 (by omega) (by omega)]; rfl
    obtain ⟨p, hp⟩ : ∃ p, (allA changedI bl a i).ps[i]? = some p := ⟨_, List.getElem?_eq_getElem (by rw [fr.len]; omega)⟩
    obtain ⟨x, hx⟩ : ∃ x, bl[i]? = some x := ⟨_, List.getElem?_eq_getElem hq⟩
    have hxr : (bl.map sB)[i]? = some (sB x) := by rw [List.getElem?_map, hx]; rfl
    have hnx : allA changedI bl a (i + 1) = if x = true then changedI (allA changedI bl a i) i else allA changedI bl a i := by simp only [allA, hx, Option.some.injEq]
    have hbs : szA (allA changedI bl a i) ≤ 850000 := by
      have h1 := fr.sz
      have h2 : i * a.ps.length ≤ 10000 := Nat.mul_le_mul (by omega : i ≤ 100) hn
      omega
    generalize allA changedI bl a i = b at *
    have hbl := fr.len
    clear fr
    have cc := c_changed b i p (by omega) hp (by omega)
    have hm : changedI b i = changedA b i p := by simp only [changedI, hp]
    rw [hm] at hnx
    unfold AHB2
    cases x with
    | true =>
      have hcB : ∀ l, cB l = .rows true 1 (l.map sB) := fun _ => rfl
      simp only [if_true] at hnx
      repeat' first
        | with_reducible rfl
        | simp only [q, hb0, hbN, hi1, hxr, g1, g6, g7, g8, rowA, hcB, sB, kC, List.length_map, Int.toNat_natCast, RS_, FB_, segR, ST_, seval, ne_eq, bne, forall_const, implies_true, TY_, WLS]
        | (with_reducible refine drawK_id ?_); refine drawK_auto hmix (by kernel_rfl) ?_
        | (with_reducible refine draw_fin ?_ ?_); · kernel_rfl
        | (with_reducible refine draw_id ?_); kernel_rfl
        | ((with_reducible refine callK_id (f := 35) ?_); refine callK_funW [] [0, 1, 2, 3, 4, 9, 10] cc (by simp [AH, pullHW, rowA, pullS, ix, pull_PE, mapC_rows, mapC_gone, pushC_rows, pushC_gone, pullP, pullV, pullSS, pullD, pullT, pullF, pushP, pushV, pushSS, pushD, pushT, pushF, pullD16, pushD16]) rfl rfl (by decide) (by simp [cP, cV, cS, cD, cT, cF]) (by simp [pullI, pullS, ix]) ?_; rintro r Hn ⟨rfl, rfl⟩ -; clear hcB)
        | (with_reducible refine And.intro ?_ ?_; · omega)
      repeat' first
        | with_reducible rfl
        | simp only [AH2, rowA, hi1, g8, mapC_rows, mapC_gone, pushC_rows, pushC_gone, pullP, pullV, pullSS, pullD, pullT, pullF, pushP, pushV, pushSS, pushD, pushT, pushF, pullD16, pushD16, pull_I, push_I, pullB, pushB, mapC_clo, pushC_clo, RS_, FB_, segR, ST_, seval, ne_eq, bne, forall_const, implies_true, TY_, WLS]
        | (with_reducible refine drawK_id ?_); refine drawK_auto hmix (by kernel_rfl) ?_
        | (with_reducible refine draw_fin ?_ ?_); · kernel_rfl
        | (with_reducible refine draw_id ?_); kernel_rfl
        | (with_reducible refine And.intro ?_ ?_; · omega)
      refine ⟨bl.length - (i + 1), _, _, by omega, Wk.can [(17, 0, 0, 25), (1, 0, 0, 26)] [.inl 0, .inl 1, .inl 2, .inl 3, .inl 4, .inl 5, .inl 6, .inl 7, .inl 8, .inr 0, .inr 1] rfl (by simp [patL]), i + 1, rfl, by omega, ?_, ?_, ?_, ?_, ?_⟩ <;> first | (simp [Function.comp_def, get_gcT, get, put, gcI, pullI, push1, pushI, pullS, pushS, gcH, patL, canL, canH, canTL, canT, segR, ix, upd, up1, mapC_rows, mapC_gone, pushC_rows, pushC_gone, pullP, pullV, pullSS, pullD, pullT, pullF, pushP, pushV, pushSS, pushD, pushT, pushF, pullD16, pushD16, pullB, pushB, mapC_clo, pushC_clo, kC, AHB2, rowA, cT, cF, pull_I, push_I, pull_PE, push_PE, pull_B, push_B, g1, g6, g7, g8, hnx]; done) | (simp [Function.comp_def, get_gcT, get, put, gcI, pullI, push1, pushI, pullS, pushS, gcH, patL, canL, canH, canTL, canT, segR, ix, upd, up1, mapC_rows, mapC_gone, pushC_rows, pushC_gone, pullP, pullV, pullSS, pullD, pullT, pullF, pushP, pushV, pushSS, pushD, pushT, pushF, pullD16, pushD16, pullB, pushB, mapC_clo, pushC_clo, kC, AHB2, rowA, cT, cF, pull_I, push_I, pull_PE, push_PE, pull_B, push_B, g1, g6, g7, g8, hnx, cB])
    | false =>
      have hcB : ∀ l, cB l = .rows true 1 (l.map sB) := fun _ => rfl
      simp only [Bool.false_eq_true, if_false] at hnx
      repeat' first
        | with_reducible rfl
        | simp only [q, hb0, hbN, hi1, hxr, g1, g6, g7, g8, rowA, hcB, sB, kC, List.length_map, Int.toNat_natCast, RS_, FB_, segR, ST_, seval, ne_eq, bne, forall_const, implies_true, TY_, WLS]
        | (with_reducible refine drawK_id ?_); refine drawK_auto hmix (by kernel_rfl) ?_
        | (with_reducible refine draw_fin ?_ ?_); · kernel_rfl
        | (with_reducible refine draw_id ?_); kernel_rfl
        | ((with_reducible refine callK_id (f := 35) ?_); refine callK_funW [] [0, 1, 2, 3, 4, 9, 10] cc (by simp [AH, pullHW, rowA, pullS, ix, pull_PE, mapC_rows, mapC_gone, pushC_rows, pushC_gone, pullP, pullV, pullSS, pullD, pullT, pullF, pushP, pushV, pushSS, pushD, pushT, pushF, pullD16, pushD16]) rfl rfl (by decide) (by simp [cP, cV, cS, cD, cT, cF]) (by simp [pullI, pullS, ix]) ?_; rintro r Hn ⟨rfl, rfl⟩ -; clear hcB)
        | (with_reducible refine And.intro ?_ ?_; · omega)
      refine ⟨bl.length - (i + 1), _, _, by omega, Wk.can [(17, 0, 0, 25), (1, 0, 0, 26)] [.inl 0, .inl 1, .inl 2, .inl 3, .inl 4, .inl 5, .inl 6, .inl 7, .inl 8, .inr 0, .inr 1] rfl (by simp [patL]), i + 1, rfl, by omega, ?_, ?_, ?_, ?_, ?_⟩ <;> first | (simp [Function.comp_def, get_gcT, get, put, gcI, pullI, push1, pushI, pullS, pushS, gcH, patL, canL, canH, canTL, canT, segR, ix, upd, up1, mapC_rows, mapC_gone, pushC_rows, pushC_gone, pullP, pullV, pullSS, pullD, pullT, pullF, pushP, pushV, pushSS, pushD, pushT, pushF, pullD16, pushD16, pullB, pushB, mapC_clo, pushC_clo, kC, AHB2, rowA, cT, cF, pull_I, push_I, pull_PE, push_PE, pull_B, push_B, g1, g6, g7, g8, hnx]; done) | (simp [Function.comp_def, get_gcT, get, put, gcI, pullI, push1, pushI, pullS, pushS, gcH, patL, canL, canH, canTL, canT, segR, ix, upd, up1, mapC_rows, mapC_gone, pushC_rows, pushC_gone, pullP, pullV, pullSS, pullD, pullT, pullF, pushP, pushV, pushSS, pushD, pushT, pushF, pullD16, pushD16, pullB, pushB, mapC_clo, pushC_clo, kC, AHB2, rowA, cT, cF, pull_I, push_I, pull_PE, push_PE, pull_B, push_B, g1, g6, g7, g8, hnx, cB])
  · have q : decide ((i : Int) < (bl.length : Int)) = false := decide_eq_false (by omega)
    have hin : i = bl.length := by omega
    subst hin
    unfold AHB2
    repeat' first
      | with_reducible rfl
      | simp only [q, g1, g6, g7, g8, rowA, RS_, FB_, segR, ST_, seval, ne_eq, bne, forall_const, implies_true, TY_, WLS]
      | with_reducible refine gdb_split (fun h => ?_) (fun h => ?_)
      | (with_reducible refine drawK_id ?_); refine drawK_auto hmix (by kernel_rfl) ?_
      | (with_reducible refine draw_fin ?_ ?_); · kernel_rfl
      | (with_reducible refine draw_id ?_); kernel_rfl
      | (with_reducible refine And.intro ?_ ?_; · omega)
    all_goals (refine ⟨.t [], AHB2 bl 35 (allA changedI bl a bl.length), (WkR.can [(17, 0, 0, 25), (1, 0, 0, 26)] [.inl 0, .inl 1, .inl 2, .inl 3, .inl 4, .inl 5, .inl 6, .inl 7, .inl 8, .inr 0, .inr 1] rfl (by simp [patL])).to rfl ?_, by simp [AHB2], rfl, rfl⟩; simp [Function.comp_def, get_gcT, get, put, gcI, pullI, push1, pushI, pullS, pushS, gcH, patL, canL, canH, canTL, canT, segR, ix, upd, up1, mapC_rows, mapC_gone, pushC_rows, pushC_gone, pullP, pullV, pullSS, pullD, pullT, pullF, pushP, pushV, pushSS, pushD, pushT, pushF, pullD16, pushD16, pullB, pushB, mapC_clo, pushC_clo, kC, AHB2, rowA, cT, cF, pull_I, push_I, pull_PE, push_PE, pull_B, push_B])
def I_c_allT (bl : List Bool) (a : AS) (m : Nat) (tm : TM) (H : Heap) : Prop := ∃ i : Nat, m = bl.length - i ∧ i ≤ bl.length ∧ get tm 1 = .s (.ref 8) ∧ get tm 6 = .s (.slice 7 0 bl.length) ∧ get tm 7 = .s (.raw (.int .i64 bl.length)) ∧ get tm 8 = .s (.raw (.int .i64 (i : Int))) ∧ H = AHB2 bl 58 (allA tellI2 bl a i)
theorem c_allT (bl : List Bool) (a : AS) (hn : a.ps.length ≤ 100) (hl : bl.length ≤ a.ps.length) (hb : szA a ≤ 800000) : FunW Try.prog 34 [] (AHB bl 58 a) [.s (.slice 7 0 bl.length), .s (.ref 8)] fun r Hn => r = .t [] ∧ Hn = AHB2 bl 58 (allA tellI2 bl a bl.length) := by
  refine funW_of fun X => ?_
  refine callK_inline (rs := []) (n := 18) Try.func34 rfl rfl rfl (by kernel_rfl) (by kernel_rfl) (by simp only [List.length_cons, List.length_nil]; decide) ?_
  unfold AHB
  repeat' first
    | with_reducible rfl
    | simp only [rowA, List.length_map, RS_, FB_, segR, ST_, seval, ne_eq, bne, forall_const, implies_true, TY_, WLS]
    | with_reducible refine gdb_split (fun h => ?_) (fun h => ?_)
    | (with_reducible refine drawK_id ?_); refine drawK_auto hmix (by kernel_rfl) ?_
    | (with_reducible refine draw_fin ?_ ?_); · kernel_rfl
    | (with_reducible refine draw_id ?_); kernel_rfl
    | (with_reducible refine And.intro ?_ ?_; · omega)
  refine loopK_wk (by kernel_rfl) (I_c_allT bl a) bl.length ⟨_, _, Wk.can [(17, 0, 0, 25), (1, 0, 0, 26)] [.inl 0, .inl 1, .inl 2, .inl 3, .inl 4, .inl 5, .inl 6, .inl 7, .inl 8, .inr 0, .inr 1] rfl (by simp [patL]), 0, by omega, by omega, ?_, ?_, ?_, ?_, ?_⟩ ?_
  · simp [Function.comp_def, get_gcT, get, put, gcI, pullI, push1, pushI, pullS, pushS, gcH, patL, canL, canH, canTL, canT, segR, ix, upd, up1, mapC_rows, mapC_gone, pushC_rows, pushC_gone, pullP, pullV, pullSS, pullD, pullT, pullF, pushP, pushV, pushSS, pushD, pushT, pushF, pullD16, pushD16, pullB, pushB, mapC_clo, pushC_clo, kC, AHB2, rowA, cT, cF, pull_I, push_I, pull_PE, push_PE, pull_B, push_B, allA]
  · simp [Function.comp_def, get_gcT, get, put, gcI, pullI, push1, pushI, pullS, pushS, gcH, patL, canL, canH, canTL, canT, segR, ix, upd, up1, mapC_rows, mapC_gone, pushC_rows, pushC_gone, pullP, pullV, pullSS, pullD, pullT, pullF, pushP, pushV, pushSS, pushD, pushT, pushF, pullD16, pushD16, pullB, pushB, mapC_clo, pushC_clo, kC, AHB2, rowA, cT, cF, pull_I, push_I, pull_PE, push_PE, pull_B, push_B, allA]
  · simp [Function.comp_def, get_gcT, get, put, gcI, pullI, push1, pushI, pullS, pushS, gcH, patL, canL, canH, canTL, canT, segR, ix, upd, up1, mapC_rows, mapC_gone, pushC_rows, pushC_gone, pullP, pullV, pullSS, pullD, pullT, pullF, pushP, pushV, pushSS, pushD, pushT, pushF, pullD16, pushD16, pullB, pushB, mapC_clo, pushC_clo, kC, AHB2, rowA, cT, cF, pull_I, push_I, pull_PE, push_PE, pull_B, push_B, allA]
  · simp [Function.comp_def, get_gcT, get, put, gcI, pullI, push1, pushI, pullS, pushS, gcH, patL, canL, canH, canTL, canT, segR, ix, upd, up1, mapC_rows, mapC_gone, pushC_rows, pushC_gone, pullP, pullV, pullSS, pullD, pullT, pullF, pushP, pushV, pushSS, pushD, pushT, pushF, pullD16, pushD16, pullB, pushB, mapC_clo, pushC_clo, kC, AHB2, rowA, cT, cF, pull_I, push_I, pull_PE, push_PE, pull_B, push_B, allA]
  · simp [Function.comp_def, get_gcT, get, put, gcI, pullI, push1, pushI, pullS, pushS, gcH, patL, canL, canH, canTL, canT, segR, ix, upd, up1, mapC_rows, mapC_gone, pushC_rows, pushC_gone, pullP, pullV, pullSS, pullD, pullT, pullF, pushP, pushV, pushSS, pushD, pushT, pushF, pullD16, pushD16, pullB, pushB, mapC_clo, pushC_clo, kC, AHB2, rowA, cT, cF, pull_I, push_I, pull_PE, push_PE, pull_B, push_B, allA]
  rintro m tm H ⟨i, rfl, hi, g1, g6, g7, g8, rfl⟩
  have fr := allA_fr (f := tellI2) (n := a.ps.length) (fun b i h => tellI2_fr b i) bl a rfl i
  by_cases hq : i < bl.length
  · have q : decide ((i : Int) < (bl.length : Int)) = true := decide_eq_true (by omega)
    have hb0 : (0 : Int) ≤ (i : Int) := by omega
    have hbN : (i : Int) < (bl.length : Int) := by omega
    have hi1 : IntKind.i64.wrap ((i : Int) + 1) = ((i + 1 : Nat) : Int) := by rw [wr_i64 (by omega) (by omega)]; rfl
    obtain ⟨p, hp⟩ : ∃ p, (allA tellI2 bl a i).ps[i]? = some p := ⟨_, List.getElem?_eq_getElem (by rw [fr.len]; omega)⟩
    obtain ⟨x, hx⟩ : ∃ x, bl[i]? = some x := ⟨_, List.getElem?_eq_getElem hq⟩
    have hxr : (bl.map sB)[i]? = some (sB x) := by rw [List.getElem?_map, hx]; rfl
    have hnx : allA tellI2 bl a (i + 1) = if x = true then tellI2 (allA tellI2 bl a i) i else allA tellI2 bl a i := by simp only [allA, hx, Option.some.injEq]
    have hbs : szA (allA tellI2 bl a i) ≤ 850000 := by
      have h1 := fr.sz
      have h2 : i * 1 ≤ 100 := by omega
      omega
    generalize allA tellI2 bl a i = b at *
    have hbl := fr.len
    clear fr
    have cc := c_tell b i p (by omega) hp (by have := szA_t b; omega)
    have hm : tellI2 b i = tellA b i p := by simp only [tellI2, hp]
    rw [hm] at hnx
    unfold AHB2
    cases x with
    | true =>
      have hcB : ∀ l, cB l = .rows true 1 (l.map sB) := fun _ => rfl
      simp only [if_true] at hnx
      repeat' first
        | with_reducible rfl
        | simp only [q, hb0, hbN, hi1, hxr, g1, g6, g7, g8, rowA, hcB, sB, kC, List.length_map, Int.toNat_natCast, RS_, FB_, segR, ST_, seval, ne_eq, bne, forall_const, implies_true, TY_, WLS]
        | (with_reducible refine drawK_id ?_); refine drawK_auto hmix (by kernel_rfl) ?_
        | (with_reducible refine draw_fin ?_ ?_); · kernel_rfl
        | (with_reducible refine draw_id ?_); kernel_rfl
        | ((with_reducible refine callK_id (f := 58) ?_); refine callK_funW [] [0, 1, 2, 3, 4, 9, 10] cc (by simp [AH, pullHW, rowA, pullS, ix, pull_PE, mapC_rows, mapC_gone, pushC_rows, pushC_gone, pullP, pullV, pullSS, pullD, pullT, pullF, pushP, pushV, pushSS, pushD, pushT, pushF, pullD16, pushD16]) rfl rfl (by decide) (by simp [cP, cV, cS, cD, cT, cF]) (by simp [pullI, pullS, ix]) ?_; rintro r Hn ⟨rfl, rfl⟩ -; clear hcB)
        | (with_reducible refine And.intro ?_ ?_; · omega)
      repeat' first
        | with_reducible rfl
        | simp only [AH2, rowA, hi1, g8, mapC_rows, mapC_gone, pushC_rows, pushC_gone, pullP, pullV, pullSS, pullD, pullT, pullF, pushP, pushV, pushSS, pushD, pushT, pushF, pullD16, pushD16, pull_I, push_I, pullB, pushB, mapC_clo, pushC_clo, RS_, FB_, segR, ST_, seval, ne_eq, bne, forall_const, implies_true, TY_, WLS]
        | (with_reducible refine drawK_id ?_); refine drawK_auto hmix (by kernel_rfl) ?_
        | (with_reducible refine draw_fin ?_ ?_); · kernel_rfl
        | (with_reducible refine draw_id ?_); kernel_rfl
        | (with_reducible refine And.intro ?_ ?_; · omega)
      refine ⟨bl.length - (i + 1), _, _, by omega, Wk.can [(17, 0, 0, 25), (1, 0, 0, 26)] [.inl 0, .inl 1, .inl 2, .inl 3, .inl 4, .inl 5, .inl 6, .inl 7, .inl 8, .inr 0, .inr 1] rfl (by simp [patL]), i + 1, rfl, by omega, ?_, ?_, ?_, ?_, ?_⟩ <;> first | (simp [Function.comp_def, get_gcT, get, put, gcI, pullI, push1, pushI, pullS, pushS, gcH, patL, canL, canH, canTL, canT, segR, ix, upd, up1, mapC_rows, mapC_gone, pushC_rows, pushC_gone, pullP, pullV, pullSS, pullD, pullT, pullF, pushP, pushV, pushSS, pushD, pushT, pushF, pullD16, pushD16, pullB, pushB, mapC_clo, pushC_clo, kC, AHB2, rowA, cT, cF, pull_I, push_I, pull_PE, push_PE, pull_B, push_B, g1, g6, g7, g8, hnx]; done) | (simp [Function.comp_def, get_gcT, get, put, gcI, pullI, push1, pushI, pullS, pushS, gcH, patL, canL, canH, canTL, canT, segR, ix, upd, up1, mapC_rows, mapC_gone, pushC_rows, pushC_gone, pullP, pullV, pullSS, pullD, pullT, pullF, pushP, pushV, pushSS, pushD, pushT, pushF, pullD16, pushD16, pullB, pushB, mapC_clo, pushC_clo, kC, AHB2, rowA, cT, cF, pull_I, push_I, pull_PE, push_PE, pull_B, push_B, g1, g6, g7, g8, hnx, cB])
    | false =>
      have hcB : ∀ l, cB l = .rows true 1 (l.map sB) := fun _ => rfl
      simp only [Bool.false_eq_true, if_false] at hnx
      repeat' first
        | with_reducible rfl
        | simp only [q, hb0, hbN, hi1, hxr, g1, g6, g7, g8, rowA, hcB, sB, kC, List.length_map, Int.toNat_natCast, RS_, FB_, segR, ST_, seval, ne_eq, bne, forall_const, implies_true, TY_, WLS]
        | (with_reducible refine drawK_id ?_); refine drawK_auto hmix (by kernel_rfl) ?_
        | (with_reducible refine draw_fin ?_ ?_); · kernel_rfl
        | (with_reducible refine draw_id ?_); kernel_rfl
        | ((with_reducible refine callK_id (f := 58) ?_); refine callK_funW [] [0, 1, 2, 3, 4, 9, 10] cc (by simp [AH, pullHW, rowA, pullS, ix, pull_PE, mapC_rows, mapC_gone, pushC_rows, pushC_gone, pullP, pullV, pullSS, pullD, pullT, pullF, pushP, pushV, pushSS, pushD, pushT, pushF, pullD16, pushD16]) rfl rfl (by decide) (by simp [cP, cV, cS, cD, cT, cF]) (by simp [pullI, pullS, ix]) ?_; rintro r Hn ⟨rfl, rfl⟩ -; clear hcB)
        | (with_reducible refine And.intro ?_ ?_; · omega)
      refine ⟨bl.length - (i + 1), _, _, by omega, Wk.can [(17, 0, 0, 25), (1, 0, 0, 26)] [.inl 0, .inl 1, .inl 2, .inl 3, .inl 4, .inl 5, .inl 6, .inl 7, .inl 8, .inr 0, .inr 1] rfl (by simp [patL]), i + 1, rfl, by omega, ?_, ?_, ?_, ?_, ?_⟩ <;> first | (simp [Function.comp_def, get_gcT, get, put, gcI, pullI, push1, pushI, pullS, pushS, gcH, patL, canL, canH, canTL, canT, segR, ix, upd, up1, mapC_rows, mapC_gone, pushC_rows, pushC_gone, pullP, pullV, pullSS, pullD, pullT, pullF, pushP, pushV, pushSS, pushD, pushT, pushF, pullD16, pushD16, pullB, pushB, mapC_clo, pushC_clo, kC, AHB2, rowA, cT, cF, pull_I, push_I, pull_PE, push_PE, pull_B, push_B, g1, g6, g7, g8, hnx]; done) | (simp [Function.comp_def, get_gcT, get, put, gcI, pullI, push1, pushI, pullS, pushS, gcH, patL, canL, canH, canTL, canT, segR, ix, upd, up1, mapC_rows, mapC_gone, pushC_rows, pushC_gone, pullP, pullV, pullSS, pullD, pullT, pullF, pushP, pushV, pushSS, pushD, pushT, pushF, pullD16, pushD16, pullB, pushB, mapC_clo, pushC_clo, kC, AHB2, rowA, cT, cF, pull_I, push_I, pull_PE, push_PE, pull_B, push_B, g1, g6, g7, g8, hnx, cB])
  · have q : decide ((i : Int) < (bl.length : Int)) = false := decide_eq_false (by omega)
    have hin : i = bl.length := by omega
    subst hin
    unfold AHB2
    repeat' first
      | with_reducible rfl
      | simp only [q, g1, g6, g7, g8, rowA, RS_, FB_, segR, ST_, seval, ne_eq, bne, forall_const, implies_true, TY_, WLS]
      | with_reducible refine gdb_split (fun h => ?_) (fun h => ?_)
      | (with_reducible refine drawK_id ?_); refine drawK_auto hmix (by kernel_rfl) ?_
      | (with_reducible refine draw_fin ?_ ?_); · kernel_rfl
      | (with_reducible refine draw_id ?_); kernel_rfl
      | (with_reducible refine And.intro ?_ ?_; · omega)
    all_goals (refine ⟨.t [], AHB2 bl 58 (allA tellI2 bl a bl.length), (WkR.can [(17, 0, 0, 25), (1, 0, 0, 26)] [.inl 0, .inl 1, .inl 2, .inl 3, .inl 4, .inl 5, .inl 6, .inl 7, .inl 8, .inr 0, .inr 1] rfl (by simp [patL])).to rfl ?_, by simp [AHB2], rfl, rfl⟩; simp [Function.comp_def, get_gcT, get, put, gcI, pullI, push1, pushI, pullS, pushS, gcH, patL, canL, canH, canTL, canT, segR, ix, upd, up1, mapC_rows, mapC_gone, pushC_rows, pushC_gone, pullP, pullV, pullSS, pullD, pullT, pullF, pushP, pushV, pushSS, pushD, pushT, pushF, pullD16, pushD16, pullB, pushB, mapC_clo, pushC_clo, kC, AHB2, rowA, cT, cF, pull_I, push_I, pull_PE, push_PE, pull_B, push_B])
end Go.Ev
