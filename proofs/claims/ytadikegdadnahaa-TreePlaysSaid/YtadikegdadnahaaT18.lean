/- A part of the proof: contracts of the functions that the statement reaches. -/
import Derived.Test.YtadikegdadnahaaT17
namespace Go.Ev
open Go.Proofs
set_option maxRecDepth 100000
set_option linter.unusedSimpArgs false
set_option linter.unusedVariables false
set_option maxHeartbeats 4000000
def ttD (p : PE) (g : Int) : PD := { pduV p.v with role := 3, top := decide (0 < p.ch), prop := !(p.st == 2), lrn := !(p.st == 0), fwd := p.st == 2, age := g }
theorem w16_0 : IntKind.u16.wrap 0 = 0 := rfl
def I_tt (a : AS) (j : Nat) (p : PE) (m : Nat) (tm : TM) (H : Heap) : Prop := ∃ i : Nat, m = i ∧ i ≤ a.ps.length ∧ get tm 0 = .s (.ptr 0 0 0) ∧ get tm 1 = .s (.raw (.int .i64 (j : Int))) ∧ get tm 5 = .s (.ptr 7 0 0) ∧ get tm 6 = .s (.raw (.int .i64 ((i : Int) - 1))) ∧ H = AH a ++ [.rows true 16 [encPD (ttD p (IntKind.u16.wrap (ageL (a.ps.drop i))))]]
theorem c_ttell (a : AS) (j : Nat) (p : PE) (hn : a.ps.length ≤ 100) (hp : a.ps[j]? = some p) (hst : 0 ≤ p.st) (hb : a.told.length ≤ 1000000) : FunW Try.prog 45 [] (AH a) [.s (.ptr 0 0 0), .s (.raw (.int .i64 (j : Int)))] fun r Hn => r = .t [] ∧ Hn = AH2 (tellA a j p) := by
  refine funW_of fun X => ?_
  refine callK_inline (rs := []) (n := 105) Try.func45 rfl rfl rfl (by kernel_rfl) (by kernel_rfl) (by simp only [List.length_cons, List.length_nil]; decide) ?_
  unfold AH
  have hlt : j < a.ps.length := (List.getElem?_eq_some_iff.1 hp).1
  have hb0 : (0 : Int) ≤ (j : Int) := by omega
  have hbN : (j : Int) < (a.ps.length : Int) := by omega
  have hps := encPEs_get hp
  have hcP := cP_s
  have hl : decide (0 < p.st) = !(p.st == 0) := by
    by_cases h : p.st = 0
    · simp [h]
    · have h1 : (p.st == 0) = false := by simpa using h
      rw [h1]; simp; omega
  have hn1 : IntKind.i64.wrap ((a.ps.length : Int) - 1) = (a.ps.length : Int) - 1 := wr_i64 (by omega) (by omega)
  repeat' first
    | with_reducible rfl
    | simp only [rowA, hcP, encPEs_len, hb0, hbN, hps, hlt, hl, hn1, encPE, Int.toNat_natCast, pduV, encPD, RS_, FB_, segR, ST_, seval, ne_eq, bne, forall_const, implies_true, TY_, WLS]
    | (with_reducible refine drawK_id ?_); refine drawK_auto hmix (by kernel_rfl) ?_
    | (with_reducible refine draw_fin ?_ ?_); · kernel_rfl
    | (with_reducible refine draw_id ?_); kernel_rfl
    | (with_reducible refine callK_id (f := 46) ?_); refine callK_fun (c_with') rfl rfl ?_
    | (with_reducible refine And.intro ?_ ?_; · omega)
  refine loopK_wk (by kernel_rfl) (I_tt a j p) a.ps.length ⟨_, _, Wk.gc [0, 1, 2, 3, 4, 5, 6, 8] rfl (by decide), a.ps.length, rfl, by omega, ?_, ?_, ?_, ?_, ?_⟩ ?_
  · simp [Function.comp_def, get_gcT, get, put, gcI, pullI, push1, pushI, pullS, pushS, gcH, patL, canL, canH, canTL, canT, segR, ix, upd, up1, mapC_rows, mapC_gone, pushC_rows, pushC_gone, pullP, pullV, pullSS, pullD, pullT, pullF, pushP, pushV, pushSS, pushD, pushT, pushF, pullD16, pushD16, AH, rowA, cP_s, encPEs_pull, encPEs_push, cT, cF, pull_I, push_I, pull_PE, push_PE, pull_PD, ageL, w16_0, ttD, encPD, pduV]
  · simp [Function.comp_def, get_gcT, get, put, gcI, pullI, push1, pushI, pullS, pushS, gcH, patL, canL, canH, canTL, canT, segR, ix, upd, up1, mapC_rows, mapC_gone, pushC_rows, pushC_gone, pullP, pullV, pullSS, pullD, pullT, pullF, pushP, pushV, pushSS, pushD, pushT, pushF, pullD16, pushD16, AH, rowA, cP_s, encPEs_pull, encPEs_push, cT, cF, pull_I, push_I, pull_PE, push_PE, pull_PD, ageL, w16_0, ttD, encPD, pduV]
  · simp [Function.comp_def, get_gcT, get, put, gcI, pullI, push1, pushI, pullS, pushS, gcH, patL, canL, canH, canTL, canT, segR, ix, upd, up1, mapC_rows, mapC_gone, pushC_rows, pushC_gone, pullP, pullV, pullSS, pullD, pullT, pullF, pushP, pushV, pushSS, pushD, pushT, pushF, pullD16, pushD16, AH, rowA, cP_s, encPEs_pull, encPEs_push, cT, cF, pull_I, push_I, pull_PE, push_PE, pull_PD, ageL, w16_0, ttD, encPD, pduV]
  · simp [Function.comp_def, get_gcT, get, put, gcI, pullI, push1, pushI, pullS, pushS, gcH, patL, canL, canH, canTL, canT, segR, ix, upd, up1, mapC_rows, mapC_gone, pushC_rows, pushC_gone, pullP, pullV, pullSS, pullD, pullT, pullF, pushP, pushV, pushSS, pushD, pushT, pushF, pullD16, pushD16, AH, rowA, cP_s, encPEs_pull, encPEs_push, cT, cF, pull_I, push_I, pull_PE, push_PE, pull_PD, ageL, w16_0, ttD, encPD, pduV]
  · simp [Function.comp_def, get_gcT, get, put, gcI, pullI, push1, pushI, pullS, pushS, gcH, patL, canL, canH, canTL, canT, segR, ix, upd, up1, mapC_rows, mapC_gone, pushC_rows, pushC_gone, pullP, pullV, pullSS, pullD, pullT, pullF, pushP, pushV, pushSS, pushD, pushT, pushF, pullD16, pushD16, AH, rowA, cP_s, encPEs_pull, encPEs_push, cT, cF, pull_I, push_I, pull_PE, push_PE, pull_PD, ageL, w16_0, ttD, encPD, pduV]
  rintro i tm H ⟨_, rfl, hi, g0, g1, g5, g6, rfl⟩
  unfold AH
  cases i with
  | succ i =>
    have q : decide ((0 : Int) ≤ ((i + 1 : Nat) : Int) - 1) = true := decide_eq_true (by omega)
    have hi0 : ((i + 1 : Nat) : Int) - 1 = (i : Int) := by omega
    have hi1 : IntKind.i64.wrap ((i : Int) - 1) = (i : Int) - 1 := wr_i64 (by omega) (by omega)
    rw [hi0] at q g6
    have hc0 : (0 : Int) ≤ (i : Int) := by omega
    have hcN : (i : Int) < (a.ps.length : Int) := by omega
    obtain ⟨r, hr⟩ : ∃ r, a.ps[i]? = some r := ⟨_, List.getElem?_eq_getElem (by omega)⟩
    have hrs := encPEs_get hr
    have hdrop : a.ps.drop i = r :: a.ps.drop (i + 1) := by
      obtain ⟨h, e⟩ := List.getElem?_eq_some_iff.1 hr
      rw [List.drop_eq_getElem_cons h, e]
    generalize hG : ageL (a.ps.drop (i + 1)) = G
    have hag : ageL (a.ps.drop i) = if r.ro == 3 then IntKind.i64.wrap (r.age + 1) else G := by rw [hdrop, ← hG]; rfl
    cases e1 : (r.ro == 3) with
    | true =>
      rw [e1] at hag
      simp only [if_true] at hag
      repeat' first
        | with_reducible rfl
        | simp only [rowA, hcP, encPEs_len, q, hi1, hc0, hcN, hrs, encPE, encPD, ttD, pduV, g0, g1, g5, g6, e1, Int.toNat_natCast, RS_, FB_, segR, ST_, seval, ne_eq, bne, forall_const, implies_true, TY_, WLS]
        | (with_reducible refine drawK_id ?_); refine drawK_auto hmix (by kernel_rfl) ?_
        | (with_reducible refine draw_fin ?_ ?_); · kernel_rfl
        | (with_reducible refine draw_id ?_); kernel_rfl
        | (with_reducible refine And.intro ?_ ?_; · omega)
      refine ⟨i, _, _, by omega, Wk.gc [0, 1, 2, 3, 4, 5, 6, 7] rfl (by decide), i, rfl, by omega, ?_, ?_, ?_, ?_, ?_⟩ <;> simp [Function.comp_def, get_gcT, get, put, gcI, pullI, push1, pushI, pullS, pushS, gcH, patL, canL, canH, canTL, canT, segR, ix, upd, up1, mapC_rows, mapC_gone, pushC_rows, pushC_gone, pullP, pullV, pullSS, pullD, pullT, pullF, pushP, pushV, pushSS, pushD, pushT, pushF, pullD16, pushD16, AH, rowA, cP_s, encPEs_pull, encPEs_push, cT, cF, pull_I, push_I, pull_PE, push_PE, pull_PD, g0, g1, g5, g6, hag, ttD, encPD, pduV]
    | false =>
      rw [e1] at hag
      simp only [Bool.false_eq_true, if_false] at hag
      repeat' first
        | with_reducible rfl
        | simp only [rowA, hcP, encPEs_len, q, hi1, hc0, hcN, hrs, encPE, encPD, ttD, pduV, g0, g1, g5, g6, e1, Int.toNat_natCast, RS_, FB_, segR, ST_, seval, ne_eq, bne, forall_const, implies_true, TY_, WLS]
        | (with_reducible refine drawK_id ?_); refine drawK_auto hmix (by kernel_rfl) ?_
        | (with_reducible refine draw_fin ?_ ?_); · kernel_rfl
        | (with_reducible refine draw_id ?_); kernel_rfl
        | (with_reducible refine And.intro ?_ ?_; · omega)
      refine ⟨i, _, _, by omega, Wk.gc [0, 1, 2, 3, 4, 5, 6, 7] rfl (by decide), i, rfl, by omega, ?_, ?_, ?_, ?_, ?_⟩ <;> simp [Function.comp_def, get_gcT, get, put, gcI, pullI, push1, pushI, pullS, pushS, gcH, patL, canL, canH, canTL, canT, segR, ix, upd, up1, mapC_rows, mapC_gone, pushC_rows, pushC_gone, pullP, pullV, pullSS, pullD, pullT, pullF, pushP, pushV, pushSS, pushD, pushT, pushF, pullD16, pushD16, AH, rowA, cP_s, encPEs_pull, encPEs_push, cT, cF, pull_I, push_I, pull_PE, push_PE, pull_PD, g0, g1, g5, g6, hag, ttD, encPD, pduV]
  | zero =>
    have q : decide ((0 : Int) ≤ ((0 : Nat) : Int) - 1) = false := rfl
    rw [List.drop_zero]
    have hj1 : IntKind.i64.wrap ((j : Int) + 1) = (j : Int) + 1 := wr_i64 (by omega) (by omega)
    repeat' first
      | with_reducible rfl
      | simp only [rowA, cT, q, hj1, encPD, ttD, pduV, g0, g1, g5, g6, List.length_map, RS_, FB_, segR, ST_, seval, ne_eq, bne, forall_const, implies_true, TY_, WLS]
      | (with_reducible refine drawK_id ?_); refine drawK_auto hmix (by kernel_rfl) ?_
      | (with_reducible refine draw_fin ?_ ?_); · kernel_rfl
      | (with_reducible refine draw_id ?_); kernel_rfl
      | (with_reducible refine And.intro ?_ ?_; · omega)
    all_goals (refine ⟨.t [], AH2 (tellA a j p), (WkR.can [(17, 0, 0, 25), (1, 0, 0, 26)] [.inl 0, .inl 1, .inl 2, .inl 3, .inl 4, .inl 5, .inl 6, .inr 0, .inr 1] rfl (by simp [patL])).to rfl ?_, by simp [AH2], rfl, rfl⟩; simp [Function.comp_def, get_gcT, get, put, gcI, pullI, push1, pushI, pullS, pushS, gcH, patL, canL, canH, canTL, canT, segR, ix, upd, up1, mapC_rows, mapC_gone, pushC_rows, pushC_gone, pullP, pullV, pullSS, pullD, pullT, pullF, pushP, pushV, pushSS, pushD, pushT, pushF, pullD16, pushD16, AH2, rowA, cT, cF, pull_I, push_I, pull_PE, push_PE, cT, encTE, encPD, tellA, sendA, tellD, pduV, ttD])
theorem allA_congr {f : AS → Nat → AS} {l k : List Bool} {a : AS} : ∀ {i : Nat}, (∀ j, j < i → (l[j]? = some true ↔ k[j]? = some true)) → allA f l a i = allA f k a i
  | 0, _ => rfl
  | i + 1, h => by
    have ih := allA_congr (f := f) (a := a) (i := i) fun j hj => h j (by omega)
    have hi := h i (by omega)
    unfold allA
    rw [ih]
    by_cases hl : l[i]? = some true
    · rw [if_pos hl, if_pos (hi.1 hl)]
    · rw [if_neg hl, if_neg fun hk => hl (hi.2 hk)]
theorem setT {l : List Bool} {i j : Nat} {x : Bool} (hi : i < l.length) : ((l.set i x)[j]? = some true) ↔ if i = j then x = true else l[j]? = some true := by
  by_cases h : i = j
  · subst h; simp [hi]
  · simp [h]
theorem anew_same (k : Nat) (R : List Int) (T : List V4) (a : AS) (hk : a.ps.length ≤ k) : ∀ i, i ≤ a.ps.length → ∀ j, j < a.ps.length → ((anewN k R T a i)[j]? = some true ↔ (anewN a.ps.length R T a i)[j]? = some true)
  | 0, _, j, hj => by simp only [anewN, List.getElem?_replicate]; rw [if_pos hj, if_pos (by omega)]
  | i + 1, hi, j, hj => by
    have ih := anew_same k R T a hk i (by omega) j hj
    unfold anewN
    cases (itA (asI R T) a i).ps[i]? with
    | none => exact ih
    | some p => simp only [setT (show i < (anewN k R T a i).length by rw [anewN_len]; omega), setT (show i < (anewN a.ps.length R T a i).length by rw [anewN_len]; omega), ih]
theorem open_same (k : Nat) (R : List Int) (T : List V4) (a : AS) (hk : a.ps.length ≤ k) : ∀ i, i ≤ a.ps.length → ∀ j, j < a.ps.length → ((openN k R T a i)[j]? = some true ↔ (openN a.ps.length R T a i)[j]? = some true)
  | 0, _, j, hj => by simp only [openN, List.getElem?_replicate]; rw [if_pos hj, if_pos (by omega)]
  | i + 1, hi, j, hj => by
    have ih := open_same k R T a hk i (by omega) j hj
    unfold openN
    cases (itA (asI R T) a i).ps[i]? with
    | none => exact ih
    | some p => simp only [setT (show i < (openN k R T a i).length by rw [openN_len]; omega), setT (show i < (openN a.ps.length R T a i).length by rw [openN_len]; omega), ih]
theorem chooseRT_same (k : Nat) (R : List Int) (T : List V4) (a : AS) (hk : a.ps.length ≤ k) : chooseRT k R T a = chooseRT a.ps.length R T a := by
  unfold chooseRT
  rw [allA_congr (k := anewN a.ps.length R T a a.ps.length) (anew_same k R T a hk _ (Nat.le_refl _)), allA_congr (k := openN a.ps.length R T a a.ps.length) (open_same k R T a hk _ (Nat.le_refl _))]
theorem step_same (k : Nat) (a : AS) (hk : a.ps.length ≤ k) : ∀ i, i ≤ a.ps.length → ∀ j, j < a.ps.length → ((stepN k a i)[j]? = some true ↔ (stepN a.ps.length a i)[j]? = some true)
  | 0, _, j, hj => by simp only [stepN, List.getElem?_replicate]; rw [if_pos hj, if_pos (by omega)]
  | i + 1, hi, j, hj => by
    have ih := step_same k a hk i (by omega) j hj
    unfold stepN
    cases (itA stI a i).ps[i]? with
    | none => exact ih
    | some p => simp only [setT (show i < (stepN k a i).length by rw [stepN_len]; omega), setT (show i < (stepN a.ps.length a i).length by rw [stepN_len]; omega), ih]
theorem tick2_same (k : Nat) (a : AS) (hk : a.ps.length ≤ k) : tick2 k a = tick2 a.ps.length a := by
  unfold tick2
  rw [allA_congr (k := stepN a.ps.length a a.ps.length) (step_same k a hk _ (Nat.le_refl _))]
/-- No port's state is below 0. -/
def NnA (a : AS) : Prop := ∀ p ∈ a.ps, 0 ≤ p.st
theorem NnA.at {a : AS} (h : NnA a) {i : Nat} {p : PE} (hp : a.ps[i]? = some p) : 0 ≤ p.st := h p (List.mem_of_getElem? hp)
theorem nn_set {l : List PE} {i : Nat} {q : PE} (h : ∀ p ∈ l, 0 ≤ p.st) (hq : 0 ≤ q.st) : ∀ p ∈ l.set i q, 0 ≤ p.st := fun p hp => by
  rcases List.mem_or_eq_of_mem_set hp with h1 | rfl
  · exact h p h1
  · exact hq
theorem nn_itA {f : AS → Nat → PE → AS} (hf : ∀ b i p, b.ps[i]? = some p → NnA b → NnA (f b i p)) {a : AS} (h : NnA a) : ∀ i, NnA (itA f a i)
  | 0 => h
  | i + 1 => by
    cases hp : (itA f a i).ps[i]? with
    | some p => rw [itA_next hp]; exact hf _ _ _ hp (nn_itA hf h i)
    | none => simp only [itA, hp]; exact nn_itA hf h i
theorem nn_allA {f : AS → Nat → AS} (hf : ∀ b i, NnA b → NnA (f b i)) (l : List Bool) {a : AS} (h : NnA a) : ∀ i, NnA (allA f l a i)
  | 0 => h
  | i + 1 => by unfold allA; split; exact hf _ _ (nn_allA hf l h i); exact nn_allA hf l h i
theorem nn_setA {a : AS} {i : Nat} {q : PE} (h : NnA a) (hq : 0 ≤ q.st) : NnA (setA a i q) := nn_set h hq
theorem nn_spr (but : Int) (al : Bool) (b : AS) (i : Nat) (p : PE) (hp : b.ps[i]? = some p) (h : NnA b) : NnA (sprI but al b i p) := by
  unfold sprI
  repeat' split
  all_goals first | exact h | exact nn_set h (show 0 ≤ p.st from h.at hp)
theorem nn_changed {a : AS} {i : Nat} {p : PE} (hp : a.ps[i]? = some p) (h : NnA a) : NnA (changedA a i p) := by
  unfold changedA
  split
  · exact h
  · exact nn_itA (nn_spr _ _) (a := chA a i p) (nn_set h (show 0 ≤ p.st from h.at hp)) _
theorem nn_changedI (a : AS) (i : Nat) (h : NnA a) : NnA (changedI a i) := by
  unfold changedI; split
  · rename_i p hp; exact nn_changed hp h
  · exact h
theorem nn_as {p : PE} (r : Int) (t : V4) (c : CF) (h : 0 ≤ p.st) : 0 ≤ (asP p r t c).st := by
  unfold asP desP des3 des2 des1
  repeat' split
  all_goals first | exact h | simp | (simp only []; first | exact h | simp)
theorem nn_asI (R : List Int) (T : List V4) (b : AS) (i : Nat) (p : PE) (hp : b.ps[i]? = some p) (h : NnA b) : NnA (asI R T b i p) := nn_set h (nn_as _ _ _ (h.at hp))
theorem nn_choose {a : AS} (h : NnA a) : NnA (chooseA a) := by
  refine nn_allA (f := tellI2) (fun b i hb => ?_) _ (nn_allA nn_changedI _ (nn_itA (nn_asI _ _) h _) _) _
  unfold tellI2; split
  · exact hb
  · exact hb
end Go.Ev
