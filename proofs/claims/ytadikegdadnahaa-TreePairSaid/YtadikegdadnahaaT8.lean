/- A part of the proof: contracts of the functions that the statement reaches. -/
import Derived.Test.YtadikegdadnahaaT7
namespace Go.Ev
open Go.Proofs
set_option maxRecDepth 100000
set_option linter.unusedSimpArgs false
set_option linter.unusedVariables false
set_option maxHeartbeats 4000000
def ptOf (p : PE) (i : Nat) : PT := ⟨onP p, p.nf == 2, p.v, p.cost, idP p ((i : Int) + 1)⟩
def ptsN (ps : List PE) : Nat → List PT
  | 0 => []
  | i + 1 => match ps[i]? with
    | some p => ptsN ps i ++ [ptOf p i]
    | none => ptsN ps i
theorem ptsN_len (ps : List PE) : ∀ i, i ≤ ps.length → (ptsN ps i).length = i
  | 0, _ => rfl
  | i + 1, h => by
    have : ps[i]? = some ps[i] := List.getElem?_eq_getElem (by omega)
    simp only [ptsN, this, List.length_append, ptsN_len ps i (by omega), List.length_cons, List.length_nil]
def asI (R : List Int) (T : List V4) (b : AS) (i : Nat) (p : PE) : AS := { b with ps := b.ps.set i (asP p (R.getD i 0) (T.getD i ⟨0, 0, 0, 0⟩) b.cf) }
theorem asI_fr (R : List Int) (T : List V4) (b : AS) (i : Nat) (p : PE) : FrA 0 b (asI R T b i p) := ⟨by simp [asI], rfl, by simp [asI, szA]⟩
/-- Which ports have something to tell anew, which ones forward by that: as far as the loop came, in a list of so many. -/
def anewN (k : Nat) (R : List Int) (T : List V4) (a : AS) : Nat → List Bool
  | 0 => List.replicate k false
  | i + 1 => match (itA (asI R T) a i).ps[i]? with
    | some p => (anewN k R T a i).set i (asA p (R.getD i 0) (T.getD i ⟨0, 0, 0, 0⟩))
    | none => anewN k R T a i
def openN (k : Nat) (R : List Int) (T : List V4) (a : AS) : Nat → List Bool
  | 0 => List.replicate k false
  | i + 1 => match (itA (asI R T) a i).ps[i]? with
    | some p => (openN k R T a i).set i (asO p (R.getD i 0) (T.getD i ⟨0, 0, 0, 0⟩) (itA (asI R T) a i).cf)
    | none => openN k R T a i
theorem anewN_len (k : Nat) (R : List Int) (T : List V4) (a : AS) : ∀ i, (anewN k R T a i).length = k
  | 0 => by simp [anewN]
  | i + 1 => by unfold anewN; split <;> simp [anewN_len k R T a i]
theorem openN_len (k : Nat) (R : List Int) (T : List V4) (a : AS) : ∀ i, (openN k R T a i).length = k
  | 0 => by simp [openN]
  | i + 1 => by unfold openN; split <;> simp [openN_len k R T a i]
def chooseRT (k : Nat) (R : List Int) (T : List V4) (a : AS) : AS :=
  allA tellI2 (anewN k R T a a.ps.length) (allA changedI (openN k R T a a.ps.length) (itA (asI R T) a a.ps.length) a.ps.length) a.ps.length
def rolesA (a : AS) : List Int := rolesN a.cf.id (chS a.cf.id (ptsN a.ps a.ps.length)) (ptsN a.ps a.ps.length) a.ps.length
def tellsA (a : AS) : List V4 := tellsN a.cf.id (chS a.cf.id (ptsN a.ps a.ps.length)) (ptsN a.ps a.ps.length) a.ps.length
def chooseA (a : AS) : AS := chooseRT a.ps.length (rolesA a) (tellsA a) a
theorem chooseRT_fr {n : Nat} (k : Nat) (R : List Int) (T : List V4) (a : AS) (hn : a.ps.length ≤ n) : FrA (n * n + n) a (chooseRT k R T a) := by
  have h1 := itA_fr (asI_fr R T) a a.ps.length
  rw [Nat.mul_zero] at h1
  have h2 := allA_fr (f := changedI) (k := a.ps.length) (n := a.ps.length) (fun b i h => h ▸ changedI_fr b i) (openN k R T a a.ps.length) (itA (asI R T) a a.ps.length) h1.len a.ps.length
  have h3 := allA_fr (f := tellI2) (k := 1) (n := a.ps.length) (fun b i _ => tellI2_fr b i) (anewN k R T a a.ps.length) (allA changedI (openN k R T a a.ps.length) (itA (asI R T) a a.ps.length) a.ps.length) (h2.len.trans h1.len) a.ps.length
  have := Nat.mul_le_mul hn hn
  exact ((h1.trans h2).trans h3).le (by omega)
theorem chooseA_fr {n : Nat} (a : AS) (hn : a.ps.length ≤ n) : FrA (n * n + n) a (chooseA a) := chooseRT_fr _ _ _ a hn
theorem setB (l : List Bool) (i : Nat) (x : Bool) : (l.map sB).set i [.raw (.bool x)] = (l.set i x).map sB := by rw [List.map_set]; rfl
def cW (l : List V4) : Chunk := .rows true 4 (l.map encV)
theorem pullW (σ : List Nat) (g : IV → IV) (l : List V4) : mapC (pullS σ) g (cW l) = cW l := by
  show Chunk.rows true _ _ = _
  unfold cW
  congr 1
  rw [List.map_map]; rfl
theorem pushW (σ : List Nat) (l : List V4) : pushC σ (cW l) = cW l := by
  show Chunk.rows true _ _ = _
  unfold cW
  congr 1
  rw [List.map_map]; rfl
theorem genK_id {P : Program} {X : Ctx} {o : Oper} {k : TM → Heap → Prop} {tm : TM} {H : Heap} (h : genK P X o k tm H) : genK P X o k tm H := h
theorem funW_mono {P : Program} {f : FuncId} {Hr Hw : Heap} {args : List IV} {Q Q' : IV → Heap → Prop} (h : FunW P f Hr Hw args Q) (hq : ∀ r Hn, Q r Hn → Q' r Hn) : FunW P f Hr Hw args Q' :=
  fun X => callK_mono (h X) fun r H' ⟨Hn, h1, h2, h3⟩ => ⟨Hn, h1, h2, hq _ _ h3⟩
theorem c_RChoose (a : AS) (hn : a.ps.length ≤ 100) : FunW Try.prog 16 [.rows false 8 ((ptsN a.ps a.ps.length).map encP)] [] [.s (.raw (.int .u64 a.cf.id)), .s (.slice 0 0 a.ps.length)] (fun r Hn => ∃ x y z : Int, r = .a [.raw (.int .u64 x), .raw (.int .u32 y), .raw (.int .i64 z), .slice 1 0 a.ps.length, .slice 2 0 a.ps.length] ∧ Hn = [cF (rolesA a), cW (tellsA a)]) := by
  have hl := ptsN_len a.ps a.ps.length (Nat.le_refl _)
  have := f13 a.cf.id (ptsN a.ps a.ps.length) (by omega)
  rw [hl] at this
  exact funW_mono this fun r Hn ⟨h1, h2⟩ => ⟨_, _, _, h1, h2⟩
theorem rolesA_len (a : AS) : (rolesA a).length = a.ps.length := rolesN_len _ _ _ _ (by rw [ptsN_len _ _ (Nat.le_refl _)]; exact Nat.le_refl _)
theorem tellsA_len (a : AS) : (tellsA a).length = a.ps.length := tellsN_len _ _ _ _ (by rw [ptsN_len _ _ (Nat.le_refl _)]; exact Nat.le_refl _)
theorem pull_PT (σ : List Nat) (p : PT) : (encP p).map (pullS σ) = encP p := rfl
theorem push_PT (σ : List Nat) (p : PT) : (encP p).map (pushS σ) = encP p := rfl
def choHead (b : AS) (R : List Int) (T : List V4) (x y z : Int) (N W : List Bool) : Heap := AH b ++ [cF R, cW T, .rows true 5 [[.raw (.int .u64 x), .raw (.int .u32 y), .raw (.int .i64 z), .slice 7 0 R.length, .slice 8 0 T.length]], cB N, cB W]
def I_cho1 (a : AS) (m : Nat) (tm : TM) (H : Heap) : Prop := ∃ i : Nat, m = a.ps.length - i ∧ i ≤ a.ps.length ∧ get tm 0 = .s (.ptr 0 0 0) ∧ get tm 2 = .s (.slice 7 0 i) ∧ get tm 14 = .s (.slice 1 0 a.ps.length) ∧ get tm 15 = .s (.raw (.int .i64 a.ps.length)) ∧ get tm 16 = .s (.raw (.int .i64 (i : Int))) ∧ H = AH a ++ [.rows true 8 ((ptsN a.ps i).map encP)]
def I_cho2 (a : AS) (R : List Int) (T : List V4) (x y z : Int) (m : Nat) (tm : TM) (H : Heap) : Prop := ∃ i : Nat, m = a.ps.length - i ∧ i ≤ a.ps.length ∧ get tm 0 = .s (.ptr 0 0 0) ∧ get tm 5 = .s (.ptr 9 0 0) ∧ get tm 6 = .s (.slice 10 0 a.ps.length) ∧ get tm 7 = .s (.slice 11 0 a.ps.length) ∧ get tm 57 = .s (.slice 1 0 a.ps.length) ∧ get tm 58 = .s (.raw (.int .i64 a.ps.length)) ∧ get tm 59 = .s (.raw (.int .i64 (i : Int))) ∧
  H = choHead (itA (asI R T) a i) R T x y z (anewN a.ps.length R T a i) (openN a.ps.length R T a i)
theorem c_choose (a : AS) (hn : a.ps.length ≤ 100) (hb : szA a ≤ 700000) : FunW Try.prog 27 [] (AH a) [.s (.ptr 0 0 0)] fun r Hn => r = .t [] ∧ Hn = AH2 (chooseA a) := by
  refine funW_of fun X => ?_
  refine callK_inline (rs := []) (n := 107) Try.func27 rfl rfl rfl (by kernel_rfl) (by kernel_rfl) (by simp only [List.length_cons, List.length_nil]; decide) ?_
  unfold AH
  repeat' first
    | with_reducible rfl
    | simp only [rowA, RS_, FB_, segR, ST_, seval, ne_eq, bne, forall_const, implies_true, TY_, WLS]
    | with_reducible refine gdb_split (fun h => ?_) (fun h => ?_)
    | (with_reducible refine drawK_id ?_); refine drawK_auto hmix (by kernel_rfl) ?_
    | (with_reducible refine draw_fin ?_ ?_); · kernel_rfl
    | (with_reducible refine draw_id ?_); kernel_rfl
    | (with_reducible refine And.intro ?_ ?_; · omega)
  refine loopK_wk (by kernel_rfl) (I_cho1 a) a.ps.length ⟨_, _, Wk.can2 [(8, 2)] [] [.inl 0, .inl 1, .inl 2, .inl 3, .inl 4, .inl 5, .inl 6, .inr 0] rfl (by simp [patL]), 0, by omega, by omega, ?_, ?_, ?_, ?_, ?_, ?_⟩ ?_
  · simp [Function.comp_def, get_gcT, get, put, gcI, pullI, push1, pushI, pullS, pushS, gcH, patL, canL, canH, canTL, canT, segR, ix, upd, up1, mapC_rows, mapC_gone, pushC_rows, pushC_gone, pullP, pullV, pullSS, pullD, pullT, pullF, pushP, pushV, pushSS, pushD, pushT, pushF, pullD16, pushD16, AH, AH2, rowA, cT, cF, pull_I, push_I, pull_PE, push_PE, pull_PT, push_PT, pull_B, push_B, ptsN]
  · simp [Function.comp_def, get_gcT, get, put, gcI, pullI, push1, pushI, pullS, pushS, gcH, patL, canL, canH, canTL, canT, segR, ix, upd, up1, mapC_rows, mapC_gone, pushC_rows, pushC_gone, pullP, pullV, pullSS, pullD, pullT, pullF, pushP, pushV, pushSS, pushD, pushT, pushF, pullD16, pushD16, AH, AH2, rowA, cT, cF, pull_I, push_I, pull_PE, push_PE, pull_PT, push_PT, pull_B, push_B, ptsN]
  · simp [Function.comp_def, get_gcT, get, put, gcI, pullI, push1, pushI, pullS, pushS, gcH, patL, canL, canH, canTL, canT, segR, ix, upd, up1, mapC_rows, mapC_gone, pushC_rows, pushC_gone, pullP, pullV, pullSS, pullD, pullT, pullF, pushP, pushV, pushSS, pushD, pushT, pushF, pullD16, pushD16, AH, AH2, rowA, cT, cF, pull_I, push_I, pull_PE, push_PE, pull_PT, push_PT, pull_B, push_B, ptsN]
  · simp [Function.comp_def, get_gcT, get, put, gcI, pullI, push1, pushI, pullS, pushS, gcH, patL, canL, canH, canTL, canT, segR, ix, upd, up1, mapC_rows, mapC_gone, pushC_rows, pushC_gone, pullP, pullV, pullSS, pullD, pullT, pullF, pushP, pushV, pushSS, pushD, pushT, pushF, pullD16, pushD16, AH, AH2, rowA, cT, cF, pull_I, push_I, pull_PE, push_PE, pull_PT, push_PT, pull_B, push_B, ptsN]
  · simp [Function.comp_def, get_gcT, get, put, gcI, pullI, push1, pushI, pullS, pushS, gcH, patL, canL, canH, canTL, canT, segR, ix, upd, up1, mapC_rows, mapC_gone, pushC_rows, pushC_gone, pullP, pullV, pullSS, pullD, pullT, pullF, pushP, pushV, pushSS, pushD, pushT, pushF, pullD16, pushD16, AH, AH2, rowA, cT, cF, pull_I, push_I, pull_PE, push_PE, pull_PT, push_PT, pull_B, push_B, ptsN]
  · simp [Function.comp_def, get_gcT, get, put, gcI, pullI, push1, pushI, pullS, pushS, gcH, patL, canL, canH, canTL, canT, segR, ix, upd, up1, mapC_rows, mapC_gone, pushC_rows, pushC_gone, pullP, pullV, pullSS, pullD, pullT, pullF, pushP, pushV, pushSS, pushD, pushT, pushF, pullD16, pushD16, AH, AH2, rowA, cT, cF, pull_I, push_I, pull_PE, push_PE, pull_PT, push_PT, pull_B, push_B, ptsN]
  rintro m tm H ⟨i, rfl, hi, g0, g2, g14, g15, g16, rfl⟩
  have hpl := ptsN_len a.ps i hi
  have hptl : ((ptsN a.ps i).map encP).length = i := by rw [List.length_map, hpl]
  by_cases hq : i < a.ps.length
  · have q : decide ((i : Int) < (a.ps.length : Int)) = true := decide_eq_true (by omega)
    have hb0 : (0 : Int) ≤ (i : Int) := by omega
    have hbN : (i : Int) < (a.ps.length : Int) := by omega
    have hi1 : IntKind.i64.wrap ((i : Int) + 1) = ((i + 1 : Nat) : Int) := by rw [wr_i64 (by omega) (by omega)]; rfl
    obtain ⟨p, hp⟩ : ∃ p, (a.ps)[i]? = some p := ⟨_, List.getElem?_eq_getElem (by omega)⟩
    have hpr : ((a.ps).map encPE)[i]? = some (encPE p) := by rw [List.getElem?_map, hp]; rfl
    have hnx : ptsN a.ps (i + 1) = ptsN a.ps i ++ [ptOf p i] := by simp only [ptsN, hp]
    have hi2 : IntKind.i64.wrap ((i : Int) + 1) = (i : Int) + 1 := wr_i64 (by omega) (by omega)
    have hbig : (i + 1) * 40 ≤ 140737488355328 := by omega
    unfold AH
    have hcP : ∀ l, cP l = .rows true 21 (l.map encPE) := fun _ => rfl
    repeat' first
      | with_reducible rfl
      | simp only [rowA, hcP, q, hb0, hbN, hi2, hpr, hptl, hbig, encPE, g0, g2, g14, g15, g16, List.length_map, Int.toNat_natCast, RS_, FB_, segR, ST_, seval, ne_eq, bne, forall_const, implies_true, TY_, WLS]
      | (with_reducible refine drawK_id ?_); refine drawK_auto hmix (by kernel_rfl) ?_
      | (with_reducible refine draw_fin ?_ ?_); · kernel_rfl
      | (with_reducible refine draw_id ?_); kernel_rfl
      | (with_reducible refine callD_id (f := 14) ?_); refine callD_of (c_On p) rfl rfl ?_
      | (with_reducible refine callD_id (f := 15) ?_); refine callD_of (c_ID p ((i : Int) + 1)) rfl rfl ?_
      | (with_reducible refine And.intro ?_ ?_; · omega)
    refine ⟨a.ps.length - (i + 1), _, _, by omega, Wk.can2 [(8, 2)] [] [.inl 0, .inl 1, .inl 2, .inl 3, .inl 4, .inl 5, .inl 6, .inr 0] rfl (by simp [patL]), i + 1, rfl, by omega, ?_, ?_, ?_, ?_, ?_, ?_⟩ <;> first | (simp [Function.comp_def, get_gcT, get, put, gcI, pullI, push1, pushI, pullS, pushS, gcH, patL, canL, canH, canTL, canT, segR, ix, upd, up1, mapC_rows, mapC_gone, pushC_rows, pushC_gone, pullP, pullV, pullSS, pullD, pullT, pullF, pushP, pushV, pushSS, pushD, pushT, pushF, pullD16, pushD16, AH, AH2, rowA, cT, cF, pull_I, push_I, pull_PE, push_PE, pull_PT, push_PT, pull_B, push_B, g0, g2, g14, g15, g16, hptl, hpl]; done) | (simp [Function.comp_def, get_gcT, get, put, gcI, pullI, push1, pushI, pullS, pushS, gcH, patL, canL, canH, canTL, canT, segR, ix, upd, up1, mapC_rows, mapC_gone, pushC_rows, pushC_gone, pullP, pullV, pullSS, pullD, pullT, pullF, pushP, pushV, pushSS, pushD, pushT, pushF, pullD16, pushD16, AH, AH2, rowA, cT, cF, pull_I, push_I, pull_PE, push_PE, pull_PT, push_PT, pull_B, push_B, g0, g2, g14, g15, g16, hptl, hpl, hnx, cP, encP, ptOf])
  · have q : decide ((i : Int) < (a.ps.length : Int)) = false := decide_eq_false (by omega)
    have hin : i = a.ps.length := by omega
    subst hin
    have cr := c_RChoose a hn
    have hRl := rolesA_len a
    have hTl := tellsA_len a
    unfold AH
    have hcP := True.intro
    repeat' first
      | with_reducible rfl
      | simp only [rowA, hcP, q, g0, g2, g14, g15, g16, RS_, FB_, segR, ST_, seval, ne_eq, bne, forall_const, implies_true, TY_, WLS]
      | (with_reducible refine drawK_id ?_); refine drawK_auto hmix (by kernel_rfl) ?_
      | (with_reducible refine draw_fin ?_ ?_); · kernel_rfl
      | (with_reducible refine draw_id ?_); kernel_rfl
      | ((with_reducible refine callK_id (f := 16) ?_); refine callK_funW [7] [] cr (by simp [Function.comp_def, pullHW, roC_rows, pull_PT]) rfl rfl (by decide) (by simp) (by simp [pullI, pullS, ix]) ?_; rintro r Hn ⟨x, y, z, rfl, rfl⟩ -; clear hcP)
      | (with_reducible refine And.intro ?_ ?_; · omega)
    generalize hR : rolesA a = R at *
    generalize hT : tellsA a = T at *
    repeat' first
      | with_reducible rfl
      | simp only [rowA, hRl, hTl, mapC_rows, mapC_gone, pushC_rows, pushC_gone, pullP, pullV, pullSS, pullD, pullT, pullF, pushP, pushV, pushSS, pushD, pushT, pushF, pullD16, pushD16, pull_I, push_I, pullW, pushW, pull_PT, push_PT, g0, g2, g14, g15, g16, RS_, FB_, segR, ST_, seval, ne_eq, bne, forall_const, implies_true, TY_, WLS]
      | (with_reducible refine drawK_id ?_); refine drawK_auto hmix (by kernel_rfl) ?_
      | (with_reducible refine draw_fin ?_ ?_); · kernel_rfl
      | (with_reducible refine draw_id ?_); kernel_rfl
      | (with_reducible refine And.intro ?_ ?_; · omega)
    refine loopK_wk (by kernel_rfl) (I_cho2 a R T x y z) a.ps.length ⟨_, _, Wk.gc [0, 1, 2, 3, 4, 5, 6, 8, 9, 10, 11, 12] rfl (by decide), 0, by omega, by omega, ?_, ?_, ?_, ?_, ?_, ?_, ?_, ?_⟩ ?_
    · simp [Function.comp_def, get_gcT, get, put, gcI, pullI, push1, pushI, pullS, pushS, gcH, patL, canL, canH, canTL, canT, segR, ix, upd, up1, mapC_rows, mapC_gone, pushC_rows, pushC_gone, pullP, pullV, pullSS, pullD, pullT, pullF, pushP, pushV, pushSS, pushD, pushT, pushF, pullD16, pushD16, choHead, AH, AH2, rowA, cT, cF, cW, cB, pull_I, push_I, pull_PE, push_PE, pull_V, pull_B, push_B, g0, g2, g14, g15, g16, hRl, hTl, itA, anewN, openN, sB]
    · simp [Function.comp_def, get_gcT, get, put, gcI, pullI, push1, pushI, pullS, pushS, gcH, patL, canL, canH, canTL, canT, segR, ix, upd, up1, mapC_rows, mapC_gone, pushC_rows, pushC_gone, pullP, pullV, pullSS, pullD, pullT, pullF, pushP, pushV, pushSS, pushD, pushT, pushF, pullD16, pushD16, choHead, AH, AH2, rowA, cT, cF, cW, cB, pull_I, push_I, pull_PE, push_PE, pull_V, pull_B, push_B, g0, g2, g14, g15, g16, hRl, hTl, itA, anewN, openN, sB]
    · simp [Function.comp_def, get_gcT, get, put, gcI, pullI, push1, pushI, pullS, pushS, gcH, patL, canL, canH, canTL, canT, segR, ix, upd, up1, mapC_rows, mapC_gone, pushC_rows, pushC_gone, pullP, pullV, pullSS, pullD, pullT, pullF, pushP, pushV, pushSS, pushD, pushT, pushF, pullD16, pushD16, choHead, AH, AH2, rowA, cT, cF, cW, cB, pull_I, push_I, pull_PE, push_PE, pull_V, pull_B, push_B, g0, g2, g14, g15, g16, hRl, hTl, itA, anewN, openN, sB]
    · simp [Function.comp_def, get_gcT, get, put, gcI, pullI, push1, pushI, pullS, pushS, gcH, patL, canL, canH, canTL, canT, segR, ix, upd, up1, mapC_rows, mapC_gone, pushC_rows, pushC_gone, pullP, pullV, pullSS, pullD, pullT, pullF, pushP, pushV, pushSS, pushD, pushT, pushF, pullD16, pushD16, choHead, AH, AH2, rowA, cT, cF, cW, cB, pull_I, push_I, pull_PE, push_PE, pull_V, pull_B, push_B, g0, g2, g14, g15, g16, hRl, hTl, itA, anewN, openN, sB]
    · simp [Function.comp_def, get_gcT, get, put, gcI, pullI, push1, pushI, pullS, pushS, gcH, patL, canL, canH, canTL, canT, segR, ix, upd, up1, mapC_rows, mapC_gone, pushC_rows, pushC_gone, pullP, pullV, pullSS, pullD, pullT, pullF, pushP, pushV, pushSS, pushD, pushT, pushF, pullD16, pushD16, choHead, AH, AH2, rowA, cT, cF, cW, cB, pull_I, push_I, pull_PE, push_PE, pull_V, pull_B, push_B, g0, g2, g14, g15, g16, hRl, hTl, itA, anewN, openN, sB]
    · simp [Function.comp_def, get_gcT, get, put, gcI, pullI, push1, pushI, pullS, pushS, gcH, patL, canL, canH, canTL, canT, segR, ix, upd, up1, mapC_rows, mapC_gone, pushC_rows, pushC_gone, pullP, pullV, pullSS, pullD, pullT, pullF, pushP, pushV, pushSS, pushD, pushT, pushF, pullD16, pushD16, choHead, AH, AH2, rowA, cT, cF, cW, cB, pull_I, push_I, pull_PE, push_PE, pull_V, pull_B, push_B, g0, g2, g14, g15, g16, hRl, hTl, itA, anewN, openN, sB]
    · simp [Function.comp_def, get_gcT, get, put, gcI, pullI, push1, pushI, pullS, pushS, gcH, patL, canL, canH, canTL, canT, segR, ix, upd, up1, mapC_rows, mapC_gone, pushC_rows, pushC_gone, pullP, pullV, pullSS, pullD, pullT, pullF, pushP, pushV, pushSS, pushD, pushT, pushF, pullD16, pushD16, choHead, AH, AH2, rowA, cT, cF, cW, cB, pull_I, push_I, pull_PE, push_PE, pull_V, pull_B, push_B, g0, g2, g14, g15, g16, hRl, hTl, itA, anewN, openN, sB]
    · simp [Function.comp_def, get_gcT, get, put, gcI, pullI, push1, pushI, pullS, pushS, gcH, patL, canL, canH, canTL, canT, segR, ix, upd, up1, mapC_rows, mapC_gone, pushC_rows, pushC_gone, pullP, pullV, pullSS, pullD, pullT, pullF, pushP, pushV, pushSS, pushD, pushT, pushF, pullD16, pushD16, choHead, AH, AH2, rowA, cT, cF, cW, cB, pull_I, push_I, pull_PE, push_PE, pull_V, pull_B, push_B, g0, g2, g14, g15, g16, hRl, hTl, itA, anewN, openN, sB]
    rintro m tm H ⟨i, rfl, hi, g0, g5, g6, g7, g57, g58, g59, rfl⟩
    have fr := itA_fr (asI_fr R T) a i
    have hNl := anewN_len a.ps.length R T a i
    have hWl := openN_len a.ps.length R T a i
    by_cases hq : i < a.ps.length
    · have q : decide ((i : Int) < (a.ps.length : Int)) = true := decide_eq_true (by omega)
      have hb0 : (0 : Int) ≤ (i : Int) := by omega
      have hbN : (i : Int) < (a.ps.length : Int) := by omega
      have hi1 : IntKind.i64.wrap ((i : Int) + 1) = ((i + 1 : Nat) : Int) := by rw [wr_i64 (by omega) (by omega)]; rfl
      obtain ⟨p, hp⟩ : ∃ p, ((itA (asI R T) a i).ps)[i]? = some p := ⟨_, List.getElem?_eq_getElem (by rw [fr.len]; omega)⟩
      have hpr : (((itA (asI R T) a i).ps).map encPE)[i]? = some (encPE p) := by rw [List.getElem?_map, hp]; rfl
      have hnx := itA_next hp
      have hnN : anewN a.ps.length R T a (i + 1) = (anewN a.ps.length R T a i).set i (asA p (R.getD i 0) (T.getD i ⟨0, 0, 0, 0⟩)) := by simp only [anewN, hp]
      have hnW : openN a.ps.length R T a (i + 1) = (openN a.ps.length R T a i).set i (asO p (R.getD i 0) (T.getD i ⟨0, 0, 0, 0⟩) (itA (asI R T) a i).cf) := by simp only [openN, hp]
      have hbl := fr.len
      clear fr
      obtain ⟨t, ht⟩ : ∃ t, T[i]? = some t := ⟨_, List.getElem?_eq_getElem (by omega)⟩
      obtain ⟨r, hr⟩ : ∃ r, R[i]? = some r := ⟨_, List.getElem?_eq_getElem (by omega)⟩
      have htr : (T.map encV)[i]? = some (encV t) := by rw [List.getElem?_map, ht]; rfl
      have hrr : (R.map sI)[i]? = some (sI r) := by rw [List.getElem?_map, hr]; rfl
      have hgr : R.getD i 0 = r := by rw [List.getD_eq_getElem?_getD, hr]; rfl
      have hgt : T.getD i ⟨0, 0, 0, 0⟩ = t := by rw [List.getD_eq_getElem?_getD, ht]; rfl
      rw [hgr, hgt] at hnN hnW
      generalize itA (asI R T) a i = b at *
      generalize anewN a.ps.length R T a i = N at *
      generalize openN a.ps.length R T a i = W at *
      obtain ⟨q2, hq2⟩ : ∃ q2, q2 = asP p r t b.cf := ⟨_, rfl⟩
      obtain ⟨x1, hx1⟩ : ∃ x, x = asA p r t := ⟨_, rfl⟩
      obtain ⟨x2, hx2⟩ : ∃ x, x = asO p r t b.cf := ⟨_, rfl⟩
      have hmod : asI R T b i p = { b with ps := b.ps.set i q2 } := by simp only [asI, hgr, hgt, hq2]
      have ca : Fun Try.prog 57 [.a (encPE p), .s (.raw (.int .i64 r)), .a (encV t), .a (encCF b.cf)] (.t [.a (encPE q2), .s (.raw (.bool x1)), .s (.raw (.bool x2))]) := by
        have := c_Assume p r t b.cf
        rwa [← hq2, ← hx1, ← hx2] at this
      rw [hmod] at hnx
      rw [← hx1] at hnN
      rw [← hx2] at hnW
      clear hx1 hx2 hq2 hmod
      have hbN' : (i : Int) < (b.ps.length : Int) := by omega
      have hcP : ∀ l, cP l = .rows true 21 (l.map encPE) := fun _ => rfl
      have hcB : ∀ l, cB l = .rows true 1 (l.map sB) := fun _ => rfl
      have hcF : ∀ l, cF l = .rows true 1 (l.map sI) := fun _ => rfl
      have hcW : ∀ l, cW l = .rows true 4 (l.map encV) := fun _ => rfl
      have hnl2 : (N.map sB).length = a.ps.length := by rw [List.length_map, hNl]
      obtain ⟨n0, hn0⟩ : ∃ x, N[i]? = some x := ⟨_, List.getElem?_eq_getElem (by omega)⟩
      obtain ⟨w0, hw0⟩ : ∃ x, W[i]? = some x := ⟨_, List.getElem?_eq_getElem (by omega)⟩
      have hnr : (N.map sB)[i]? = some (sB n0) := by rw [List.getElem?_map, hn0]; rfl
      have hwr : (W.map sB)[i]? = some (sB w0) := by rw [List.getElem?_map, hw0]; rfl
      have hwl2 : (W.map sB).length = a.ps.length := by rw [List.length_map, hWl]
      unfold choHead AH
      repeat' first
        | with_reducible rfl
        | simp only [rowA, hcP, hcB, hcF, hcW, sI, sB, encV, q, hb0, hbN, hbN', hbl, hi1, hpr, htr, hrr, hRl, hTl, hNl, hWl, hnl2, hwl2, hnr, hwr, encPE, g0, g5, g6, g7, g57, g58, g59, List.length_map, Int.toNat_natCast, RS_, FB_, segR, ST_, seval, ne_eq, bne, forall_const, implies_true, TY_, WLS]
        | (with_reducible refine drawK_id ?_); refine drawK_auto hmix (by kernel_rfl) ?_
        | (with_reducible refine draw_fin ?_ ?_); · kernel_rfl
        | (with_reducible refine draw_id ?_); kernel_rfl
        | (with_reducible refine callD_id (f := 57) ?_); refine callD_of (ca) rfl rfl ?_
        | (with_reducible refine And.intro ?_ ?_; · omega)
      refine ⟨a.ps.length - (i + 1), _, _, by omega, Wk.gc [0, 1, 2, 3, 4, 5, 6, 7, 8, 9, 10, 11] rfl (by decide), i + 1, rfl, by omega, ?_, ?_, ?_, ?_, ?_, ?_, ?_, ?_⟩ <;> first | (simp [Function.comp_def, get_gcT, get, put, gcI, pullI, push1, pushI, pullS, pushS, gcH, patL, canL, canH, canTL, canT, segR, ix, upd, up1, mapC_rows, mapC_gone, pushC_rows, pushC_gone, pullP, pullV, pullSS, pullD, pullT, pullF, pushP, pushV, pushSS, pushD, pushT, pushF, pullD16, pushD16, choHead, AH, AH2, rowA, cT, cF, cW, cB, pull_I, push_I, pull_PE, push_PE, pull_V, pull_B, push_B, g0, g5, g6, g7, g57, g58, g59]; done) | (rw [hnx, hnN, hnW]; simp [Function.comp_def, get_gcT, get, put, gcI, pullI, push1, pushI, pullS, pushS, gcH, patL, canL, canH, canTL, canT, segR, ix, upd, up1, mapC_rows, mapC_gone, pushC_rows, pushC_gone, pullP, pullV, pullSS, pullD, pullT, pullF, pushP, pushV, pushSS, pushD, pushT, pushF, pullD16, pushD16, choHead, AH, AH2, rowA, cT, cF, cW, cB, pull_I, push_I, pull_PE, push_PE, pull_V, pull_B, push_B, cP, setPE, setB, hbl, hRl, hTl])
    · have q : decide ((i : Int) < (a.ps.length : Int)) = false := decide_eq_false (by omega)
      have hin : i = a.ps.length := by omega
      subst hin
      have hbl := fr.len
      have hbs := fr.sz
      rw [Nat.mul_zero] at hbs
      have hall : chooseA a = allA tellI2 (anewN a.ps.length R T a a.ps.length) (allA changedI (openN a.ps.length R T a a.ps.length) (itA (asI R T) a a.ps.length) a.ps.length) a.ps.length := by
        unfold chooseA chooseRT
        rw [hR, hT]
      rw [hall]
      clear hall fr
      generalize itA (asI R T) a a.ps.length = b at *
      generalize anewN a.ps.length R T a a.ps.length = N at *
      generalize openN a.ps.length R T a a.ps.length = W at *
      have frC := allA_fr (f := changedI) (n := b.ps.length) (fun b i h => h ▸ changedI_fr b i) W b rfl W.length
      have hcc := Nat.mul_le_mul (by omega : W.length ≤ 100) (by omega : b.ps.length ≤ 100)
      have hcC := c_allC W b (by omega) (by omega) (by omega)
      generalize hc2 : allA changedI W b W.length = c at *
      have hcl := frC.len
      have hcs := frC.sz
      have hcT := c_allT N c (by omega) (by omega) (by omega)
      generalize hd2 : allA tellI2 N c N.length = d at *
      have hcP := True.intro
      unfold choHead AH
      repeat' first
        | with_reducible rfl
        | simp only [rowA, hcP, q, g0, g5, g6, g7, g57, g58, g59, RS_, FB_, segR, ST_, seval, ne_eq, bne, forall_const, implies_true, TY_, WLS]
        | (with_reducible refine drawK_id ?_); refine drawK_auto hmix (by kernel_rfl) ?_
        | (with_reducible refine draw_fin ?_ ?_); · kernel_rfl
        | (with_reducible refine draw_id ?_); kernel_rfl
        | ((with_reducible refine callK_id (f := 34) ?_); refine callK_funW [] [0, 1, 2, 3, 4, 5, 6, 11, 12] hcC (by simp [AHB, kC, pullHW, rowA, pullS, pullI, ix, pull_PE, pullB, pushB, mapC_clo, pushC_clo, mapC_rows, mapC_gone, pushC_rows, pushC_gone, pullP, pullV, pullSS, pullD, pullT, pullF, pushP, pushV, pushSS, pushD, pushT, pushF, pullD16, pushD16]) rfl rfl (by decide) (by simp [cP, cV, cS, cD, cT, cF, cB, kC]) (by simp [pullI, pullS, ix, hWl, hNl]) ?_; rintro r Hn ⟨rfl, rfl⟩ -; clear hcP)
        | ((with_reducible refine genK_id ?_); refine makeFunc_gen (by simp [rd, put, get, flat, isT]) rfl ?_)
        | (with_reducible refine And.intro ?_ ?_; · omega)
      have hcP := True.intro
      repeat' first
        | with_reducible rfl
        | simp only [AHB2, kC, rowA, mapC_rows, mapC_gone, pushC_rows, pushC_gone, pullP, pullV, pullSS, pullD, pullT, pullF, pushP, pushV, pushSS, pushD, pushT, pushF, pullD16, pushD16, pull_I, push_I, pullW, pushW, pullB, pushB, mapC_clo, pushC_clo, hcP, g0, g5, g6, g7, RS_, FB_, segR, ST_, seval, ne_eq, bne, forall_const, implies_true, TY_, WLS]
        | (with_reducible refine drawK_id ?_); refine drawK_auto hmix (by kernel_rfl) ?_
        | (with_reducible refine draw_fin ?_ ?_); · kernel_rfl
        | (with_reducible refine draw_id ?_); kernel_rfl
        | ((with_reducible refine callK_id (f := 34) ?_); refine callK_funW [] [0, 1, 2, 3, 4, 13, 14, 10, 15] hcT (by simp [AHB, kC, pullHW, rowA, pullS, pullI, ix, pull_PE, pullB, pushB, mapC_clo, pushC_clo, mapC_rows, mapC_gone, pushC_rows, pushC_gone, pullP, pullV, pullSS, pullD, pullT, pullF, pushP, pushV, pushSS, pushD, pushT, pushF, pullD16, pushD16]) rfl rfl (by decide) (by simp [cP, cV, cS, cD, cT, cF, cB, kC]) (by simp [pullI, pullS, ix, hWl, hNl]) ?_; rintro r Hn ⟨rfl, rfl⟩ -; clear hcP)
        | ((with_reducible refine genK_id ?_); refine makeFunc_gen (by simp [rd, put, get, flat, isT]) rfl ?_)
        | (with_reducible refine And.intro ?_ ?_; · omega)
      repeat' first
        | with_reducible rfl
        | simp only [AHB2, kC, rowA, mapC_rows, mapC_gone, pushC_rows, pushC_gone, pullP, pullV, pullSS, pullD, pullT, pullF, pushP, pushV, pushSS, pushD, pushT, pushF, pullD16, pushD16, pull_I, push_I, pullW, pushW, pullB, pushB, mapC_clo, pushC_clo, RS_, FB_, segR, ST_, seval, ne_eq, bne, forall_const, implies_true, TY_, WLS]
        | (with_reducible refine drawK_id ?_); refine drawK_auto hmix (by kernel_rfl) ?_
        | (with_reducible refine draw_fin ?_ ?_); · kernel_rfl
        | (with_reducible refine draw_id ?_); kernel_rfl
        | (with_reducible refine And.intro ?_ ?_; · omega)
      rw [hWl] at hc2
      rw [hNl] at hd2
      rw [hc2, hd2]
      all_goals (refine ⟨.t [], AH2 d, (WkR.gc [0, 1, 2, 3, 4, 5, 6, 16, 17] rfl (by decide)).to rfl ?_, by simp [AH2], rfl, rfl⟩; simp [Function.comp_def, get_gcT, get, put, gcI, pullI, push1, pushI, pullS, pushS, gcH, patL, canL, canH, canTL, canT, segR, ix, upd, up1, mapC_rows, mapC_gone, pushC_rows, pushC_gone, pullP, pullV, pullSS, pullD, pullT, pullF, pushP, pushV, pushSS, pushD, pushT, pushF, pullD16, pushD16, AH, AH2, rowA, cT, cF, pull_I, push_I, pull_PE, push_PE, pull_PT, push_PT, pull_B, push_B])
end Go.Ev
