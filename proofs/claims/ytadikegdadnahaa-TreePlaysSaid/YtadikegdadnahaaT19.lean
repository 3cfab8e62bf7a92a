/- A part of the proof: contracts of the functions that the statement reaches. -/
import Derived.Test.YtadikegdadnahaaT18
namespace Go.Ev
open Go.Proofs
set_option maxRecDepth 100000
set_option linter.unusedSimpArgs false
set_option linter.unusedVariables false
set_option maxHeartbeats 4000000
theorem nn_tellI2 (b : AS) (i : Nat) (h : NnA b) : NnA (tellI2 b i) := by unfold tellI2; split <;> exact h
def arrB (l : List Bool) : List SV := l.map fun b => .raw (.bool b)
theorem arrB_len (l : List Bool) : (arrB l).length = l.length := List.length_map _
theorem arrB_pull (σ : List Nat) (l : List Bool) : (arrB l).map (pullS σ) = arrB l := by unfold arrB; rw [List.map_map]; rfl
theorem arrB_push (σ : List Nat) (l : List Bool) : (arrB l).map (pushS σ) = arrB l := by unfold arrB; rw [List.map_map]; rfl
theorem arrB_get {l : List Bool} {i : Nat} {x : Bool} (h : l[i]? = some x) : ((arrB l).drop i).take 1 = [.raw (.bool x)] := by
  obtain ⟨hi, e⟩ := List.getElem?_eq_some_iff.1 h
  have hi2 : i < (arrB l).length := by rw [arrB_len]; exact hi
  rw [List.drop_eq_getElem_cons hi2]
  simp [arrB, e]
theorem arrB_set {l : List Bool} {i : Nat} (hi : i < l.length) (x : Bool) : (arrB l).take i ++ (.raw (.bool x) :: (arrB l).drop (i + 1)) = arrB (l.set i x) := by
  unfold arrB
  rw [List.set_eq_take_append_cons_drop, if_pos hi]
  simp
theorem arrB_get1 {l : List Bool} {i : Nat} {x : Bool} (h : l[i]? = some x) : (arrB l)[i]? = some (.raw (.bool x)) := by unfold arrB; rw [List.getElem?_map, h]; rfl
def cA16 (l : List Bool) : Chunk := .rows true 16 [arrB l]
def cPT (l : List PT) : Chunk := .rows true 8 (l.map encP)
theorem pullPT (σ : List Nat) (g : IV → IV) (l : List PT) : mapC (pullS σ) g (cPT l) = cPT l := by
  show Chunk.rows true _ _ = _
  unfold cPT
  congr 1
  rw [List.map_map]; rfl
theorem pushPT (σ : List Nat) (l : List PT) : pushC σ (cPT l) = cPT l := by
  show Chunk.rows true _ _ = _
  unfold cPT
  congr 1
  rw [List.map_map]; rfl
theorem pull16 (σ : List Nat) (g : IV → IV) (l : List Bool) : mapC (pullS σ) g (cA16 l) = cA16 l := by
  show Chunk.rows true _ _ = _
  unfold cA16
  rw [List.map_cons, arrB_pull]; rfl
theorem push16 (σ : List Nat) (l : List Bool) : pushC σ (cA16 l) = cA16 l := by
  show Chunk.rows true _ _ = _
  unfold cA16
  rw [List.map_cons, arrB_push]; rfl
def tchHead (b : AS) (L : List PT) (R : List Int) (T : List V4) (x y z : Int) (N W : List Bool) : Heap := AH b ++ [cPT L, cF R, cW T, .rows true 5 [[.raw (.int .u64 x), .raw (.int .u32 y), .raw (.int .i64 z), .slice 8 0 R.length, .slice 9 0 T.length]], cA16 N, cA16 W]
def AHT (L : List PT) (N W : List Bool) (a : AS) : Heap := [.rows true 27 [rowA 1 2 3 4 10 11 a], cP a.ps, cV a.vs, cS a.ss, cD a.ds, .gone, .gone, cPT L, cA16 N, cA16 W, cT a.told, cF a.fl]
def I_tc1 (a : AS) (m : Nat) (tm : TM) (H : Heap) : Prop := ∃ i : Nat, m = a.ps.length - i ∧ i ≤ a.ps.length ∧ get tm 0 = .s (.ptr 0 0 0) ∧ get tm 2 = .s (.slice 7 0 i) ∧ get tm 3 = .s (.raw (.int .i64 (i : Int))) ∧ H = AH a ++ [cPT (ptsN a.ps i)]
def I_tc2 (a : AS) (R : List Int) (T : List V4) (x y z : Int) (m : Nat) (tm : TM) (H : Heap) : Prop := ∃ i : Nat, m = a.ps.length - i ∧ i ≤ a.ps.length ∧ get tm 0 = .s (.ptr 0 0 0) ∧ get tm 2 = .s (.slice 7 0 a.ps.length) ∧ get tm 5 = .s (.ptr 10 0 0) ∧ get tm 6 = .s (.ptr 11 0 0) ∧ get tm 7 = .s (.ptr 12 0 0) ∧ get tm 8 = .s (.raw (.int .i64 (i : Int))) ∧
  H = tchHead (itA (asI R T) a i) (ptsN a.ps a.ps.length) R T x y z (anewN 16 R T a i) (openN 16 R T a i)
def I_tc3 (L : List PT) (N W : List Bool) (b : AS) (m : Nat) (tm : TM) (H : Heap) : Prop := ∃ i : Nat, m = b.ps.length - i ∧ i ≤ b.ps.length ∧ get tm 0 = .s (.ptr 0 0 0) ∧ get tm 2 = .s (.slice 7 0 b.ps.length) ∧ get tm 6 = .s (.ptr 8 0 0) ∧ get tm 7 = .s (.ptr 9 0 0) ∧ get tm 12 = .s (.raw (.int .i64 (i : Int))) ∧ H = AHT L N W (allA changedI W b i)
def I_tc4 (L : List PT) (N W : List Bool) (b : AS) (m : Nat) (tm : TM) (H : Heap) : Prop := ∃ i : Nat, m = b.ps.length - i ∧ i ≤ b.ps.length ∧ get tm 0 = .s (.ptr 0 0 0) ∧ get tm 2 = .s (.slice 7 0 b.ps.length) ∧ get tm 6 = .s (.ptr 8 0 0) ∧ get tm 13 = .s (.raw (.int .i64 (i : Int))) ∧ H = AHT L N W (allA tellI2 N b i)
theorem c_tchoose (a : AS) (hn : a.ps.length ≤ 16) (hN : NnA a) (hb : szA a ≤ 700000) : FunW Try.prog 43 [] (AH a) [.s (.ptr 0 0 0)] fun r Hn => r = .t [] ∧ Hn = AH2 (chooseA a) := by
  refine funW_of fun X => ?_
  refine callK_inline (rs := []) (n := 133) Try.func43 rfl rfl rfl (by kernel_rfl) (by kernel_rfl) (by simp only [List.length_cons, List.length_nil]; decide) ?_
  unfold AH
  repeat' first
    | with_reducible rfl
    | simp only [rowA, RS_, FB_, segR, ST_, seval, ne_eq, bne, forall_const, implies_true, TY_, WLS]
    | with_reducible refine gdb_split (fun h => ?_) (fun h => ?_)
    | (with_reducible refine drawK_id ?_); refine drawK_auto hmix (by kernel_rfl) ?_
    | (with_reducible refine draw_fin ?_ ?_); · kernel_rfl
    | (with_reducible refine draw_id ?_); kernel_rfl
    | (with_reducible refine And.intro ?_ ?_; · omega)
  refine loopK_wk (by kernel_rfl) (I_tc1 a) a.ps.length ⟨_, _, Wk.can2 [(8, 2)] [] [.inl 0, .inl 1, .inl 2, .inl 3, .inl 4, .inl 5, .inl 6, .inr 0] rfl (by simp [patL]), 0, by omega, by omega, ?_, ?_, ?_, ?_⟩ ?_
  · simp [Function.comp_def, get_gcT, get, put, gcI, pullI, push1, pushI, pullS, pushS, gcH, patL, canL, canH, canTL, canT, segR, ix, upd, up1, mapC_rows, mapC_gone, pushC_rows, pushC_gone, pullP, pullV, pullSS, pullD, pullT, pullF, pushP, pushV, pushSS, pushD, pushT, pushF, pullD16, pushD16, AH, AH2, rowA, cT, cF, pull_I, push_I, pull_PE, push_PE, pull_PT, push_PT, pull_B, push_B, ptsN, cPT]
  · simp [Function.comp_def, get_gcT, get, put, gcI, pullI, push1, pushI, pullS, pushS, gcH, patL, canL, canH, canTL, canT, segR, ix, upd, up1, mapC_rows, mapC_gone, pushC_rows, pushC_gone, pullP, pullV, pullSS, pullD, pullT, pullF, pushP, pushV, pushSS, pushD, pushT, pushF, pullD16, pushD16, AH, AH2, rowA, cT, cF, pull_I, push_I, pull_PE, push_PE, pull_PT, push_PT, pull_B, push_B, ptsN, cPT]
  · simp [Function.comp_def, get_gcT, get, put, gcI, pullI, push1, pushI, pullS, pushS, gcH, patL, canL, canH, canTL, canT, segR, ix, upd, up1, mapC_rows, mapC_gone, pushC_rows, pushC_gone, pullP, pullV, pullSS, pullD, pullT, pullF, pushP, pushV, pushSS, pushD, pushT, pushF, pullD16, pushD16, AH, AH2, rowA, cT, cF, pull_I, push_I, pull_PE, push_PE, pull_PT, push_PT, pull_B, push_B, ptsN, cPT]
  · simp [Function.comp_def, get_gcT, get, put, gcI, pullI, push1, pushI, pullS, pushS, gcH, patL, canL, canH, canTL, canT, segR, ix, upd, up1, mapC_rows, mapC_gone, pushC_rows, pushC_gone, pullP, pullV, pullSS, pullD, pullT, pullF, pushP, pushV, pushSS, pushD, pushT, pushF, pullD16, pushD16, AH, AH2, rowA, cT, cF, pull_I, push_I, pull_PE, push_PE, pull_PT, push_PT, pull_B, push_B, ptsN, cPT]
  rintro m tm H ⟨i, rfl, hi, g0, g2, g3, rfl⟩
  have hpl := ptsN_len a.ps i hi
  have hptl : ((ptsN a.ps i).map encP).length = i := by rw [List.length_map, hpl]
  by_cases hq : i < a.ps.length
  · have q : decide ((i : Int) < (a.ps.length : Int)) = true := decide_eq_true (by omega)
    have hb0 : (0 : Int) ≤ (i : Int) := by omega
    have hbN : (i : Int) < (a.ps.length : Int) := by omega
    have hi1 : IntKind.i64.wrap ((i : Int) + 1) = ((i + 1 : Nat) : Int) := by rw [wr_i64 (by omega) (by omega)]; rfl
    obtain ⟨p, hp⟩ : ∃ p, (a.ps)[i]? = some p := ⟨_, List.getElem?_eq_getElem (by omega)⟩
    have hpr : ((a.ps).map encPE)[i]? = some (encPE p) := by rw [List.getElem?_map, hp]; rfl
    have hnx : ptsN a.ps (i + 1) = ptsN a.ps i ++ [ptOf p i] := by simp only [ptsN, hp]
    have hi2 : IntKind.i64.wrap ((i : Int) + 1) = (i : Int) + 1 := wr_i64 (by omega) (by omega)
    have hbig : (i + 1) * 40 ≤ 140737488355328 := by omega
    have hps := encPEs_get hp
    have hon : onP p = if p.up then p.ad else false := rfl
    have hcP := cP_s
    have hcT : ∀ l, cPT l = .rows true 8 (l.map encP) := fun _ => rfl
    unfold AH
    cases e1 : p.up with
    | true =>
      repeat' first
        | with_reducible rfl
        | simp only [rowA, hcP, hcT, encPEs_len, q, hb0, hbN, hi2, hps, hptl, hbig, encPE, g0, g2, g3, List.length_map, Int.toNat_natCast, e1, RS_, FB_, segR, ST_, seval, ne_eq, bne, forall_const, implies_true, TY_, WLS]
        | (with_reducible refine drawK_id ?_); refine drawK_auto hmix (by kernel_rfl) ?_
        | (with_reducible refine draw_fin ?_ ?_); · kernel_rfl
        | (with_reducible refine draw_id ?_); kernel_rfl
        | (with_reducible refine callD_id (f := 15) ?_); refine callD_of (c_ID') rfl rfl ?_
        | (with_reducible refine And.intro ?_ ?_; · omega)
      refine ⟨a.ps.length - (i + 1), _, _, by omega, Wk.can2 [(8, 2)] [] [.inl 0, .inl 1, .inl 2, .inl 3, .inl 4, .inl 5, .inl 6, .inr 0] rfl (by simp [patL]), i + 1, rfl, by omega, ?_, ?_, ?_, ?_⟩ <;> first | (simp [Function.comp_def, get_gcT, get, put, gcI, pullI, push1, pushI, pullS, pushS, gcH, patL, canL, canH, canTL, canT, segR, ix, upd, up1, mapC_rows, mapC_gone, pushC_rows, pushC_gone, pullP, pullV, pullSS, pullD, pullT, pullF, pushP, pushV, pushSS, pushD, pushT, pushF, pullD16, pushD16, AH, AH2, rowA, cT, cF, pull_I, push_I, pull_PE, push_PE, pull_PT, push_PT, pull_B, push_B, cP_s, encPEs_pull, g0, g2, g3, hi1, hptl, hpl]; done) | (simp [Function.comp_def, get_gcT, get, put, gcI, pullI, push1, pushI, pullS, pushS, gcH, patL, canL, canH, canTL, canT, segR, ix, upd, up1, mapC_rows, mapC_gone, pushC_rows, pushC_gone, pullP, pullV, pullSS, pullD, pullT, pullF, pushP, pushV, pushSS, pushD, pushT, pushF, pullD16, pushD16, AH, AH2, rowA, cT, cF, pull_I, push_I, pull_PE, push_PE, pull_PT, push_PT, pull_B, push_B, cP_s, encPEs_pull, g0, g2, hptl, hpl, hnx, cPT, encP, ptOf, idP, hon, e1])
    | false =>
      repeat' first
        | with_reducible rfl
        | simp only [rowA, hcP, hcT, encPEs_len, q, hb0, hbN, hi2, hps, hptl, hbig, encPE, g0, g2, g3, List.length_map, Int.toNat_natCast, e1, RS_, FB_, segR, ST_, seval, ne_eq, bne, forall_const, implies_true, TY_, WLS]
        | (with_reducible refine drawK_id ?_); refine drawK_auto hmix (by kernel_rfl) ?_
        | (with_reducible refine draw_fin ?_ ?_); · kernel_rfl
        | (with_reducible refine draw_id ?_); kernel_rfl
        | (with_reducible refine callD_id (f := 15) ?_); refine callD_of (c_ID') rfl rfl ?_
        | (with_reducible refine And.intro ?_ ?_; · omega)
      refine ⟨a.ps.length - (i + 1), _, _, by omega, Wk.can2 [(8, 2)] [] [.inl 0, .inl 1, .inl 2, .inl 3, .inl 4, .inl 5, .inl 6, .inr 0] rfl (by simp [patL]), i + 1, rfl, by omega, ?_, ?_, ?_, ?_⟩ <;> first | (simp [Function.comp_def, get_gcT, get, put, gcI, pullI, push1, pushI, pullS, pushS, gcH, patL, canL, canH, canTL, canT, segR, ix, upd, up1, mapC_rows, mapC_gone, pushC_rows, pushC_gone, pullP, pullV, pullSS, pullD, pullT, pullF, pushP, pushV, pushSS, pushD, pushT, pushF, pullD16, pushD16, AH, AH2, rowA, cT, cF, pull_I, push_I, pull_PE, push_PE, pull_PT, push_PT, pull_B, push_B, cP_s, encPEs_pull, g0, g2, g3, hi1, hptl, hpl]; done) | (simp [Function.comp_def, get_gcT, get, put, gcI, pullI, push1, pushI, pullS, pushS, gcH, patL, canL, canH, canTL, canT, segR, ix, upd, up1, mapC_rows, mapC_gone, pushC_rows, pushC_gone, pullP, pullV, pullSS, pullD, pullT, pullF, pushP, pushV, pushSS, pushD, pushT, pushF, pullD16, pushD16, AH, AH2, rowA, cT, cF, pull_I, push_I, pull_PE, push_PE, pull_PT, push_PT, pull_B, push_B, cP_s, encPEs_pull, g0, g2, hptl, hpl, hnx, cPT, encP, ptOf, idP, hon, e1])
  · have q : decide ((i : Int) < (a.ps.length : Int)) = false := decide_eq_false (by omega)
    have hin : i = a.ps.length := by omega
    subst hin
    have cr := c_RChoose a (by omega)
    have hRl := rolesA_len a
    have hTl := tellsA_len a
    unfold AH
    have hcP := True.intro
    repeat' first
      | with_reducible rfl
      | simp only [rowA, hcP, q, g0, g2, g3, RS_, FB_, segR, ST_, seval, ne_eq, bne, forall_const, implies_true, TY_, WLS]
      | (with_reducible refine drawK_id ?_); refine drawK_auto hmix (by kernel_rfl) ?_
      | (with_reducible refine draw_fin ?_ ?_); · kernel_rfl
      | (with_reducible refine draw_id ?_); kernel_rfl
      | ((with_reducible refine callK_id (f := 16) ?_); refine callK_funW [7] [] cr (by simp [Function.comp_def, pullHW, roC_rows, cPT, pull_PT]) rfl rfl (by decide) (by simp [cPT]) (by simp [pullI, pullS, ix]) ?_; rintro r Hn ⟨x, y, z, rfl, rfl⟩ -; clear hcP)
      | (with_reducible refine And.intro ?_ ?_; · omega)
    have hmod : chooseA a = chooseRT 16 (rolesA a) (tellsA a) a := (chooseRT_same 16 (rolesA a) (tellsA a) a hn).symm
    rw [hmod]
    generalize hR : rolesA a = R at *
    generalize hT : tellsA a = T at *
    clear hmod
    repeat' first
      | with_reducible rfl
      | simp only [rowA, hRl, hTl, g0, g2, g3, mapC_rows, mapC_gone, pushC_rows, pushC_gone, pullP, pullV, pullSS, pullD, pullT, pullF, pushP, pushV, pushSS, pushD, pushT, pushF, pullD16, pushD16, pull_I, push_I, pullW, pushW, pullPT, pushPT, pull16, push16, RS_, FB_, segR, ST_, seval, ne_eq, bne, forall_const, implies_true, TY_, WLS]
      | (with_reducible refine drawK_id ?_); refine drawK_auto hmix (by kernel_rfl) ?_
      | (with_reducible refine draw_fin ?_ ?_); · kernel_rfl
      | (with_reducible refine draw_id ?_); kernel_rfl
      | (with_reducible refine And.intro ?_ ?_; · omega)
    refine loopK_wk (by kernel_rfl) (I_tc2 a R T x y z) a.ps.length ⟨_, _, Wk.gc [0, 1, 2, 3, 4, 5, 6, 7, 8, 9, 10, 11, 12] rfl (by decide), 0, by omega, by omega, ?_, ?_, ?_, ?_, ?_, ?_, ?_⟩ ?_
    · simp [Function.comp_def, get_gcT, get, put, gcI, pullI, push1, pushI, pullS, pushS, gcH, patL, canL, canH, canTL, canT, segR, ix, upd, up1, mapC_rows, mapC_gone, pushC_rows, pushC_gone, pullP, pullV, pullSS, pullD, pullT, pullF, pushP, pushV, pushSS, pushD, pushT, pushF, pullD16, pushD16, tchHead, AH, rowA, pullW, pullPT, pull16, arrB_pull, cA16, g0, g2, g3, hRl, hTl, itA, anewN, openN, arrB]
    · simp [Function.comp_def, get_gcT, get, put, gcI, pullI, push1, pushI, pullS, pushS, gcH, patL, canL, canH, canTL, canT, segR, ix, upd, up1, mapC_rows, mapC_gone, pushC_rows, pushC_gone, pullP, pullV, pullSS, pullD, pullT, pullF, pushP, pushV, pushSS, pushD, pushT, pushF, pullD16, pushD16, tchHead, AH, rowA, pullW, pullPT, pull16, arrB_pull, cA16, g0, g2, g3, hRl, hTl, itA, anewN, openN, arrB]
    · simp [Function.comp_def, get_gcT, get, put, gcI, pullI, push1, pushI, pullS, pushS, gcH, patL, canL, canH, canTL, canT, segR, ix, upd, up1, mapC_rows, mapC_gone, pushC_rows, pushC_gone, pullP, pullV, pullSS, pullD, pullT, pullF, pushP, pushV, pushSS, pushD, pushT, pushF, pullD16, pushD16, tchHead, AH, rowA, pullW, pullPT, pull16, arrB_pull, cA16, g0, g2, g3, hRl, hTl, itA, anewN, openN, arrB]
    · simp [Function.comp_def, get_gcT, get, put, gcI, pullI, push1, pushI, pullS, pushS, gcH, patL, canL, canH, canTL, canT, segR, ix, upd, up1, mapC_rows, mapC_gone, pushC_rows, pushC_gone, pullP, pullV, pullSS, pullD, pullT, pullF, pushP, pushV, pushSS, pushD, pushT, pushF, pullD16, pushD16, tchHead, AH, rowA, pullW, pullPT, pull16, arrB_pull, cA16, g0, g2, g3, hRl, hTl, itA, anewN, openN, arrB]
    · simp [Function.comp_def, get_gcT, get, put, gcI, pullI, push1, pushI, pullS, pushS, gcH, patL, canL, canH, canTL, canT, segR, ix, upd, up1, mapC_rows, mapC_gone, pushC_rows, pushC_gone, pullP, pullV, pullSS, pullD, pullT, pullF, pushP, pushV, pushSS, pushD, pushT, pushF, pullD16, pushD16, tchHead, AH, rowA, pullW, pullPT, pull16, arrB_pull, cA16, g0, g2, g3, hRl, hTl, itA, anewN, openN, arrB]
    · simp [Function.comp_def, get_gcT, get, put, gcI, pullI, push1, pushI, pullS, pushS, gcH, patL, canL, canH, canTL, canT, segR, ix, upd, up1, mapC_rows, mapC_gone, pushC_rows, pushC_gone, pullP, pullV, pullSS, pullD, pullT, pullF, pushP, pushV, pushSS, pushD, pushT, pushF, pullD16, pushD16, tchHead, AH, rowA, pullW, pullPT, pull16, arrB_pull, cA16, g0, g2, g3, hRl, hTl, itA, anewN, openN, arrB]
    · simp [Function.comp_def, get_gcT, get, put, gcI, pullI, push1, pushI, pullS, pushS, gcH, patL, canL, canH, canTL, canT, segR, ix, upd, up1, mapC_rows, mapC_gone, pushC_rows, pushC_gone, pullP, pullV, pullSS, pullD, pullT, pullF, pushP, pushV, pushSS, pushD, pushT, pushF, pullD16, pushD16, tchHead, AH, rowA, pullW, pullPT, pull16, arrB_pull, cA16, g0, g2, g3, hRl, hTl, itA, anewN, openN, arrB]
    rintro m tm H ⟨i, rfl, hi, g0, g2, g5, g6, g7, g8, rfl⟩
    have fr := itA_fr (asI_fr R T) a i
    have hNl := anewN_len 16 R T a i
    have hWl := openN_len 16 R T a i
    by_cases hq : i < a.ps.length
    · have q : decide ((i : Int) < (a.ps.length : Int)) = true := decide_eq_true (by omega)
      have hb0 : (0 : Int) ≤ (i : Int) := by omega
      have hbN : (i : Int) < (a.ps.length : Int) := by omega
      have hi1 : IntKind.i64.wrap ((i : Int) + 1) = ((i + 1 : Nat) : Int) := by rw [wr_i64 (by omega) (by omega)]; rfl
      obtain ⟨p, hp⟩ : ∃ p, ((itA (asI R T) a i).ps)[i]? = some p := ⟨_, List.getElem?_eq_getElem (by rw [fr.len]; omega)⟩
      have hpr : (((itA (asI R T) a i).ps).map encPE)[i]? = some (encPE p) := by rw [List.getElem?_map, hp]; rfl
      have hnx := itA_next hp
      have hnN : anewN 16 R T a (i + 1) = (anewN 16 R T a i).set i (asA p (R.getD i 0) (T.getD i ⟨0, 0, 0, 0⟩)) := by simp only [anewN, hp]
      have hnW : openN 16 R T a (i + 1) = (openN 16 R T a i).set i (asO p (R.getD i 0) (T.getD i ⟨0, 0, 0, 0⟩) (itA (asI R T) a i).cf) := by simp only [openN, hp]
      have hbl := fr.len
      clear fr
      obtain ⟨t, ht⟩ : ∃ t, T[i]? = some t := ⟨_, List.getElem?_eq_getElem (by omega)⟩
      obtain ⟨r, hr⟩ : ∃ r, R[i]? = some r := ⟨_, List.getElem?_eq_getElem (by omega)⟩
      have htr : (T.map encV)[i]? = some (encV t) := by rw [List.getElem?_map, ht]; rfl
      have hrr : (R.map sI)[i]? = some (sI r) := by rw [List.getElem?_map, hr]; rfl
      have hgr : R.getD i 0 = r := by rw [List.getD_eq_getElem?_getD, hr]; rfl
      have hgt : T.getD i ⟨0, 0, 0, 0⟩ = t := by rw [List.getD_eq_getElem?_getD, ht]; rfl
      rw [hgr, hgt] at hnN hnW
      generalize itA (asI R T) a i = b at *
      generalize anewN 16 R T a i = N at *
      generalize openN 16 R T a i = W at *
      obtain ⟨q2, hq2⟩ : ∃ q2, q2 = asP p r t b.cf := ⟨_, rfl⟩
      obtain ⟨x1, hx1⟩ : ∃ x, x = asA p r t := ⟨_, rfl⟩
      obtain ⟨x2, hx2⟩ : ∃ x, x = asO p r t b.cf := ⟨_, rfl⟩
      have hmod : asI R T b i p = { b with ps := b.ps.set i q2 } := by simp only [asI, hgr, hgt, hq2]
      have ca : Fun Try.prog 57 [.a (encPE p), .s (.raw (.int .i64 r)), .a (encV t), .a (encCF b.cf)] (.t [.a (encPE q2), .s (.raw (.bool x1)), .s (.raw (.bool x2))]) := by
        have := c_Assume p r t b.cf
        rwa [← hq2, ← hx1, ← hx2] at this
      rw [hmod] at hnx
      rw [← hx1] at hnN
      rw [← hx2] at hnW
      clear hx1 hx2 hq2 hmod
      have hbN' : (i : Int) < (b.ps.length : Int) := by omega
      have hb16 : (i : Int) < 16 := by omega
      have h16 : i + 1 ≤ 16 := by omega
      have h15 : i ≤ 15 := by omega
      have hps := encPEs_get hp
      have hsN := arrB_set (l := N) (by omega : i < N.length)
      have hsW := arrB_set (l := W) (by omega : i < W.length)
      have hcF : ∀ l, cF l = .rows true 1 (l.map sI) := fun _ => rfl
      have hcW : ∀ l, cW l = .rows true 4 (l.map encV) := fun _ => rfl
      have hcB : ∀ l, cA16 l = .rows true 16 [arrB l] := fun _ => rfl
      have hcP := cP_s
      unfold tchHead AH
      repeat' first
        | with_reducible rfl
        | simp only [rowA, hcP, hcB, hcF, hcW, encPEs_len, arrB_len, sI, encV, q, hb0, hbN, hbN', hb16, h16, h15, hbl, hi1, hps, htr, hrr, hRl, hTl, hNl, hWl, hsN, hsW, encPE, g0, g2, g5, g6, g7, g8, Nat.mul_one, List.length_map, Int.toNat_natCast, RS_, FB_, segR, ST_, seval, ne_eq, bne, forall_const, implies_true, TY_, WLS]
        | (with_reducible refine drawK_id ?_); refine drawK_auto hmix (by kernel_rfl) ?_
        | (with_reducible refine draw_fin ?_ ?_); · kernel_rfl
        | (with_reducible refine draw_id ?_); kernel_rfl
        | (with_reducible refine callD_id (f := 57) ?_); refine callD_of (ca) rfl rfl ?_
        | (with_reducible refine And.intro ?_ ?_; · omega)
      refine ⟨a.ps.length - (i + 1), _, _, by omega, Wk.gc [0, 1, 2, 3, 4, 5, 6, 7, 8, 9, 10, 11, 12] rfl (by decide), i + 1, rfl, by omega, ?_, ?_, ?_, ?_, ?_, ?_, ?_⟩ <;> first | (simp [Function.comp_def, get_gcT, get, put, gcI, pullI, push1, pushI, pullS, pushS, gcH, patL, canL, canH, canTL, canT, segR, ix, upd, up1, mapC_rows, mapC_gone, pushC_rows, pushC_gone, pullP, pullV, pullSS, pullD, pullT, pullF, pushP, pushV, pushSS, pushD, pushT, pushF, pullD16, pushD16, tchHead, AH, rowA, pullW, pullPT, pull16, arrB_pull, cA16, cF, cW, pull_I, pull_V, cP_s, encPEs_pull, setPEs, g0, g2, g5, g6, g7, hi1]; done) | (rw [hnx, hnN, hnW]; simp [Function.comp_def, get_gcT, get, put, gcI, pullI, push1, pushI, pullS, pushS, gcH, patL, canL, canH, canTL, canT, segR, ix, upd, up1, mapC_rows, mapC_gone, pushC_rows, pushC_gone, pullP, pullV, pullSS, pullD, pullT, pullF, pushP, pushV, pushSS, pushD, pushT, pushF, pullD16, pushD16, tchHead, AH, rowA, pullW, pullPT, pull16, arrB_pull, cA16, cF, cW, pull_I, pull_V, cP_s, encPEs_pull, setPEs, hbl, hRl, hTl, hsN, hsW])
    · have q : decide ((i : Int) < (a.ps.length : Int)) = false := decide_eq_false (by omega)
      have hin : i = a.ps.length := by omega
      subst hin
      have hbl := fr.len
      have hbs := fr.sz
      rw [Nat.mul_zero] at hbs
      have hNb : NnA (itA (asI R T) a a.ps.length) := nn_itA (nn_asI R T) hN _
      have hall : chooseRT 16 R T a = allA tellI2 (anewN 16 R T a a.ps.length) (allA changedI (openN 16 R T a a.ps.length) (itA (asI R T) a a.ps.length) (itA (asI R T) a a.ps.length).ps.length) (allA changedI (openN 16 R T a a.ps.length) (itA (asI R T) a a.ps.length) (itA (asI R T) a a.ps.length).ps.length).ps.length := by
        have h2 := allA_fr (f := changedI) (n := a.ps.length) (fun b i h => h ▸ changedI_fr b i) (openN 16 R T a a.ps.length) (itA (asI R T) a a.ps.length) hbl (itA (asI R T) a a.ps.length).ps.length
        rw [h2.len, hbl]; rfl
      rw [hall]
      have hptl := ptsN_len a.ps a.ps.length (Nat.le_refl _)
      clear hall fr
      generalize itA (asI R T) a a.ps.length = b at *
      generalize anewN 16 R T a a.ps.length = N at *
      generalize openN 16 R T a a.ps.length = W at *
      generalize ptsN a.ps a.ps.length = L at *
      unfold tchHead AH
      repeat' first
        | with_reducible rfl
        | simp only [rowA, q, g0, g2, g5, g6, g7, g8, RS_, FB_, segR, ST_, seval, ne_eq, bne, forall_const, implies_true, TY_, WLS]
        | (with_reducible refine drawK_id ?_); refine drawK_auto hmix (by kernel_rfl) ?_
        | (with_reducible refine draw_fin ?_ ?_); · kernel_rfl
        | (with_reducible refine draw_id ?_); kernel_rfl
        | (with_reducible refine And.intro ?_ ?_; · omega)
      rw [← hbl] at g2
      refine loopK_wk (by kernel_rfl) (I_tc3 L N W b) b.ps.length ⟨_, _, Wk.can [(17, 0, 0, 25), (1, 0, 0, 26)] [.inl 0, .inl 1, .inl 2, .inl 3, .inl 4, .inl 5, .inl 6, .inl 7, .inl 11, .inl 12, .inr 0, .inr 1] rfl (by simp [patL]), 0, by omega, by omega, ?_, ?_, ?_, ?_, ?_, ?_⟩ ?_
      · simp [Function.comp_def, get_gcT, get, put, gcI, pullI, push1, pushI, pullS, pushS, gcH, patL, canL, canH, canTL, canT, segR, ix, upd, up1, mapC_rows, mapC_gone, pushC_rows, pushC_gone, pullP, pullV, pullSS, pullD, pullT, pullF, pushP, pushV, pushSS, pushD, pushT, pushF, pullD16, pushD16, AHT, tchHead, AH, rowA, cT, cF, pull_I, push_I, pullW, pullPT, pull16, g0, g2, g6, g7, allA]
      · simp [Function.comp_def, get_gcT, get, put, gcI, pullI, push1, pushI, pullS, pushS, gcH, patL, canL, canH, canTL, canT, segR, ix, upd, up1, mapC_rows, mapC_gone, pushC_rows, pushC_gone, pullP, pullV, pullSS, pullD, pullT, pullF, pushP, pushV, pushSS, pushD, pushT, pushF, pullD16, pushD16, AHT, tchHead, AH, rowA, cT, cF, pull_I, push_I, pullW, pullPT, pull16, g0, g2, g6, g7, allA]
      · simp [Function.comp_def, get_gcT, get, put, gcI, pullI, push1, pushI, pullS, pushS, gcH, patL, canL, canH, canTL, canT, segR, ix, upd, up1, mapC_rows, mapC_gone, pushC_rows, pushC_gone, pullP, pullV, pullSS, pullD, pullT, pullF, pushP, pushV, pushSS, pushD, pushT, pushF, pullD16, pushD16, AHT, tchHead, AH, rowA, cT, cF, pull_I, push_I, pullW, pullPT, pull16, g0, g2, g6, g7, allA]
      · simp [Function.comp_def, get_gcT, get, put, gcI, pullI, push1, pushI, pullS, pushS, gcH, patL, canL, canH, canTL, canT, segR, ix, upd, up1, mapC_rows, mapC_gone, pushC_rows, pushC_gone, pullP, pullV, pullSS, pullD, pullT, pullF, pushP, pushV, pushSS, pushD, pushT, pushF, pullD16, pushD16, AHT, tchHead, AH, rowA, cT, cF, pull_I, push_I, pullW, pullPT, pull16, g0, g2, g6, g7, allA]
      · simp [Function.comp_def, get_gcT, get, put, gcI, pullI, push1, pushI, pullS, pushS, gcH, patL, canL, canH, canTL, canT, segR, ix, upd, up1, mapC_rows, mapC_gone, pushC_rows, pushC_gone, pullP, pullV, pullSS, pullD, pullT, pullF, pushP, pushV, pushSS, pushD, pushT, pushF, pullD16, pushD16, AHT, tchHead, AH, rowA, cT, cF, pull_I, push_I, pullW, pullPT, pull16, g0, g2, g6, g7, allA]
      · simp [Function.comp_def, get_gcT, get, put, gcI, pullI, push1, pushI, pullS, pushS, gcH, patL, canL, canH, canTL, canT, segR, ix, upd, up1, mapC_rows, mapC_gone, pushC_rows, pushC_gone, pullP, pullV, pullSS, pullD, pullT, pullF, pushP, pushV, pushSS, pushD, pushT, pushF, pullD16, pushD16, AHT, tchHead, AH, rowA, cT, cF, pull_I, push_I, pullW, pullPT, pull16, g0, g2, g6, g7, allA]
      · rintro m tm H ⟨i, rfl, hi, g0, g2, g6, g7, g12, rfl⟩
        have fr := allA_fr (f := changedI) (n := b.ps.length) (fun b i h => h ▸ changedI_fr b i) W b rfl i
        have hNc : NnA (allA changedI W b i) := nn_allA nn_changedI _ hNb _
        by_cases hq : i < b.ps.length
        · have q : decide ((i : Int) < (b.ps.length : Int)) = true := decide_eq_true (by omega)
          have hb0 : (0 : Int) ≤ (i : Int) := by omega
          have hbN : (i : Int) < 16 := by omega
          have h16 : i + 1 ≤ 16 := by omega
          have h15 : i ≤ 15 := by omega
          have hi1 : IntKind.i64.wrap ((i : Int) + 1) = ((i + 1 : Nat) : Int) := by rw [wr_i64 (by omega) (by omega)]; rfl
          obtain ⟨p, hp⟩ : ∃ p, (allA changedI W b i).ps[i]? = some p := ⟨_, List.getElem?_eq_getElem (by rw [fr.len]; omega)⟩
          obtain ⟨x, hx⟩ : ∃ x, W[i]? = some x := ⟨_, List.getElem?_eq_getElem (by omega)⟩
          have hxr := arrB_get hx
          have hx1 := arrB_get1 hx
          have hnx : allA changedI W b (i + 1) = if x = true then changedI (allA changedI W b i) i else allA changedI W b i := by simp only [allA, hx, Option.some.injEq]
          have hbs2 : szA (allA changedI W b i) ≤ 850000 := by
            have h1 := fr.sz
            have h2 : i * b.ps.length ≤ 16 * 16 := Nat.mul_le_mul (by omega) (by omega)
            omega
          have hcl := fr.len
          clear fr
          generalize allA changedI W b i = c at *
          have cc := c_tchanged c i p (by omega) hp (by omega)
          have hm : changedI c i = changedA c i p := by simp only [changedI, hp]
          rw [hm] at hnx
          unfold AHT
          cases x with
          | true =>
            have hc16 : ∀ l, cA16 l = .rows true 16 [arrB l] := fun _ => rfl
            simp only [if_true] at hnx
            repeat' first
              | with_reducible rfl
              | simp only [q, hb0, hbN, h16, h15, hi1, hxr, hx1, arrB_len, hWl, hNl, g0, g2, g6, g7, g12, rowA, hc16, Nat.mul_one, Int.toNat_natCast, RS_, FB_, segR, ST_, seval, ne_eq, bne, forall_const, implies_true, TY_, WLS]
              | (with_reducible refine drawK_id ?_); refine drawK_auto hmix (by kernel_rfl) ?_
              | (with_reducible refine draw_fin ?_ ?_); · kernel_rfl
              | (with_reducible refine draw_id ?_); kernel_rfl
              | ((with_reducible refine callK_id (f := 44) ?_); refine callK_funW [] [0, 1, 2, 3, 4, 10, 11] cc (by simp [AH, pullHW, rowA, pullS, ix, pull_PE, mapC_rows, mapC_gone, pushC_rows, pushC_gone, pullP, pullV, pullSS, pullD, pullT, pullF, pushP, pushV, pushSS, pushD, pushT, pushF, pullD16, pushD16]) rfl rfl (by decide) (by simp [cP, cV, cS, cD, cT, cF]) (by simp [pullI, pullS, ix]) ?_; rintro r Hn ⟨rfl, rfl⟩ -; clear hc16)
              | (with_reducible refine And.intro ?_ ?_; · omega)
            repeat' first
              | with_reducible rfl
              | simp only [AH2, rowA, hi1, g0, g2, g6, g7, g12, mapC_rows, mapC_gone, pushC_rows, pushC_gone, pullP, pullV, pullSS, pullD, pullT, pullF, pushP, pushV, pushSS, pushD, pushT, pushF, pullD16, pushD16, pull_I, push_I, pullW, pushW, pullPT, pushPT, pull16, push16, arrB_pull, arrB_push, pushC_rows, RS_, FB_, segR, ST_, seval, ne_eq, bne, forall_const, implies_true, TY_, WLS]
              | (with_reducible refine drawK_id ?_); refine drawK_auto hmix (by kernel_rfl) ?_
              | (with_reducible refine draw_fin ?_ ?_); · kernel_rfl
              | (with_reducible refine draw_id ?_); kernel_rfl
              | (with_reducible refine And.intro ?_ ?_; · omega)
            refine ⟨b.ps.length - (i + 1), _, _, by omega, Wk.can [(17, 0, 0, 25), (1, 0, 0, 26)] [.inl 0, .inl 1, .inl 2, .inl 3, .inl 4, .inl 5, .inl 6, .inl 7, .inl 8, .inl 9, .inr 0, .inr 1] rfl (by simp [patL]), i + 1, rfl, by omega, ?_, ?_, ?_, ?_, ?_, ?_⟩ <;> first | (simp [Function.comp_def, get_gcT, get, put, gcI, pullI, push1, pushI, pullS, pushS, gcH, patL, canL, canH, canTL, canT, segR, ix, upd, up1, mapC_rows, mapC_gone, pushC_rows, pushC_gone, pullP, pullV, pullSS, pullD, pullT, pullF, pushP, pushV, pushSS, pushD, pushT, pushF, pullD16, pushD16, AHT, tchHead, AH, rowA, cT, cF, pull_I, push_I, pullW, pullPT, pull16, g0, g2, g6, g7, g12, hi1]; done) | (rw [hnx]; simp [Function.comp_def, get_gcT, get, put, gcI, pullI, push1, pushI, pullS, pushS, gcH, patL, canL, canH, canTL, canT, segR, ix, upd, up1, mapC_rows, mapC_gone, pushC_rows, pushC_gone, pullP, pullV, pullSS, pullD, pullT, pullF, pushP, pushV, pushSS, pushD, pushT, pushF, pullD16, pushD16, AHT, tchHead, AH, rowA, cT, cF, pull_I, push_I, pullW, pullPT, cA16, arrB_pull])
          | false =>
            have hc16 : ∀ l, cA16 l = .rows true 16 [arrB l] := fun _ => rfl
            simp only [Bool.false_eq_true, if_false] at hnx
            repeat' first
              | with_reducible rfl
              | simp only [q, hb0, hbN, h16, h15, hi1, hxr, hx1, arrB_len, hWl, hNl, g0, g2, g6, g7, g12, rowA, hc16, Nat.mul_one, Int.toNat_natCast, RS_, FB_, segR, ST_, seval, ne_eq, bne, forall_const, implies_true, TY_, WLS]
              | (with_reducible refine drawK_id ?_); refine drawK_auto hmix (by kernel_rfl) ?_
              | (with_reducible refine draw_fin ?_ ?_); · kernel_rfl
              | (with_reducible refine draw_id ?_); kernel_rfl
              | ((with_reducible refine callK_id (f := 44) ?_); refine callK_funW [] [0, 1, 2, 3, 4, 10, 11] cc (by simp [AH, pullHW, rowA, pullS, ix, pull_PE, mapC_rows, mapC_gone, pushC_rows, pushC_gone, pullP, pullV, pullSS, pullD, pullT, pullF, pushP, pushV, pushSS, pushD, pushT, pushF, pullD16, pushD16]) rfl rfl (by decide) (by simp [cP, cV, cS, cD, cT, cF]) (by simp [pullI, pullS, ix]) ?_; rintro r Hn ⟨rfl, rfl⟩ -; clear hc16)
              | (with_reducible refine And.intro ?_ ?_; · omega)
            refine ⟨b.ps.length - (i + 1), _, _, by omega, Wk.can [(17, 0, 0, 25), (1, 0, 0, 26)] [.inl 0, .inl 1, .inl 2, .inl 3, .inl 4, .inl 5, .inl 6, .inl 7, .inl 8, .inl 9, .inr 0, .inr 1] rfl (by simp [patL]), i + 1, rfl, by omega, ?_, ?_, ?_, ?_, ?_, ?_⟩ <;> first | (simp [Function.comp_def, get_gcT, get, put, gcI, pullI, push1, pushI, pullS, pushS, gcH, patL, canL, canH, canTL, canT, segR, ix, upd, up1, mapC_rows, mapC_gone, pushC_rows, pushC_gone, pullP, pullV, pullSS, pullD, pullT, pullF, pushP, pushV, pushSS, pushD, pushT, pushF, pullD16, pushD16, AHT, tchHead, AH, rowA, cT, cF, pull_I, push_I, pullW, pullPT, pull16, g0, g2, g6, g7, g12, hi1]; done) | (rw [hnx]; simp [Function.comp_def, get_gcT, get, put, gcI, pullI, push1, pushI, pullS, pushS, gcH, patL, canL, canH, canTL, canT, segR, ix, upd, up1, mapC_rows, mapC_gone, pushC_rows, pushC_gone, pullP, pullV, pullSS, pullD, pullT, pullF, pushP, pushV, pushSS, pushD, pushT, pushF, pullD16, pushD16, AHT, tchHead, AH, rowA, cT, cF, pull_I, push_I, pullW, pullPT, cA16, arrB_pull])
        · have q : decide ((i : Int) < (b.ps.length : Int)) = false := decide_eq_false (by omega)
          have hin : i = b.ps.length := by omega
          subst hin
          have hcl := fr.len
          have hcs := fr.sz
          have hcc := Nat.mul_le_mul (by omega : b.ps.length ≤ 16) (by omega : b.ps.length ≤ 16)
          clear fr
          generalize allA changedI W b b.ps.length = c at *
          unfold AHT
          repeat' first
            | with_reducible rfl
            | simp only [rowA, q, g0, g2, g6, g7, g12, RS_, FB_, segR, ST_, seval, ne_eq, bne, forall_const, implies_true, TY_, WLS]
            | (with_reducible refine drawK_id ?_); refine drawK_auto hmix (by kernel_rfl) ?_
            | (with_reducible refine draw_fin ?_ ?_); · kernel_rfl
            | (with_reducible refine draw_id ?_); kernel_rfl
            | (with_reducible refine And.intro ?_ ?_; · omega)
          rw [← hcl] at g2
          have hNc0 := hNc
          refine loopK_wk (by kernel_rfl) (I_tc4 L N W c) c.ps.length ⟨_, _, Wk.can [(17, 0, 0, 25), (1, 0, 0, 26)] [.inl 0, .inl 1, .inl 2, .inl 3, .inl 4, .inl 5, .inl 6, .inl 7, .inl 8, .inl 9, .inr 0, .inr 1] rfl (by simp [patL]), 0, by omega, by omega, ?_, ?_, ?_, ?_, ?_⟩ ?_
          · simp [Function.comp_def, get_gcT, get, put, gcI, pullI, push1, pushI, pullS, pushS, gcH, patL, canL, canH, canTL, canT, segR, ix, upd, up1, mapC_rows, mapC_gone, pushC_rows, pushC_gone, pullP, pullV, pullSS, pullD, pullT, pullF, pushP, pushV, pushSS, pushD, pushT, pushF, pullD16, pushD16, AHT, tchHead, AH, rowA, cT, cF, pull_I, push_I, pullW, pullPT, pull16, g0, g2, g6, g7, allA]
          · simp [Function.comp_def, get_gcT, get, put, gcI, pullI, push1, pushI, pullS, pushS, gcH, patL, canL, canH, canTL, canT, segR, ix, upd, up1, mapC_rows, mapC_gone, pushC_rows, pushC_gone, pullP, pullV, pullSS, pullD, pullT, pullF, pushP, pushV, pushSS, pushD, pushT, pushF, pullD16, pushD16, AHT, tchHead, AH, rowA, cT, cF, pull_I, push_I, pullW, pullPT, pull16, g0, g2, g6, g7, allA]
          · simp [Function.comp_def, get_gcT, get, put, gcI, pullI, push1, pushI, pullS, pushS, gcH, patL, canL, canH, canTL, canT, segR, ix, upd, up1, mapC_rows, mapC_gone, pushC_rows, pushC_gone, pullP, pullV, pullSS, pullD, pullT, pullF, pushP, pushV, pushSS, pushD, pushT, pushF, pullD16, pushD16, AHT, tchHead, AH, rowA, cT, cF, pull_I, push_I, pullW, pullPT, pull16, g0, g2, g6, g7, allA]
          · simp [Function.comp_def, get_gcT, get, put, gcI, pullI, push1, pushI, pullS, pushS, gcH, patL, canL, canH, canTL, canT, segR, ix, upd, up1, mapC_rows, mapC_gone, pushC_rows, pushC_gone, pullP, pullV, pullSS, pullD, pullT, pullF, pushP, pushV, pushSS, pushD, pushT, pushF, pullD16, pushD16, AHT, tchHead, AH, rowA, cT, cF, pull_I, push_I, pullW, pullPT, pull16, g0, g2, g6, g7, allA]
          · simp [Function.comp_def, get_gcT, get, put, gcI, pullI, push1, pushI, pullS, pushS, gcH, patL, canL, canH, canTL, canT, segR, ix, upd, up1, mapC_rows, mapC_gone, pushC_rows, pushC_gone, pullP, pullV, pullSS, pullD, pullT, pullF, pushP, pushV, pushSS, pushD, pushT, pushF, pullD16, pushD16, AHT, tchHead, AH, rowA, cT, cF, pull_I, push_I, pullW, pullPT, pull16, g0, g2, g6, g7, allA]
          · rintro m tm H ⟨i, rfl, hi, g0, g2, g6, g13, rfl⟩
            have fr := allA_fr (f := tellI2) (n := c.ps.length) (fun b i _ => tellI2_fr b i) N c rfl i
            have hNe : NnA (allA tellI2 N c i) := nn_allA nn_tellI2 _ hNc0 _
            by_cases hq : i < c.ps.length
            · have q : decide ((i : Int) < (c.ps.length : Int)) = true := decide_eq_true (by omega)
              have hb0 : (0 : Int) ≤ (i : Int) := by omega
              have hbN : (i : Int) < 16 := by omega
              have h16 : i + 1 ≤ 16 := by omega
              have h15 : i ≤ 15 := by omega
              have hi1 : IntKind.i64.wrap ((i : Int) + 1) = ((i + 1 : Nat) : Int) := by rw [wr_i64 (by omega) (by omega)]; rfl
              obtain ⟨p, hp⟩ : ∃ p, (allA tellI2 N c i).ps[i]? = some p := ⟨_, List.getElem?_eq_getElem (by rw [fr.len]; omega)⟩
              obtain ⟨x, hx⟩ : ∃ x, N[i]? = some x := ⟨_, List.getElem?_eq_getElem (by omega)⟩
              have hxr := arrB_get hx
              have hx1 := arrB_get1 hx
              have hnx : allA tellI2 N c (i + 1) = if x = true then tellI2 (allA tellI2 N c i) i else allA tellI2 N c i := by simp only [allA, hx, Option.some.injEq]
              have hbs2 : szA (allA tellI2 N c i) ≤ 850000 := by
                have h1 := fr.sz
                have h2 : i * 1 ≤ 16 * 16 := Nat.mul_le_mul (by omega) (by omega)
                omega
              have hel := fr.len
              clear fr
              generalize allA tellI2 N c i = e at *
              have cc := c_ttell e i p (by omega) hp (hNe.at hp) (by have := szA_t e; omega)
              have hm : tellI2 e i = tellA e i p := by simp only [tellI2, hp]
              rw [hm] at hnx
              unfold AHT
              cases x with
              | true =>
                have hc16 : ∀ l, cA16 l = .rows true 16 [arrB l] := fun _ => rfl
                simp only [if_true] at hnx
                repeat' first
                  | with_reducible rfl
                  | simp only [q, hb0, hbN, h16, h15, hi1, hxr, hx1, arrB_len, hWl, hNl, g0, g2, g6, g13, rowA, hc16, Nat.mul_one, Int.toNat_natCast, RS_, FB_, segR, ST_, seval, ne_eq, bne, forall_const, implies_true, TY_, WLS]
                  | (with_reducible refine drawK_id ?_); refine drawK_auto hmix (by kernel_rfl) ?_
                  | (with_reducible refine draw_fin ?_ ?_); · kernel_rfl
                  | (with_reducible refine draw_id ?_); kernel_rfl
                  | ((with_reducible refine callK_id (f := 45) ?_); refine callK_funW [] [0, 1, 2, 3, 4, 10, 11] cc (by simp [AH, pullHW, rowA, pullS, ix, pull_PE, mapC_rows, mapC_gone, pushC_rows, pushC_gone, pullP, pullV, pullSS, pullD, pullT, pullF, pushP, pushV, pushSS, pushD, pushT, pushF, pullD16, pushD16]) rfl rfl (by decide) (by simp [cP, cV, cS, cD, cT, cF]) (by simp [pullI, pullS, ix]) ?_; rintro r Hn ⟨rfl, rfl⟩ -; clear hc16)
                  | (with_reducible refine And.intro ?_ ?_; · omega)
                repeat' first
                  | with_reducible rfl
                  | simp only [AH2, rowA, hi1, g0, g2, g6, g13, mapC_rows, mapC_gone, pushC_rows, pushC_gone, pullP, pullV, pullSS, pullD, pullT, pullF, pushP, pushV, pushSS, pushD, pushT, pushF, pullD16, pushD16, pull_I, push_I, pullW, pushW, pullPT, pushPT, pull16, push16, arrB_pull, arrB_push, pushC_rows, RS_, FB_, segR, ST_, seval, ne_eq, bne, forall_const, implies_true, TY_, WLS]
                  | (with_reducible refine drawK_id ?_); refine drawK_auto hmix (by kernel_rfl) ?_
                  | (with_reducible refine draw_fin ?_ ?_); · kernel_rfl
                  | (with_reducible refine draw_id ?_); kernel_rfl
                  | (with_reducible refine And.intro ?_ ?_; · omega)
                refine ⟨c.ps.length - (i + 1), _, _, by omega, Wk.can [(17, 0, 0, 25), (1, 0, 0, 26)] [.inl 0, .inl 1, .inl 2, .inl 3, .inl 4, .inl 5, .inl 6, .inl 7, .inl 8, .inl 9, .inr 0, .inr 1] rfl (by simp [patL]), i + 1, rfl, by omega, ?_, ?_, ?_, ?_, ?_⟩ <;> first | (simp [Function.comp_def, get_gcT, get, put, gcI, pullI, push1, pushI, pullS, pushS, gcH, patL, canL, canH, canTL, canT, segR, ix, upd, up1, mapC_rows, mapC_gone, pushC_rows, pushC_gone, pullP, pullV, pullSS, pullD, pullT, pullF, pushP, pushV, pushSS, pushD, pushT, pushF, pullD16, pushD16, AHT, tchHead, AH, rowA, cT, cF, pull_I, push_I, pullW, pullPT, pull16, g0, g2, g6, g13, hi1]; done) | (rw [hnx]; simp [Function.comp_def, get_gcT, get, put, gcI, pullI, push1, pushI, pullS, pushS, gcH, patL, canL, canH, canTL, canT, segR, ix, upd, up1, mapC_rows, mapC_gone, pushC_rows, pushC_gone, pullP, pullV, pullSS, pullD, pullT, pullF, pushP, pushV, pushSS, pushD, pushT, pushF, pullD16, pushD16, AHT, tchHead, AH, rowA, cT, cF, pull_I, push_I, pullW, pullPT, cA16, arrB_pull])
              | false =>
                have hc16 : ∀ l, cA16 l = .rows true 16 [arrB l] := fun _ => rfl
                simp only [Bool.false_eq_true, if_false] at hnx
                repeat' first
                  | with_reducible rfl
                  | simp only [q, hb0, hbN, h16, h15, hi1, hxr, hx1, arrB_len, hWl, hNl, g0, g2, g6, g13, rowA, hc16, Nat.mul_one, Int.toNat_natCast, RS_, FB_, segR, ST_, seval, ne_eq, bne, forall_const, implies_true, TY_, WLS]
                  | (with_reducible refine drawK_id ?_); refine drawK_auto hmix (by kernel_rfl) ?_
                  | (with_reducible refine draw_fin ?_ ?_); · kernel_rfl
                  | (with_reducible refine draw_id ?_); kernel_rfl
                  | ((with_reducible refine callK_id (f := 45) ?_); refine callK_funW [] [0, 1, 2, 3, 4, 10, 11] cc (by simp [AH, pullHW, rowA, pullS, ix, pull_PE, mapC_rows, mapC_gone, pushC_rows, pushC_gone, pullP, pullV, pullSS, pullD, pullT, pullF, pushP, pushV, pushSS, pushD, pushT, pushF, pullD16, pushD16]) rfl rfl (by decide) (by simp [cP, cV, cS, cD, cT, cF]) (by simp [pullI, pullS, ix]) ?_; rintro r Hn ⟨rfl, rfl⟩ -; clear hc16)
                  | (with_reducible refine And.intro ?_ ?_; · omega)
                refine ⟨c.ps.length - (i + 1), _, _, by omega, Wk.can [(17, 0, 0, 25), (1, 0, 0, 26)] [.inl 0, .inl 1, .inl 2, .inl 3, .inl 4, .inl 5, .inl 6, .inl 7, .inl 8, .inl 9, .inr 0, .inr 1] rfl (by simp [patL]), i + 1, rfl, by omega, ?_, ?_, ?_, ?_, ?_⟩ <;> first | (simp [Function.comp_def, get_gcT, get, put, gcI, pullI, push1, pushI, pullS, pushS, gcH, patL, canL, canH, canTL, canT, segR, ix, upd, up1, mapC_rows, mapC_gone, pushC_rows, pushC_gone, pullP, pullV, pullSS, pullD, pullT, pullF, pushP, pushV, pushSS, pushD, pushT, pushF, pullD16, pushD16, AHT, tchHead, AH, rowA, cT, cF, pull_I, push_I, pullW, pullPT, pull16, g0, g2, g6, g13, hi1]; done) | (rw [hnx]; simp [Function.comp_def, get_gcT, get, put, gcI, pullI, push1, pushI, pullS, pushS, gcH, patL, canL, canH, canTL, canT, segR, ix, upd, up1, mapC_rows, mapC_gone, pushC_rows, pushC_gone, pullP, pullV, pullSS, pullD, pullT, pullF, pushP, pushV, pushSS, pushD, pushT, pushF, pullD16, pushD16, AHT, tchHead, AH, rowA, cT, cF, pull_I, push_I, pullW, pullPT, cA16, arrB_pull])
            · have q : decide ((i : Int) < (c.ps.length : Int)) = false := decide_eq_false (by omega)
              have hin : i = c.ps.length := by omega
              subst hin
              repeat' first
                | with_reducible rfl
                | simp only [AHT, rowA, q, g0, g2, g6, g13, RS_, FB_, segR, ST_, seval, ne_eq, bne, forall_const, implies_true, TY_, WLS]
                | (with_reducible refine drawK_id ?_); refine drawK_auto hmix (by kernel_rfl) ?_
                | (with_reducible refine draw_fin ?_ ?_); · kernel_rfl
                | (with_reducible refine draw_id ?_); kernel_rfl
                | (with_reducible refine And.intro ?_ ?_; · omega)
              all_goals (refine ⟨.t [], AH2 (allA tellI2 N c c.ps.length), (WkR.gc [0, 1, 2, 3, 4, 5, 6, 10, 11] rfl (by decide)).to rfl ?_, by simp [AH2], rfl, rfl⟩; simp [Function.comp_def, get_gcT, get, put, gcI, pullI, push1, pushI, pullS, pushS, gcH, patL, canL, canH, canTL, canT, segR, ix, upd, up1, mapC_rows, mapC_gone, pushC_rows, pushC_gone, pullP, pullV, pullSS, pullD, pullT, pullF, pushP, pushV, pushSS, pushD, pushT, pushF, pullD16, pushD16, AH2, rowA])
end Go.Ev
