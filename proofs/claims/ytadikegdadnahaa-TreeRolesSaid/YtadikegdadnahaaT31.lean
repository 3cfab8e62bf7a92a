/- A part of the proof: contracts of the functions that the statement reaches. -/
import Derived.Test.YtadikegdadnahaaT30
namespace Go.Ev
open Go.Proofs
set_option maxRecDepth 100000
set_option linter.unusedSimpArgs false
set_option linter.unusedVariables false
set_option maxHeartbeats 4000000
theorem push_X (σ : List Nat) (x : A18) : (encX x).map (pushS σ) = encX x := rfl
theorem push_SP (σ : List Nat) (p : SPt) : (encSP p).map (pushS σ) = encSP p := rfl
/-! ### bits -/
def openF (f : Nat → Bool) : Nat → Int
  | 0 => 0
  | i + 1 => if f i then bOr IntKind.u32 (openF f i) (shL IntKind.u32 1 i) else openF f i
theorem openB_F (ps : List PE) (s : Int) : ∀ i, openB ps s i = openF (fun j => match ps[j]? with | some p => seenP p s | none => false) i
  | 0 => rfl
  | i + 1 => by
    unfold openB openF
    rw [← openB_F ps s i]
    cases ps[i]? with
    | some p => rfl
    | none => rfl
def halfN (x : Int) : Nat → Int
  | 0 => x
  | j + 1 => IntKind.u32.wrap (Int.tdiv (halfN x j) 2)
theorem bits6 (f : Nat → Bool) : ∀ n, n ≤ 6 → ∀ k, k < n → (Int.tmod (halfN (openF f n) k) 2 == 1) = f k := by
  intro n hn k hk
  have h : n = 0 ∨ n = 1 ∨ n = 2 ∨ n = 3 ∨ n = 4 ∨ n = 5 ∨ n = 6 := by omega
  have h2 : k = 0 ∨ k = 1 ∨ k = 2 ∨ k = 3 ∨ k = 4 ∨ k = 5 := by omega
  rcases h with rfl | rfl | rfl | rfl | rfl | rfl | rfl <;> rcases h2 with rfl | rfl | rfl | rfl | rfl | rfl <;> first
    | omega
    | (simp only [openF]
       generalize f 0 = b0; try generalize f 1 = b1
       try generalize f 2 = b2
       try generalize f 3 = b3
       try generalize f 4 = b4
       try generalize f 5 = b5
       revert b0
       try revert b1
       try revert b2
       try revert b3
       try revert b4
       try revert b5
       decide +kernel)
theorem bits (ps : List PE) (s : Int) (h : ps.length ≤ 6) {k : Nat} {p : PE} (hp : ps[k]? = some p) : (Int.tmod (halfN (openB ps s ps.length) k) 2 == 1) = seenP p s := by
  have hk := (List.getElem?_eq_some_iff.1 hp).1
  rw [openB_F, bits6 _ _ h k hk]
  simp only [hp]
def L27 (xs : List SPt) (l : List A18) (a : AS) : Heap := [.rows false 5 (xs.map encSP), .rows false 14 (l.map encX), .rows true 25 [rowS 3 4 5 6 a], cP a.ps, cV a.vs, cS a.ss, cD a.ds]
def I_r0 (xs : List SPt) (l : List A18) (m : Nat) (tm : TM) (H : Heap) : Prop := ∃ (i : Nat) (a : AS), m = l.length - i ∧ i ≤ l.length ∧ Good18 a ∧ InvA a ∧ get tm 1 = .s (.slice 1 0 l.length) ∧ get tm 5 = .s (.ptr 2 0 0) ∧ get tm 7 = .s (.raw (.int .i64 (i : Int))) ∧ H = L27 xs l a
def I_r1 (xs : List SPt) (l : List A18) (i : Nat) (b : AS) (m : Nat) (tm : TM) (H : Heap) : Prop := ∃ k : Nat, m = b.ps.length - k ∧ k ≤ b.ps.length ∧ get tm 1 = .s (.slice 1 0 l.length) ∧ get tm 5 = .s (.ptr 2 0 0) ∧ get tm 7 = .s (.raw (.int .i64 (i : Int))) ∧ get tm 10 = .s (.slice 7 0 k) ∧ get tm 11 = .s (.raw (.int .i64 (k : Int))) ∧ H = L27 xs l b ++ [.rows true 8 ((ptsN b.ps k).map encP)]
def L27c (xs : List SPt) (l : List A18) (b : AS) (x y z : Int) : Heap := L27 xs l b ++ [cF (rolesA b), cW (tellsA b), .rows true 5 [[.raw (.int .u64 x), .raw (.int .u32 y), .raw (.int .i64 z), .slice 7 0 b.ps.length, .slice 8 0 b.ps.length]]]
def I_r2 (xs : List SPt) (l : List A18) (i : Nat) (b : AS) (x y z : Int) (m : Nat) (tm : TM) (H : Heap) : Prop := ∃ k : Nat, m = b.ps.length - k ∧ k ≤ b.ps.length ∧ get tm 1 = .s (.slice 1 0 l.length) ∧ get tm 5 = .s (.ptr 2 0 0) ∧ get tm 7 = .s (.raw (.int .i64 (i : Int))) ∧ get tm 13 = .s (.ptr 9 0 0) ∧ get tm 14 = .s (.raw (.int .i64 (k : Int))) ∧ H = L27c xs l b x y z
def I_r3 (xs : List SPt) (l : List A18) (i : Nat) (b : AS) (x y z : Int) (k : Nat) (p : PE) (m : Nat) (tm : TM) (H : Heap) : Prop := ∃ n : Nat, m = 3 - n ∧ n ≤ 3 ∧ get tm 1 = .s (.slice 1 0 l.length) ∧ get tm 5 = .s (.ptr 2 0 0) ∧ get tm 7 = .s (.raw (.int .i64 (i : Int))) ∧ get tm 13 = .s (.ptr 9 0 0) ∧ get tm 14 = .s (.raw (.int .i64 (k : Int))) ∧ get tm 15 = .s (.ptr 10 0 0) ∧ get tm 17 = .s (.raw (.int .i64 (n : Int))) ∧ H = L27c xs l b x y z ++ [.rows true 21 [encPE p]]
def I_r4 (xs : List SPt) (l : List A18) (i : Nat) (b : AS) (x y z : Int) (k : Nat) (p : PE) (n : Nat) (B : Int) (m : Nat) (tm : TM) (H : Heap) : Prop := ∃ j : Nat, m = k - j ∧ j ≤ k ∧ get tm 1 = .s (.slice 1 0 l.length) ∧ get tm 5 = .s (.ptr 2 0 0) ∧ get tm 7 = .s (.raw (.int .i64 (i : Int))) ∧ get tm 13 = .s (.ptr 9 0 0) ∧ get tm 14 = .s (.raw (.int .i64 (k : Int))) ∧ get tm 15 = .s (.ptr 10 0 0) ∧ get tm 17 = .s (.raw (.int .i64 (n : Int))) ∧ get tm 18 = .s (.raw (.int .u32 (halfN B j))) ∧ get tm 19 = .s (.raw (.int .i64 (j : Int))) ∧ H = L27c xs l b x y z ++ [.rows true 21 [encPE p]]
def KeyT (X : Ctx) (xs : List SPt) (l : List A18) (i : Nat) (c : Code) (Q : Exit → TM → Heap → Prop) : Prop := ∀ b : AS, Good18 b → InvA b → ∀ tm : TM, get tm 1 = .s (.slice 1 0 l.length) → get tm 5 = .s (.ptr 2 0 0) → get tm 7 = .s (.raw (.int .i64 (i : Int))) → get tm 10 = .s (.raw (.slice none 0 0)) → get tm 11 = .s (.raw (.int .i64 0)) → loopK Try.prog 208 (X.at 2) c Q tm (L27 xs l b)
theorem law4 (x : SET) (xs : List SPt) (l : List A18) (hk : ∀ y ∈ l, 0 ≤ y.kind ∧ 0 ≤ y.port) : FunR Try.prog 4 [.rows false 5 (xs.map encSP), .rows false 14 (l.map encX)] [.a (encSET x 0 xs.length), .s (.slice 1 0 l.length)] (.s (.raw (.bool true))) := by
  refine funR_of rfl fun X => ?_
  refine callK_inline (rs := [.tmp 4]) (n := 208) Try.func4 rfl rfl rfl (by kernel_rfl) (by kernel_rfl) (by simp only [List.length_cons, List.length_nil]; decide) ?_
  have c1 := c_Made x xs
  have hg := made_good x xs
  have hv := hg.bare.vs
  have hs := hg.bare.ss
  have hd := hg.bare.ds
  rw [show cV [] = cV (madeA x xs).vs by rw [hv], show cS [] = cS (madeA x xs).ss by rw [hs], show cD [] = cD (madeA x xs).ds by rw [hd]] at c1
  clear hv hs hd
  generalize madeA x xs = a at *
  have c3 := c_Start a hg.ok
  rw [hg.noT] at c3
  have hg2 := hg.next (fr_start (n := 6) a hg.len) (kp_start a) (nn_start hg.nn)
  have hi2 := (inv_start a).noT
  unfold PostS at c3
  generalize startA a = b at *
  have hcP := True.intro
  repeat' first
    | with_reducible rfl
    | simp only [encSET, hcP, RS_, FB_, segR, ST_, seval, ne_eq, bne, forall_const, implies_true, TY_, WLS]
    | (with_reducible refine drawK_id ?_); refine drawK_auto hmix (by kernel_rfl) ?_
    | (with_reducible refine draw_fin ?_ ?_); · kernel_rfl
    | (with_reducible refine draw_id ?_); kernel_rfl
    | (with_reducible refine callK_id (f := 6) ?_); refine callK_fun (c_speaks) rfl rfl ?_
    | ((with_reducible refine callK_id (f := 8) ?_); refine callK_funW [0] [] c1 (by simp [pullHW, roC_rows, pull_SP, Function.comp_def]) rfl rfl (by decide) (by simp) (by simp [pullI, pullS, ix, encSET]) ?_; rintro r Hn ⟨rfl, rfl⟩ -; clear hcP)
    | (with_reducible refine And.intro ?_ ?_; · omega)
  have hcP := True.intro
  repeat' first
    | with_reducible rfl
    | simp only [hcP, rowS, mapC_rows, mapC_gone, pushC_rows, pushC_gone, pullP, pullV, pullSS, pullD, pullT, pullF, pushP, pushV, pushSS, pushD, pushT, pushF, pullD16, pushD16, RS_, FB_, segR, ST_, seval, ne_eq, bne, forall_const, implies_true, TY_, WLS]
    | (with_reducible refine drawK_id ?_); refine drawK_auto hmix (by kernel_rfl) ?_
    | (with_reducible refine draw_fin ?_ ?_); · kernel_rfl
    | (with_reducible refine draw_id ?_); kernel_rfl
    | ((with_reducible refine callK_id (f := 7) ?_); refine callK_funW [3, 4, 5, 6] [] (c3) (by simp [pullHW, AH, AHo, HrS, rowA, rowS, pullS, ix, roC_rows, roP, roV, roSS, roD, roT, roF, roC_rP, roC_rV, roC_rS, roC_rD, mapC_rows, mapC_gone, pushC_rows, pushC_gone, pullP, pullV, pullSS, pullD, pullT, pullF, pushP, pushV, pushSS, pushD, pushT, pushF, pullD16, pushD16]) rfl rfl (by decide) (by simp [cP, cV, cS, cD, cT, cF]) (by simp [pullI, pullS, ix, rowS]) ?_; rintro r Hn ⟨rfl, rfl⟩ -; clear hcP)
    | (with_reducible refine And.intro ?_ ?_; · omega)
  have hcP := True.intro
  repeat' first
    | with_reducible rfl
    | simp only [hcP, rowS, mapC_rows, mapC_gone, pushC_rows, pushC_gone, pullP, pullV, pullSS, pullD, pullT, pullF, pushP, pushV, pushSS, pushD, pushT, pushF, pullD16, pushD16, RS_, FB_, segR, ST_, seval, ne_eq, bne, forall_const, implies_true, TY_, WLS]
    | (with_reducible refine drawK_id ?_); refine drawK_auto hmix (by kernel_rfl) ?_
    | (with_reducible refine draw_fin ?_ ?_); · kernel_rfl
    | (with_reducible refine draw_id ?_); kernel_rfl
    | (with_reducible refine And.intro ?_ ?_; · omega)
  refine loopK_wk (by kernel_rfl) (I_r0 xs l) l.length ⟨_, _, Wk.gc [0, 1, 13, 7, 8, 9, 10] rfl (by decide), 0, noT b, by omega, by omega, hg2, hi2, ?_, ?_, ?_, ?_⟩ ?_
  · simp [Function.comp_def, get_gcT, get, put, gcI, pullI, push1, pushI, pullS, pushS, gcH, patL, canL, canH, canTL, canT, segR, ix, upd, up1, mapC_rows, mapC_gone, pushC_rows, pushC_gone, pullP, pullV, pullSS, pullD, pullT, pullF, pushP, pushV, pushSS, pushD, pushT, pushF, pullD16, pushD16, L27, AHo, noT, rowA, rowS, pull_X, push_X, pull_SP, push_SP, prP, prV, prSS, prD, pull_PT, push_PT, pullW, pushW, pull_PE, push_PE, pull_I, push_I]
  · simp [Function.comp_def, get_gcT, get, put, gcI, pullI, push1, pushI, pullS, pushS, gcH, patL, canL, canH, canTL, canT, segR, ix, upd, up1, mapC_rows, mapC_gone, pushC_rows, pushC_gone, pullP, pullV, pullSS, pullD, pullT, pullF, pushP, pushV, pushSS, pushD, pushT, pushF, pullD16, pushD16, L27, AHo, noT, rowA, rowS, pull_X, push_X, pull_SP, push_SP, prP, prV, prSS, prD, pull_PT, push_PT, pullW, pushW, pull_PE, push_PE, pull_I, push_I]
  · simp [Function.comp_def, get_gcT, get, put, gcI, pullI, push1, pushI, pullS, pushS, gcH, patL, canL, canH, canTL, canT, segR, ix, upd, up1, mapC_rows, mapC_gone, pushC_rows, pushC_gone, pullP, pullV, pullSS, pullD, pullT, pullF, pushP, pushV, pushSS, pushD, pushT, pushF, pullD16, pushD16, L27, AHo, noT, rowA, rowS, pull_X, push_X, pull_SP, push_SP, prP, prV, prSS, prD, pull_PT, push_PT, pullW, pushW, pull_PE, push_PE, pull_I, push_I]
  · simp [Function.comp_def, get_gcT, get, put, gcI, pullI, push1, pushI, pullS, pushS, gcH, patL, canL, canH, canTL, canT, segR, ix, upd, up1, mapC_rows, mapC_gone, pushC_rows, pushC_gone, pullP, pullV, pullSS, pullD, pullT, pullF, pushP, pushV, pushSS, pushD, pushT, pushF, pullD16, pushD16, L27, AHo, noT, rowA, rowS, pull_X, push_X, pull_SP, push_SP, prP, prV, prSS, prD, pull_PT, push_PT, pullW, pushW, pull_PE, push_PE, pull_I, push_I]
  clear hcP c1 hg c3 hg2 hi2 b a
  rintro m tm H ⟨i, a, rfl, hi, hg, hv, g1, g5, g7, rfl⟩
  unfold L27
  cases q1 : decide ((i : Int) < (l.length : Int)) with
  | false =>
    repeat' first
      | with_reducible rfl
      | simp only [q1, List.length_map, g1, g5, g7, RS_, FB_, segR, ST_, seval, ne_eq, bne, forall_const, implies_true, TY_, WLS]
      | (with_reducible refine drawK_id ?_); refine drawK_auto hmix (by kernel_rfl) ?_
      | (with_reducible refine draw_fin ?_ ?_); · kernel_rfl
      | (with_reducible refine draw_id ?_); kernel_rfl
      | (with_reducible refine And.intro ?_ ?_; · omega)
  | true =>
  cases q2 : decide ((i : Int) < 60) with
  | false =>
    repeat' first
      | with_reducible rfl
      | simp only [q1, q2, List.length_map, g1, g5, g7, RS_, FB_, segR, ST_, seval, ne_eq, bne, forall_const, implies_true, TY_, WLS]
      | (with_reducible refine drawK_id ?_); refine drawK_auto hmix (by kernel_rfl) ?_
      | (with_reducible refine draw_fin ?_ ?_); · kernel_rfl
      | (with_reducible refine draw_id ?_); kernel_rfl
      | (with_reducible refine And.intro ?_ ?_; · omega)
  | true =>
    have qa := of_decide_eq_true q1
    have hb0 : (0 : Int) ≤ (i : Int) := by omega
    have hbN : (i : Int) < (l.length : Int) := by omega
    have hi1 : IntKind.i64.wrap ((i : Int) + 1) = ((i + 1 : Nat) : Int) := by rw [wr_i64 (by omega) (by have := of_decide_eq_true q2; omega)]; rfl
    obtain ⟨y, hy⟩ : ∃ y, l[i]? = some y := ⟨_, List.getElem?_eq_getElem (by omega)⟩
    have hyr : (l.map encX)[i]? = some (encX y) := by rw [List.getElem?_map, hy]; rfl
    obtain ⟨hyk, hyp⟩ := hk y (List.mem_of_getElem? hy)
    obtain ⟨po, hpo⟩ : ∃ po, IntKind.i64.wrap (Int.tmod y.port 8) = po := ⟨_, rfl⟩
    have hpo2 : 0 ≤ po ∧ po ≤ 7 := by
      rw [Int.tmod_eq_emod_of_nonneg hyp, wr_i64 (by omega) (by omega)] at hpo
      omega
    have hl6 := hg.len
    obtain ⟨wh, hwh⟩ : ∃ wh, Int.tmod y.what 10 = wh := ⟨_, rfl⟩
    refine' (fun (key : KeyT X xs l i _ _) => ?main) ?key
    case main =>
      cases w1 : (wh == 0) with
      | true =>
        have cA := c_TickT a hg.ok
        rw [hg.noT] at cA
        have hg2 := hg.next (fr_tick (n := 6) a hg.len) (kp_tick a) (nn_tick hg.nn)
        have hv2 := (inv_tick hv).noT
        unfold PostS at cA
        generalize tickA a = b at *
        have hcP := True.intro
        repeat' first
          | with_reducible rfl
          | simp only [hcP, encX, rowS, q1, q2, hb0, hbN, hyr, hpo, hwh, List.length_map, Int.toNat_natCast, g1, g5, g7, w1, RS_, FB_, segR, ST_, seval, ne_eq, bne, forall_const, implies_true, TY_, WLS]
          | (with_reducible refine drawK_id ?_); refine drawK_auto hmix (by kernel_rfl) ?_
          | (with_reducible refine draw_fin ?_ ?_); · kernel_rfl
          | (with_reducible refine draw_id ?_); kernel_rfl
          | ((with_reducible refine callK_id (f := 11) ?_); refine callK_funW [3, 4, 5, 6] [] (cA) (by simp [pullHW, AH, AHo, HrS, rowA, rowS, pullS, ix, roC_rows, roP, roV, roSS, roD, roT, roF, roC_rP, roC_rV, roC_rS, roC_rD, mapC_rows, mapC_gone, pushC_rows, pushC_gone, pullP, pullV, pullSS, pullD, pullT, pullF, pushP, pushV, pushSS, pushD, pushT, pushF, pullD16, pushD16]) rfl rfl (by decide) (by simp [cP, cV, cS, cD, cT, cF]) (by simp [pullI, pullS, ix, rowS]) ?_; rintro r Hn ⟨rfl, rfl⟩ -; clear hcP)
          | (with_reducible refine And.intro ?_ ?_; · omega)
        repeat' first
          | with_reducible rfl
          | simp only [rowS, rowA, w1, mapC_rows, mapC_gone, pushC_rows, pushC_gone, pullP, pullV, pullSS, pullD, pullT, pullF, pushP, pushV, pushSS, pushD, pushT, pushF, pullD16, pushD16, g1, g5, g7, RS_, FB_, segR, ST_, seval, ne_eq, bne, forall_const, implies_true, TY_, WLS]
          | (with_reducible refine drawK_id ?_); refine drawK_auto hmix (by kernel_rfl) ?_
          | (with_reducible refine draw_fin ?_ ?_); · kernel_rfl
          | (with_reducible refine draw_id ?_); kernel_rfl
          | (with_reducible refine And.intro ?_ ?_; · omega)
        refine loopK_key (H2 := L27 xs l (noT b)) (Wk.gc [0, 1, 2, 8, 9, 10, 11] rfl (by decide)) ?_ ?_
        · simp [Function.comp_def, get_gcT, get, put, gcI, pullI, push1, pushI, pullS, pushS, gcH, patL, canL, canH, canTL, canT, segR, ix, upd, up1, mapC_rows, mapC_gone, pushC_rows, pushC_gone, pullP, pullV, pullSS, pullD, pullT, pullF, pushP, pushV, pushSS, pushD, pushT, pushF, pullD16, pushD16, L27, AHo, noT, rowA, rowS, pull_X, push_X, pull_SP, push_SP, prP, prV, prSS, prD, pull_PT, push_PT, pullW, pushW, pull_PE, push_PE, pull_I, push_I]
        · refine key (noT b) hg2 hv2 _ ?_ ?_ ?_ ?_ ?_ <;> simp [Function.comp_def, get_gcT, get, put, gcI, pullI, push1, pushI, pullS, pushS, gcH, patL, canL, canH, canTL, canT, segR, ix, upd, up1, mapC_rows, mapC_gone, pushC_rows, pushC_gone, pullP, pullV, pullSS, pullD, pullT, pullF, pushP, pushV, pushSS, pushD, pushT, pushF, pullD16, pushD16, L27, AHo, noT, rowA, rowS, pull_X, push_X, pull_SP, push_SP, prP, prV, prSS, prD, pull_PT, push_PT, pullW, pushW, pull_PE, push_PE, pull_I, push_I, g1, g5, g7]
      | false =>
        cases w2 : (wh == 1) with
        | true =>
          have cA := c_TickT a hg.ok
          rw [hg.noT] at cA
          have hg2 := hg.next (fr_tick (n := 6) a hg.len) (kp_tick a) (nn_tick hg.nn)
          have hv2 := (inv_tick hv).noT
          unfold PostS at cA
          generalize tickA a = b at *
          have hcP := True.intro
          repeat' first
            | with_reducible rfl
            | simp only [hcP, encX, rowS, q1, q2, hb0, hbN, hyr, hpo, hwh, List.length_map, Int.toNat_natCast, g1, g5, g7, w1, w2, RS_, FB_, segR, ST_, seval, ne_eq, bne, forall_const, implies_true, TY_, WLS]
            | (with_reducible refine drawK_id ?_); refine drawK_auto hmix (by kernel_rfl) ?_
            | (with_reducible refine draw_fin ?_ ?_); · kernel_rfl
            | (with_reducible refine draw_id ?_); kernel_rfl
            | ((with_reducible refine callK_id (f := 11) ?_); refine callK_funW [3, 4, 5, 6] [] (cA) (by simp [pullHW, AH, AHo, HrS, rowA, rowS, pullS, ix, roC_rows, roP, roV, roSS, roD, roT, roF, roC_rP, roC_rV, roC_rS, roC_rD, mapC_rows, mapC_gone, pushC_rows, pushC_gone, pullP, pullV, pullSS, pullD, pullT, pullF, pushP, pushV, pushSS, pushD, pushT, pushF, pullD16, pushD16]) rfl rfl (by decide) (by simp [cP, cV, cS, cD, cT, cF]) (by simp [pullI, pullS, ix, rowS]) ?_; rintro r Hn ⟨rfl, rfl⟩ -; clear hcP)
            | (with_reducible refine And.intro ?_ ?_; · omega)
          repeat' first
            | with_reducible rfl
            | simp only [rowS, rowA, w1, w2, mapC_rows, mapC_gone, pushC_rows, pushC_gone, pullP, pullV, pullSS, pullD, pullT, pullF, pushP, pushV, pushSS, pushD, pushT, pushF, pullD16, pushD16, g1, g5, g7, RS_, FB_, segR, ST_, seval, ne_eq, bne, forall_const, implies_true, TY_, WLS]
            | (with_reducible refine drawK_id ?_); refine drawK_auto hmix (by kernel_rfl) ?_
            | (with_reducible refine draw_fin ?_ ?_); · kernel_rfl
            | (with_reducible refine draw_id ?_); kernel_rfl
            | (with_reducible refine And.intro ?_ ?_; · omega)
          refine loopK_key (H2 := L27 xs l (noT b)) (Wk.gc [0, 1, 2, 8, 9, 10, 11] rfl (by decide)) ?_ ?_
          · simp [Function.comp_def, get_gcT, get, put, gcI, pullI, push1, pushI, pullS, pushS, gcH, patL, canL, canH, canTL, canT, segR, ix, upd, up1, mapC_rows, mapC_gone, pushC_rows, pushC_gone, pullP, pullV, pullSS, pullD, pullT, pullF, pushP, pushV, pushSS, pushD, pushT, pushF, pullD16, pushD16, L27, AHo, noT, rowA, rowS, pull_X, push_X, pull_SP, push_SP, prP, prV, prSS, prD, pull_PT, push_PT, pullW, pushW, pull_PE, push_PE, pull_I, push_I]
          · refine key (noT b) hg2 hv2 _ ?_ ?_ ?_ ?_ ?_ <;> simp [Function.comp_def, get_gcT, get, put, gcI, pullI, push1, pushI, pullS, pushS, gcH, patL, canL, canH, canTL, canT, segR, ix, upd, up1, mapC_rows, mapC_gone, pushC_rows, pushC_gone, pullP, pullV, pullSS, pullD, pullT, pullF, pushP, pushV, pushSS, pushD, pushT, pushF, pullD16, pushD16, L27, AHo, noT, rowA, rowS, pull_X, push_X, pull_SP, push_SP, prP, prV, prSS, prD, pull_PT, push_PT, pullW, pushW, pull_PE, push_PE, pull_I, push_I, g1, g5, g7]
        | false =>
          cases w3 : (wh == 2) with
          | true =>
            have cA := c_SwitchT a hg.ok po y.f0 y.f3
            rw [hg.noT] at cA
            have hg2 := hg.next (fr_switch (n := 6) a po y.f0 y.f3 hg.len) (kp_switchT a po y.f0 y.f3) (nn_switchT po y.f0 y.f3 hg.nn)
            have hv2 := (inv_switch po y.f0 y.f3 hv).noT
            unfold PostS at cA
            generalize switchT a po y.f0 y.f3 = b at *
            have hcP := True.intro
            repeat' first
              | with_reducible rfl
              | simp only [hcP, encX, rowS, q1, q2, hb0, hbN, hyr, hpo, hwh, List.length_map, Int.toNat_natCast, g1, g5, g7, w1, w2, w3, RS_, FB_, segR, ST_, seval, ne_eq, bne, forall_const, implies_true, TY_, WLS]
              | (with_reducible refine drawK_id ?_); refine drawK_auto hmix (by kernel_rfl) ?_
              | (with_reducible refine draw_fin ?_ ?_); · kernel_rfl
              | (with_reducible refine draw_id ?_); kernel_rfl
              | ((with_reducible refine callK_id (f := 12) ?_); refine callK_funW [3, 4, 5, 6] [] (cA) (by simp [pullHW, AH, AHo, HrS, rowA, rowS, pullS, ix, roC_rows, roP, roV, roSS, roD, roT, roF, roC_rP, roC_rV, roC_rS, roC_rD, mapC_rows, mapC_gone, pushC_rows, pushC_gone, pullP, pullV, pullSS, pullD, pullT, pullF, pushP, pushV, pushSS, pushD, pushT, pushF, pullD16, pushD16]) rfl rfl (by decide) (by simp [cP, cV, cS, cD, cT, cF]) (by simp [pullI, pullS, ix, rowS]) ?_; rintro r Hn ⟨rfl, rfl⟩ -; clear hcP)
              | (with_reducible refine And.intro ?_ ?_; · omega)
            repeat' first
              | with_reducible rfl
              | simp only [rowS, rowA, w1, w2, w3, mapC_rows, mapC_gone, pushC_rows, pushC_gone, pullP, pullV, pullSS, pullD, pullT, pullF, pushP, pushV, pushSS, pushD, pushT, pushF, pullD16, pushD16, g1, g5, g7, RS_, FB_, segR, ST_, seval, ne_eq, bne, forall_const, implies_true, TY_, WLS]
              | (with_reducible refine drawK_id ?_); refine drawK_auto hmix (by kernel_rfl) ?_
              | (with_reducible refine draw_fin ?_ ?_); · kernel_rfl
              | (with_reducible refine draw_id ?_); kernel_rfl
              | (with_reducible refine And.intro ?_ ?_; · omega)
            refine loopK_key (H2 := L27 xs l (noT b)) (Wk.gc [0, 1, 2, 8, 9, 10, 11] rfl (by decide)) ?_ ?_
            · simp [Function.comp_def, get_gcT, get, put, gcI, pullI, push1, pushI, pullS, pushS, gcH, patL, canL, canH, canTL, canT, segR, ix, upd, up1, mapC_rows, mapC_gone, pushC_rows, pushC_gone, pullP, pullV, pullSS, pullD, pullT, pullF, pushP, pushV, pushSS, pushD, pushT, pushF, pullD16, pushD16, L27, AHo, noT, rowA, rowS, pull_X, push_X, pull_SP, push_SP, prP, prV, prSS, prD, pull_PT, push_PT, pullW, pushW, pull_PE, push_PE, pull_I, push_I]
            · refine key (noT b) hg2 hv2 _ ?_ ?_ ?_ ?_ ?_ <;> simp [Function.comp_def, get_gcT, get, put, gcI, pullI, push1, pushI, pullS, pushS, gcH, patL, canL, canH, canTL, canT, segR, ix, upd, up1, mapC_rows, mapC_gone, pushC_rows, pushC_gone, pullP, pullV, pullSS, pullD, pullT, pullF, pushP, pushV, pushSS, pushD, pushT, pushF, pullD16, pushD16, L27, AHo, noT, rowA, rowS, pull_X, push_X, pull_SP, push_SP, prP, prV, prSS, prD, pull_PT, push_PT, pullW, pushW, pull_PE, push_PE, pull_I, push_I, g1, g5, g7]
          | false =>
            have cX := c_pduOf y hyk a (by omega) po hpo2
            have hage := pduX_age y a.ps po
            obtain ⟨d, hd⟩ : ∃ d, pduX y a.ps po = d := ⟨_, rfl⟩
            rw [hd] at cX hage
            have cA := c_HearT a hg.ok po (by omega) d hage
            rw [hg.noT] at cA
            have hg2 := hg.next (fr_hear (n := 6) a po d hg.len) (kp_hear a po d) (nn_hear po d hg.nn)
            have hv2 := (inv_hear po d hv).noT
            unfold PostS at cA
            generalize hearT a po d = b at *
            have hcP := True.intro
            repeat' first
              | with_reducible rfl
              | simp only [hcP, encX, rowS, q1, q2, hb0, hbN, hyr, hpo, hwh, List.length_map, Int.toNat_natCast, g1, g5, g7, w1, w2, w3, mapC_rows, mapC_gone, pushC_rows, pushC_gone, pullP, pullV, pullSS, pullD, pullT, pullF, pushP, pushV, pushSS, pushD, pushT, pushF, pullD16, pushD16, RS_, FB_, segR, ST_, seval, ne_eq, bne, forall_const, implies_true, TY_, WLS]
              | (with_reducible refine drawK_id (id := 10) ?_); refine drawK_of 6 hmix (by kernel_rfl) ?_
              | (with_reducible refine drawK_id ?_); refine drawK_auto hmix (by kernel_rfl) ?_
              | (with_reducible refine draw_fin ?_ ?_); · kernel_rfl
              | (with_reducible refine draw_id ?_); kernel_rfl
              | ((with_reducible refine callD_id (f := 13) ?_); refine callD_read [3, 4, 5, 6] (r := .a (encPD d)) cX (by simp [pullH, rowS, encX, pullI, pullS, ix, roC_rows, roP, roV, roSS, roD, roT, roF, roC_rP, roC_rV, roC_rS, roC_rD]) (by simp [pullI, pullS, ix, rowS, encX]) rfl ?_)
              | ((with_reducible refine callD_id (f := 10) ?_); refine callD_new (Hw' := []) (Nw := [cP b.ps, cV b.vs, cS b.ss, cD b.ds, cT b.told, cF b.fl]) [3, 4, 5, 6] [] (FunW_eq cA) (by simp [pullHW, roC_rows, roP, roV, roSS, roD, roT, roF, roC_rP, roC_rV, roC_rS, roC_rD]) rfl rfl (by decide) (by simp [cP, cV, cS, cD]) (by simp [pullI, pullS, ix, rowS, encPD]) (by simp) ?_)
              | (with_reducible refine And.intro ?_ ?_; · omega)
            refine loopK_key (H2 := L27 xs l (noT b)) (Wk.gc [0, 1, 2, 8, 9, 10, 11] rfl (by decide)) ?_ ?_
            · simp [Function.comp_def, get_gcT, get, put, gcI, pullI, push1, pushI, pullS, pushS, gcH, patL, canL, canH, canTL, canT, segR, ix, upd, up1, mapC_rows, mapC_gone, pushC_rows, pushC_gone, pullP, pullV, pullSS, pullD, pullT, pullF, pushP, pushV, pushSS, pushD, pushT, pushF, pullD16, pushD16, L27, AHo, noT, rowA, rowS, pull_X, push_X, pull_SP, push_SP, prP, prV, prSS, prD, pull_PT, push_PT, pullW, pushW, pull_PE, push_PE, pull_I, push_I]
            · refine key (noT b) hg2 hv2 _ ?_ ?_ ?_ ?_ ?_ <;> simp [Function.comp_def, get_gcT, get, put, gcI, pullI, push1, pushI, pullS, pushS, gcH, patL, canL, canH, canTL, canT, segR, ix, upd, up1, mapC_rows, mapC_gone, pushC_rows, pushC_gone, pullP, pullV, pullSS, pullD, pullT, pullF, pushP, pushV, pushSS, pushD, pushT, pushF, pullD16, pushD16, L27, AHo, noT, rowA, rowS, pull_X, push_X, pull_SP, push_SP, prP, prV, prSS, prD, pull_PT, push_PT, pullW, pushW, pull_PE, push_PE, pull_I, push_I, g1, g5, g7]
    case key =>
      clear hyr hyk hyp hpo hpo2 hwh hg hv hl6 hy
      intro b hg hv tm g1 g5 g7 g10 g11
      have hl6 := hg.len
      refine loopK_wk (by kernel_rfl) (I_r1 xs l i b) b.ps.length ⟨_, _, Wk.can2 [(8, 10)] [] [.inl 0, .inl 1, .inl 2, .inl 3, .inl 4, .inl 5, .inl 6, .inr 0] rfl (by simp [patL, L27]), 0, by omega, by omega, ?_, ?_, ?_, ?_, ?_, ?_⟩ ?_
      · simp [Function.comp_def, get_gcT, get, put, gcI, pullI, push1, pushI, pullS, pushS, gcH, patL, canL, canH, canTL, canT, segR, ix, upd, up1, mapC_rows, mapC_gone, pushC_rows, pushC_gone, pullP, pullV, pullSS, pullD, pullT, pullF, pushP, pushV, pushSS, pushD, pushT, pushF, pullD16, pushD16, L27, AHo, noT, rowA, rowS, pull_X, push_X, pull_SP, push_SP, prP, prV, prSS, prD, pull_PT, push_PT, pullW, pushW, pull_PE, push_PE, pull_I, push_I, ptsN, g1, g5, g7, g10, g11]
      · simp [Function.comp_def, get_gcT, get, put, gcI, pullI, push1, pushI, pullS, pushS, gcH, patL, canL, canH, canTL, canT, segR, ix, upd, up1, mapC_rows, mapC_gone, pushC_rows, pushC_gone, pullP, pullV, pullSS, pullD, pullT, pullF, pushP, pushV, pushSS, pushD, pushT, pushF, pullD16, pushD16, L27, AHo, noT, rowA, rowS, pull_X, push_X, pull_SP, push_SP, prP, prV, prSS, prD, pull_PT, push_PT, pullW, pushW, pull_PE, push_PE, pull_I, push_I, ptsN, g1, g5, g7, g10, g11]
      · simp [Function.comp_def, get_gcT, get, put, gcI, pullI, push1, pushI, pullS, pushS, gcH, patL, canL, canH, canTL, canT, segR, ix, upd, up1, mapC_rows, mapC_gone, pushC_rows, pushC_gone, pullP, pullV, pullSS, pullD, pullT, pullF, pushP, pushV, pushSS, pushD, pushT, pushF, pullD16, pushD16, L27, AHo, noT, rowA, rowS, pull_X, push_X, pull_SP, push_SP, prP, prV, prSS, prD, pull_PT, push_PT, pullW, pushW, pull_PE, push_PE, pull_I, push_I, ptsN, g1, g5, g7, g10, g11]
      · simp [Function.comp_def, get_gcT, get, put, gcI, pullI, push1, pushI, pullS, pushS, gcH, patL, canL, canH, canTL, canT, segR, ix, upd, up1, mapC_rows, mapC_gone, pushC_rows, pushC_gone, pullP, pullV, pullSS, pullD, pullT, pullF, pushP, pushV, pushSS, pushD, pushT, pushF, pullD16, pushD16, L27, AHo, noT, rowA, rowS, pull_X, push_X, pull_SP, push_SP, prP, prV, prSS, prD, pull_PT, push_PT, pullW, pushW, pull_PE, push_PE, pull_I, push_I, ptsN, g1, g5, g7, g10, g11]
      · simp [Function.comp_def, get_gcT, get, put, gcI, pullI, push1, pushI, pullS, pushS, gcH, patL, canL, canH, canTL, canT, segR, ix, upd, up1, mapC_rows, mapC_gone, pushC_rows, pushC_gone, pullP, pullV, pullSS, pullD, pullT, pullF, pushP, pushV, pushSS, pushD, pushT, pushF, pullD16, pushD16, L27, AHo, noT, rowA, rowS, pull_X, push_X, pull_SP, push_SP, prP, prV, prSS, prD, pull_PT, push_PT, pullW, pushW, pull_PE, push_PE, pull_I, push_I, ptsN, g1, g5, g7, g10, g11]
      · simp [Function.comp_def, get_gcT, get, put, gcI, pullI, push1, pushI, pullS, pushS, gcH, patL, canL, canH, canTL, canT, segR, ix, upd, up1, mapC_rows, mapC_gone, pushC_rows, pushC_gone, pullP, pullV, pullSS, pullD, pullT, pullF, pushP, pushV, pushSS, pushD, pushT, pushF, pullD16, pushD16, L27, AHo, noT, rowA, rowS, pull_X, push_X, pull_SP, push_SP, prP, prV, prSS, prD, pull_PT, push_PT, pullW, pushW, pull_PE, push_PE, pull_I, push_I, ptsN, g1, g5, g7, g10, g11]
      clear g1 g5 g7 g10 g11
      rintro m tm H ⟨k, rfl, hk2, g1, g5, g7, g10, g11, rfl⟩
      have hpl := ptsN_len b.ps k hk2
      have hptl : ((ptsN b.ps k).map encP).length = k := by rw [List.length_map, hpl]
      unfold L27
      by_cases hq : k < b.ps.length
      · have q : decide ((k : Int) < (b.ps.length : Int)) = true := decide_eq_true (by omega)
        have hk0 : (0 : Int) ≤ (k : Int) := by omega
        have hkN : (k : Int) < (b.ps.length : Int) := by omega
        have hk1 : IntKind.i64.wrap ((k : Int) + 1) = ((k + 1 : Nat) : Int) := by rw [wr_i64 (by omega) (by omega)]; rfl
        have hk1' : IntKind.i64.wrap ((k : Int) + 1) = (k : Int) + 1 := wr_i64 (by omega) (by omega)
        obtain ⟨p, hp⟩ : ∃ p, b.ps[k]? = some p := ⟨_, List.getElem?_eq_getElem (by omega)⟩
        have hpr : (b.ps.map encPE)[k]? = some (encPE p) := by rw [List.getElem?_map, hp]; rfl
        have hnx : ptsN b.ps (k + 1) = ptsN b.ps k ++ [ptOf p k] := by simp only [ptsN, hp]
        have hbig : (k + 1) * 40 ≤ 140737488355328 := by omega
        have hcP : ∀ l, cP l = .rows true 21 (l.map encPE) := fun _ => rfl
        simp only [List.cons_append, List.nil_append]
        repeat' first
          | with_reducible rfl
          | simp only [rowS, hcP, q, hk0, hkN, hk1', hpr, hptl, hbig, encPE, g1, g5, g7, g10, g11, List.length_map, Int.toNat_natCast, RS_, FB_, segR, ST_, seval, ne_eq, bne, forall_const, implies_true, TY_, WLS]
          | (with_reducible refine drawK_id ?_); refine drawK_auto hmix (by kernel_rfl) ?_
          | (with_reducible refine draw_fin ?_ ?_); · kernel_rfl
          | (with_reducible refine draw_id ?_); kernel_rfl
          | (with_reducible refine callD_id (f := 14) ?_); refine callD_of (c_On p) rfl rfl ?_
          | (with_reducible refine callD_id (f := 15) ?_); refine callD_of (c_ID p ((k : Int) + 1)) rfl rfl ?_
          | (with_reducible refine And.intro ?_ ?_; · omega)
        refine ⟨b.ps.length - (k + 1), _, _, by omega, Wk.can2 [(8, 10)] [] [.inl 0, .inl 1, .inl 2, .inl 3, .inl 4, .inl 5, .inl 6, .inr 0] rfl (by simp [patL]), k + 1, rfl, by omega, ?_, ?_, ?_, ?_, ?_, ?_⟩ <;> first | (simp [Function.comp_def, get_gcT, get, put, gcI, pullI, push1, pushI, pullS, pushS, gcH, patL, canL, canH, canTL, canT, segR, ix, upd, up1, mapC_rows, mapC_gone, pushC_rows, pushC_gone, pullP, pullV, pullSS, pullD, pullT, pullF, pushP, pushV, pushSS, pushD, pushT, pushF, pullD16, pushD16, L27, AHo, noT, rowA, rowS, pull_X, push_X, pull_SP, push_SP, prP, prV, prSS, prD, pull_PT, push_PT, pullW, pushW, pull_PE, push_PE, pull_I, push_I, g1, g5, g7, g10, g11, hptl, hpl]; done) | (simp [Function.comp_def, get_gcT, get, put, gcI, pullI, push1, pushI, pullS, pushS, gcH, patL, canL, canH, canTL, canT, segR, ix, upd, up1, mapC_rows, mapC_gone, pushC_rows, pushC_gone, pullP, pullV, pullSS, pullD, pullT, pullF, pushP, pushV, pushSS, pushD, pushT, pushF, pullD16, pushD16, L27, AHo, noT, rowA, rowS, pull_X, push_X, pull_SP, push_SP, prP, prV, prSS, prD, pull_PT, push_PT, pullW, pushW, pull_PE, push_PE, pull_I, push_I, g1, g5, g7, g10, g11, hptl, hpl, hnx, cP, encP, ptOf])
      · have q : decide ((k : Int) < (b.ps.length : Int)) = false := decide_eq_false (by omega)
        have hin : k = b.ps.length := by omega
        subst hin
        have cr := c_RChoose b (by omega)
        have hRl := rolesA_len b
        have hTl := tellsA_len b
        simp only [List.cons_append, List.nil_append]
        have hcP := True.intro
        repeat' first
          | with_reducible rfl
          | simp only [rowS, hcP, q, g1, g5, g7, g10, g11, RS_, FB_, segR, ST_, seval, ne_eq, bne, forall_const, implies_true, TY_, WLS]
          | (with_reducible refine drawK_id ?_); refine drawK_auto hmix (by kernel_rfl) ?_
          | (with_reducible refine draw_fin ?_ ?_); · kernel_rfl
          | (with_reducible refine draw_id ?_); kernel_rfl
          | ((with_reducible refine callK_id (f := 16) ?_); refine callK_funW [7] [] cr (by simp [Function.comp_def, pullHW, roC_rows, pull_PT]) rfl rfl (by decide) (by simp) (by simp [pullI, pullS, ix]) ?_; rintro r Hn ⟨x, y, z, rfl, rfl⟩ -; clear hcP)
          | (with_reducible refine And.intro ?_ ?_; · omega)
        repeat' first
          | with_reducible rfl
          | simp only [rowS, rowA, hRl, hTl, mapC_rows, mapC_gone, pushC_rows, pushC_gone, pullP, pullV, pullSS, pullD, pullT, pullF, pushP, pushV, pushSS, pushD, pushT, pushF, pullD16, pushD16, pull_I, push_I, pullW, pushW, pull_PT, push_PT, g1, g5, g7, g10, g11, RS_, FB_, segR, ST_, seval, ne_eq, bne, forall_const, implies_true, TY_, WLS]
          | (with_reducible refine drawK_id ?_); refine drawK_auto hmix (by kernel_rfl) ?_
          | (with_reducible refine draw_fin ?_ ?_); · kernel_rfl
          | (with_reducible refine draw_id ?_); kernel_rfl
          | (with_reducible refine And.intro ?_ ?_; · omega)
        refine loopK_wk (by kernel_rfl) (I_r2 xs l i b x y z) b.ps.length ⟨_, _, Wk.gc [0, 1, 2, 3, 4, 5, 6, 8, 9, 10] rfl (by decide), 0, by omega, by omega, ?_, ?_, ?_, ?_, ?_, ?_⟩ ?_
        · simp [Function.comp_def, get_gcT, get, put, gcI, pullI, push1, pushI, pullS, pushS, gcH, patL, canL, canH, canTL, canT, segR, ix, upd, up1, mapC_rows, mapC_gone, pushC_rows, pushC_gone, pullP, pullV, pullSS, pullD, pullT, pullF, pushP, pushV, pushSS, pushD, pushT, pushF, pullD16, pushD16, L27, AHo, noT, rowA, rowS, pull_X, push_X, pull_SP, push_SP, prP, prV, prSS, prD, pull_PT, push_PT, pullW, pushW, pull_PE, push_PE, pull_I, push_I, L27c, cF, cW, pull_V, push_V, g1, g5, g7, hRl, hTl]
        · simp [Function.comp_def, get_gcT, get, put, gcI, pullI, push1, pushI, pullS, pushS, gcH, patL, canL, canH, canTL, canT, segR, ix, upd, up1, mapC_rows, mapC_gone, pushC_rows, pushC_gone, pullP, pullV, pullSS, pullD, pullT, pullF, pushP, pushV, pushSS, pushD, pushT, pushF, pullD16, pushD16, L27, AHo, noT, rowA, rowS, pull_X, push_X, pull_SP, push_SP, prP, prV, prSS, prD, pull_PT, push_PT, pullW, pushW, pull_PE, push_PE, pull_I, push_I, L27c, cF, cW, pull_V, push_V, g1, g5, g7, hRl, hTl]
        · simp [Function.comp_def, get_gcT, get, put, gcI, pullI, push1, pushI, pullS, pushS, gcH, patL, canL, canH, canTL, canT, segR, ix, upd, up1, mapC_rows, mapC_gone, pushC_rows, pushC_gone, pullP, pullV, pullSS, pullD, pullT, pullF, pushP, pushV, pushSS, pushD, pushT, pushF, pullD16, pushD16, L27, AHo, noT, rowA, rowS, pull_X, push_X, pull_SP, push_SP, prP, prV, prSS, prD, pull_PT, push_PT, pullW, pushW, pull_PE, push_PE, pull_I, push_I, L27c, cF, cW, pull_V, push_V, g1, g5, g7, hRl, hTl]
        · simp [Function.comp_def, get_gcT, get, put, gcI, pullI, push1, pushI, pullS, pushS, gcH, patL, canL, canH, canTL, canT, segR, ix, upd, up1, mapC_rows, mapC_gone, pushC_rows, pushC_gone, pullP, pullV, pullSS, pullD, pullT, pullF, pushP, pushV, pushSS, pushD, pushT, pushF, pullD16, pushD16, L27, AHo, noT, rowA, rowS, pull_X, push_X, pull_SP, push_SP, prP, prV, prSS, prD, pull_PT, push_PT, pullW, pushW, pull_PE, push_PE, pull_I, push_I, L27c, cF, cW, pull_V, push_V, g1, g5, g7, hRl, hTl]
        · simp [Function.comp_def, get_gcT, get, put, gcI, pullI, push1, pushI, pullS, pushS, gcH, patL, canL, canH, canTL, canT, segR, ix, upd, up1, mapC_rows, mapC_gone, pushC_rows, pushC_gone, pullP, pullV, pullSS, pullD, pullT, pullF, pushP, pushV, pushSS, pushD, pushT, pushF, pullD16, pushD16, L27, AHo, noT, rowA, rowS, pull_X, push_X, pull_SP, push_SP, prP, prV, prSS, prD, pull_PT, push_PT, pullW, pushW, pull_PE, push_PE, pull_I, push_I, L27c, cF, cW, pull_V, push_V, g1, g5, g7, hRl, hTl]
        · simp [Function.comp_def, get_gcT, get, put, gcI, pullI, push1, pushI, pullS, pushS, gcH, patL, canL, canH, canTL, canT, segR, ix, upd, up1, mapC_rows, mapC_gone, pushC_rows, pushC_gone, pullP, pullV, pullSS, pullD, pullT, pullF, pushP, pushV, pushSS, pushD, pushT, pushF, pullD16, pushD16, L27, AHo, noT, rowA, rowS, pull_X, push_X, pull_SP, push_SP, prP, prV, prSS, prD, pull_PT, push_PT, pullW, pushW, pull_PE, push_PE, pull_I, push_I, L27c, cF, cW, pull_V, push_V, g1, g5, g7, hRl, hTl]
        clear g1 g5 g7 g10 g11 hpl hptl cr hk2 hq q
        rintro m tm H ⟨k, rfl, hk2, g1, g5, g7, g13, g14, rfl⟩
        unfold L27c L27
        simp only [List.cons_append, List.nil_append]
        by_cases hq : k < b.ps.length
        · have q : decide ((k : Int) < (b.ps.length : Int)) = true := decide_eq_true (by omega)
          have hk0 : (0 : Int) ≤ (k : Int) := by omega
          have hkN : (k : Int) < (b.ps.length : Int) := by omega
          have hk1 : IntKind.i64.wrap ((k : Int) + 1) = ((k + 1 : Nat) : Int) := by rw [wr_i64 (by omega) (by omega)]; rfl
          obtain ⟨p, hp⟩ : ∃ p, b.ps[k]? = some p := ⟨_, List.getElem?_eq_getElem (by omega)⟩
          have hpr : (b.ps.map encPE)[k]? = some (encPE p) := by rw [List.getElem?_map, hp]; rfl
          have hr := hv.ro k p hp
          have hrr : ((rolesA b).map sI)[k]? = some (sI p.ro) := by rw [List.getElem?_map, hr]; rfl
          obtain ⟨t, ht⟩ : ∃ t, (tellsA b)[k]? = some t := ⟨_, List.getElem?_eq_getElem (by omega)⟩
          have htr : ((tellsA b).map encV)[k]? = some (encV t) := by rw [List.getElem?_map, ht]; rfl
          have hmem := List.mem_of_getElem? hp
          have h0 := hv.lead p hmem
          have h4 := hv.des k p hp
          have h3 := hv.root p hmem
          have hcP : ∀ l, cP l = .rows true 21 (l.map encPE) := fun _ => rfl
          have hcF : ∀ l, cF l = .rows true 1 (l.map sI) := fun _ => rfl
          have hcW : ∀ l, cW l = .rows true 4 (l.map encV) := fun _ => rfl
          cases w3 : (p.ro == 3) with
          | true =>
            have hst := h3 (eq_of_beq w3)
            have w4 : (p.ro == 4) = false := by rw [eq_of_beq w3]; rfl
            repeat' first
              | with_reducible rfl
              | simp only [rowS, hcP, hcF, hcW, q, hk0, hkN, hpr, hrr, hRl, hTl, sI, encPE, encV, g1, g5, g7, g13, g14, List.length_map, Int.toNat_natCast, beq_self_eq_true, w3, w4, hst, RS_, FB_, segR, ST_, seval, ne_eq, bne, forall_const, implies_true, TY_, WLS]
              | (with_reducible refine drawK_id ?_); refine drawK_auto hmix (by kernel_rfl) ?_
              | (with_reducible refine draw_fin ?_ ?_); · kernel_rfl
              | (with_reducible refine draw_id ?_); kernel_rfl
              | (with_reducible refine And.intro ?_ ?_; · omega)
            refine loopK_wk (by kernel_rfl) (I_r3 xs l i b x y z k p) 3 ⟨_, _, Wk.gc [0, 1, 2, 3, 4, 5, 6, 7, 8, 9, 10] rfl (by decide), 0, by omega, by omega, ?_, ?_, ?_, ?_, ?_, ?_, ?_, ?_⟩ ?_
            · simp [Function.comp_def, get_gcT, get, put, gcI, pullI, push1, pushI, pullS, pushS, gcH, patL, canL, canH, canTL, canT, segR, ix, upd, up1, mapC_rows, mapC_gone, pushC_rows, pushC_gone, pullP, pullV, pullSS, pullD, pullT, pullF, pushP, pushV, pushSS, pushD, pushT, pushF, pullD16, pushD16, L27, AHo, noT, rowA, rowS, pull_X, push_X, pull_SP, push_SP, prP, prV, prSS, prD, pull_PT, push_PT, pullW, pushW, pull_PE, push_PE, pull_I, push_I, L27c, cF, cW, pull_V, push_V, encPE, hRl, hTl, cP, g1, g5, g7, g13, g14, w3, w4, hst]
            · simp [Function.comp_def, get_gcT, get, put, gcI, pullI, push1, pushI, pullS, pushS, gcH, patL, canL, canH, canTL, canT, segR, ix, upd, up1, mapC_rows, mapC_gone, pushC_rows, pushC_gone, pullP, pullV, pullSS, pullD, pullT, pullF, pushP, pushV, pushSS, pushD, pushT, pushF, pullD16, pushD16, L27, AHo, noT, rowA, rowS, pull_X, push_X, pull_SP, push_SP, prP, prV, prSS, prD, pull_PT, push_PT, pullW, pushW, pull_PE, push_PE, pull_I, push_I, L27c, cF, cW, pull_V, push_V, encPE, hRl, hTl, cP, g1, g5, g7, g13, g14, w3, w4, hst]
            · simp [Function.comp_def, get_gcT, get, put, gcI, pullI, push1, pushI, pullS, pushS, gcH, patL, canL, canH, canTL, canT, segR, ix, upd, up1, mapC_rows, mapC_gone, pushC_rows, pushC_gone, pullP, pullV, pullSS, pullD, pullT, pullF, pushP, pushV, pushSS, pushD, pushT, pushF, pullD16, pushD16, L27, AHo, noT, rowA, rowS, pull_X, push_X, pull_SP, push_SP, prP, prV, prSS, prD, pull_PT, push_PT, pullW, pushW, pull_PE, push_PE, pull_I, push_I, L27c, cF, cW, pull_V, push_V, encPE, hRl, hTl, cP, g1, g5, g7, g13, g14, w3, w4, hst]
            · simp [Function.comp_def, get_gcT, get, put, gcI, pullI, push1, pushI, pullS, pushS, gcH, patL, canL, canH, canTL, canT, segR, ix, upd, up1, mapC_rows, mapC_gone, pushC_rows, pushC_gone, pullP, pullV, pullSS, pullD, pullT, pullF, pushP, pushV, pushSS, pushD, pushT, pushF, pullD16, pushD16, L27, AHo, noT, rowA, rowS, pull_X, push_X, pull_SP, push_SP, prP, prV, prSS, prD, pull_PT, push_PT, pullW, pushW, pull_PE, push_PE, pull_I, push_I, L27c, cF, cW, pull_V, push_V, encPE, hRl, hTl, cP, g1, g5, g7, g13, g14, w3, w4, hst]
            · simp [Function.comp_def, get_gcT, get, put, gcI, pullI, push1, pushI, pullS, pushS, gcH, patL, canL, canH, canTL, canT, segR, ix, upd, up1, mapC_rows, mapC_gone, pushC_rows, pushC_gone, pullP, pullV, pullSS, pullD, pullT, pullF, pushP, pushV, pushSS, pushD, pushT, pushF, pullD16, pushD16, L27, AHo, noT, rowA, rowS, pull_X, push_X, pull_SP, push_SP, prP, prV, prSS, prD, pull_PT, push_PT, pullW, pushW, pull_PE, push_PE, pull_I, push_I, L27c, cF, cW, pull_V, push_V, encPE, hRl, hTl, cP, g1, g5, g7, g13, g14, w3, w4, hst]
            · simp [Function.comp_def, get_gcT, get, put, gcI, pullI, push1, pushI, pullS, pushS, gcH, patL, canL, canH, canTL, canT, segR, ix, upd, up1, mapC_rows, mapC_gone, pushC_rows, pushC_gone, pullP, pullV, pullSS, pullD, pullT, pullF, pushP, pushV, pushSS, pushD, pushT, pushF, pullD16, pushD16, L27, AHo, noT, rowA, rowS, pull_X, push_X, pull_SP, push_SP, prP, prV, prSS, prD, pull_PT, push_PT, pullW, pushW, pull_PE, push_PE, pull_I, push_I, L27c, cF, cW, pull_V, push_V, encPE, hRl, hTl, cP, g1, g5, g7, g13, g14, w3, w4, hst]
            · simp [Function.comp_def, get_gcT, get, put, gcI, pullI, push1, pushI, pullS, pushS, gcH, patL, canL, canH, canTL, canT, segR, ix, upd, up1, mapC_rows, mapC_gone, pushC_rows, pushC_gone, pullP, pullV, pullSS, pullD, pullT, pullF, pushP, pushV, pushSS, pushD, pushT, pushF, pullD16, pushD16, L27, AHo, noT, rowA, rowS, pull_X, push_X, pull_SP, push_SP, prP, prV, prSS, prD, pull_PT, push_PT, pullW, pushW, pull_PE, push_PE, pull_I, push_I, L27c, cF, cW, pull_V, push_V, encPE, hRl, hTl, cP, g1, g5, g7, g13, g14, w3, w4, hst]
            · simp [Function.comp_def, get_gcT, get, put, gcI, pullI, push1, pushI, pullS, pushS, gcH, patL, canL, canH, canTL, canT, segR, ix, upd, up1, mapC_rows, mapC_gone, pushC_rows, pushC_gone, pullP, pullV, pullSS, pullD, pullT, pullF, pushP, pushV, pushSS, pushD, pushT, pushF, pullD16, pushD16, L27, AHo, noT, rowA, rowS, pull_X, push_X, pull_SP, push_SP, prP, prV, prSS, prD, pull_PT, push_PT, pullW, pushW, pull_PE, push_PE, pull_I, push_I, L27c, cF, cW, pull_V, push_V, encPE, hRl, hTl, cP, g1, g5, g7, g13, g14, w3, w4, hst]
            clear g1 g5 g7 g13 g14
            rintro m tm H ⟨n, rfl, hn, g1, g5, g7, g13, g14, g15, g17, rfl⟩
            unfold L27c L27
            simp only [List.cons_append, List.nil_append]
            have hn1 : IntKind.i64.wrap ((n : Int) + 1) = ((n + 1 : Nat) : Int) := by rw [wr_i64 (by omega) (by omega)]; rfl
            by_cases hn3 : n < 3
            · have q3 : decide ((n : Int) < 3) = true := decide_eq_true (by omega)
              have cO := c_Open b (by omega) (n : Int)
              have hbit := bits b.ps (n : Int) hl6 hp
              obtain ⟨B, hB⟩ : ∃ B, openB b.ps (n : Int) b.ps.length = B := ⟨_, rfl⟩
              rw [hB] at cO hbit
              clear hcP hcF hcW
              have hcP := True.intro
              repeat' first
                | with_reducible rfl
                | simp only [rowS, q3, g1, g5, g7, g13, g14, g15, g17, RS_, FB_, segR, ST_, seval, ne_eq, bne, forall_const, implies_true, TY_, WLS]
                | (with_reducible refine drawK_id ?_); refine drawK_auto hmix (by kernel_rfl) ?_
                | (with_reducible refine draw_fin ?_ ?_); · kernel_rfl
                | (with_reducible refine draw_id ?_); kernel_rfl
                | ((with_reducible refine callK_id (f := 17) ?_); refine callK_funR [3, 4, 5, 6] (r := .s (.raw (.int .u32 B))) (by simpa [pullH, rowS, pullI, pullS, ix, roC_rows, roP, roV, roSS, roD, roT, roF, roC_rP, roC_rV, roC_rS, roC_rD] using cO) rfl ?_)
                | (with_reducible refine And.intro ?_ ?_; · omega)
              refine loopK_wk (by kernel_rfl) (I_r4 xs l i b x y z k p n B) k ⟨_, _, Wk.gc [0, 1, 2, 3, 4, 5, 6, 7, 8, 9, 10] rfl (by decide), 0, by omega, by omega, ?_, ?_, ?_, ?_, ?_, ?_, ?_, ?_, ?_, ?_⟩ ?_
              · simp [Function.comp_def, get_gcT, get, put, gcI, pullI, push1, pushI, pullS, pushS, gcH, patL, canL, canH, canTL, canT, segR, ix, upd, up1, mapC_rows, mapC_gone, pushC_rows, pushC_gone, pullP, pullV, pullSS, pullD, pullT, pullF, pushP, pushV, pushSS, pushD, pushT, pushF, pullD16, pushD16, L27, AHo, noT, rowA, rowS, pull_X, push_X, pull_SP, push_SP, prP, prV, prSS, prD, pull_PT, push_PT, pullW, pushW, pull_PE, push_PE, pull_I, push_I, L27c, cF, cW, pull_V, push_V, encPE, hRl, hTl, halfN, g1, g5, g7, g13, g14, g15, g17]
              · simp [Function.comp_def, get_gcT, get, put, gcI, pullI, push1, pushI, pullS, pushS, gcH, patL, canL, canH, canTL, canT, segR, ix, upd, up1, mapC_rows, mapC_gone, pushC_rows, pushC_gone, pullP, pullV, pullSS, pullD, pullT, pullF, pushP, pushV, pushSS, pushD, pushT, pushF, pullD16, pushD16, L27, AHo, noT, rowA, rowS, pull_X, push_X, pull_SP, push_SP, prP, prV, prSS, prD, pull_PT, push_PT, pullW, pushW, pull_PE, push_PE, pull_I, push_I, L27c, cF, cW, pull_V, push_V, encPE, hRl, hTl, halfN, g1, g5, g7, g13, g14, g15, g17]
              · simp [Function.comp_def, get_gcT, get, put, gcI, pullI, push1, pushI, pullS, pushS, gcH, patL, canL, canH, canTL, canT, segR, ix, upd, up1, mapC_rows, mapC_gone, pushC_rows, pushC_gone, pullP, pullV, pullSS, pullD, pullT, pullF, pushP, pushV, pushSS, pushD, pushT, pushF, pullD16, pushD16, L27, AHo, noT, rowA, rowS, pull_X, push_X, pull_SP, push_SP, prP, prV, prSS, prD, pull_PT, push_PT, pullW, pushW, pull_PE, push_PE, pull_I, push_I, L27c, cF, cW, pull_V, push_V, encPE, hRl, hTl, halfN, g1, g5, g7, g13, g14, g15, g17]
              · simp [Function.comp_def, get_gcT, get, put, gcI, pullI, push1, pushI, pullS, pushS, gcH, patL, canL, canH, canTL, canT, segR, ix, upd, up1, mapC_rows, mapC_gone, pushC_rows, pushC_gone, pullP, pullV, pullSS, pullD, pullT, pullF, pushP, pushV, pushSS, pushD, pushT, pushF, pullD16, pushD16, L27, AHo, noT, rowA, rowS, pull_X, push_X, pull_SP, push_SP, prP, prV, prSS, prD, pull_PT, push_PT, pullW, pushW, pull_PE, push_PE, pull_I, push_I, L27c, cF, cW, pull_V, push_V, encPE, hRl, hTl, halfN, g1, g5, g7, g13, g14, g15, g17]
              · simp [Function.comp_def, get_gcT, get, put, gcI, pullI, push1, pushI, pullS, pushS, gcH, patL, canL, canH, canTL, canT, segR, ix, upd, up1, mapC_rows, mapC_gone, pushC_rows, pushC_gone, pullP, pullV, pullSS, pullD, pullT, pullF, pushP, pushV, pushSS, pushD, pushT, pushF, pullD16, pushD16, L27, AHo, noT, rowA, rowS, pull_X, push_X, pull_SP, push_SP, prP, prV, prSS, prD, pull_PT, push_PT, pullW, pushW, pull_PE, push_PE, pull_I, push_I, L27c, cF, cW, pull_V, push_V, encPE, hRl, hTl, halfN, g1, g5, g7, g13, g14, g15, g17]
              · simp [Function.comp_def, get_gcT, get, put, gcI, pullI, push1, pushI, pullS, pushS, gcH, patL, canL, canH, canTL, canT, segR, ix, upd, up1, mapC_rows, mapC_gone, pushC_rows, pushC_gone, pullP, pullV, pullSS, pullD, pullT, pullF, pushP, pushV, pushSS, pushD, pushT, pushF, pullD16, pushD16, L27, AHo, noT, rowA, rowS, pull_X, push_X, pull_SP, push_SP, prP, prV, prSS, prD, pull_PT, push_PT, pullW, pushW, pull_PE, push_PE, pull_I, push_I, L27c, cF, cW, pull_V, push_V, encPE, hRl, hTl, halfN, g1, g5, g7, g13, g14, g15, g17]
              · simp [Function.comp_def, get_gcT, get, put, gcI, pullI, push1, pushI, pullS, pushS, gcH, patL, canL, canH, canTL, canT, segR, ix, upd, up1, mapC_rows, mapC_gone, pushC_rows, pushC_gone, pullP, pullV, pullSS, pullD, pullT, pullF, pushP, pushV, pushSS, pushD, pushT, pushF, pullD16, pushD16, L27, AHo, noT, rowA, rowS, pull_X, push_X, pull_SP, push_SP, prP, prV, prSS, prD, pull_PT, push_PT, pullW, pushW, pull_PE, push_PE, pull_I, push_I, L27c, cF, cW, pull_V, push_V, encPE, hRl, hTl, halfN, g1, g5, g7, g13, g14, g15, g17]
              · simp [Function.comp_def, get_gcT, get, put, gcI, pullI, push1, pushI, pullS, pushS, gcH, patL, canL, canH, canTL, canT, segR, ix, upd, up1, mapC_rows, mapC_gone, pushC_rows, pushC_gone, pullP, pullV, pullSS, pullD, pullT, pullF, pushP, pushV, pushSS, pushD, pushT, pushF, pullD16, pushD16, L27, AHo, noT, rowA, rowS, pull_X, push_X, pull_SP, push_SP, prP, prV, prSS, prD, pull_PT, push_PT, pullW, pushW, pull_PE, push_PE, pull_I, push_I, L27c, cF, cW, pull_V, push_V, encPE, hRl, hTl, halfN, g1, g5, g7, g13, g14, g15, g17]
              · simp [Function.comp_def, get_gcT, get, put, gcI, pullI, push1, pushI, pullS, pushS, gcH, patL, canL, canH, canTL, canT, segR, ix, upd, up1, mapC_rows, mapC_gone, pushC_rows, pushC_gone, pullP, pullV, pullSS, pullD, pullT, pullF, pushP, pushV, pushSS, pushD, pushT, pushF, pullD16, pushD16, L27, AHo, noT, rowA, rowS, pull_X, push_X, pull_SP, push_SP, prP, prV, prSS, prD, pull_PT, push_PT, pullW, pushW, pull_PE, push_PE, pull_I, push_I, L27c, cF, cW, pull_V, push_V, encPE, hRl, hTl, halfN, g1, g5, g7, g13, g14, g15, g17]
              · simp [Function.comp_def, get_gcT, get, put, gcI, pullI, push1, pushI, pullS, pushS, gcH, patL, canL, canH, canTL, canT, segR, ix, upd, up1, mapC_rows, mapC_gone, pushC_rows, pushC_gone, pullP, pullV, pullSS, pullD, pullT, pullF, pushP, pushV, pushSS, pushD, pushT, pushF, pullD16, pushD16, L27, AHo, noT, rowA, rowS, pull_X, push_X, pull_SP, push_SP, prP, prV, prSS, prD, pull_PT, push_PT, pullW, pushW, pull_PE, push_PE, pull_I, push_I, L27c, cF, cW, pull_V, push_V, encPE, hRl, hTl, halfN, g1, g5, g7, g13, g14, g15, g17]
              clear g1 g5 g7 g13 g14 g15 g17
              rintro m tm H ⟨j, rfl, hj, g1, g5, g7, g13, g14, g15, g17, g18, g19, rfl⟩
              unfold L27c L27
              simp only [List.cons_append, List.nil_append]
              have hj1 : IntKind.i64.wrap ((j : Int) + 1) = ((j + 1 : Nat) : Int) := by rw [wr_i64 (by omega) (by omega)]; rfl
              by_cases hjk : j < k
              · have q4 : decide ((j : Int) < (k : Int)) = true := decide_eq_true (by omega)
                repeat' first
                  | with_reducible rfl
                  | simp only [rowS, q4, hj1, g1, g5, g7, g13, g14, g15, g17, g18, g19, RS_, FB_, segR, ST_, seval, ne_eq, bne, forall_const, implies_true, TY_, WLS]
                  | (with_reducible refine drawK_id ?_); refine drawK_auto hmix (by kernel_rfl) ?_
                  | (with_reducible refine draw_fin ?_ ?_); · kernel_rfl
                  | (with_reducible refine draw_id ?_); kernel_rfl
                  | (with_reducible refine And.intro ?_ ?_; · omega)
                refine ⟨k - (j + 1), _, _, by omega, Wk.gc [0, 1, 2, 3, 4, 5, 6, 7, 8, 9, 10] rfl (by decide), j + 1, rfl, by omega, ?_, ?_, ?_, ?_, ?_, ?_, ?_, ?_, ?_, ?_⟩ <;> simp [Function.comp_def, get_gcT, get, put, gcI, pullI, push1, pushI, pullS, pushS, gcH, patL, canL, canH, canTL, canT, segR, ix, upd, up1, mapC_rows, mapC_gone, pushC_rows, pushC_gone, pullP, pullV, pullSS, pullD, pullT, pullF, pushP, pushV, pushSS, pushD, pushT, pushF, pullD16, pushD16, L27, AHo, noT, rowA, rowS, pull_X, push_X, pull_SP, push_SP, prP, prV, prSS, prD, pull_PT, push_PT, pullW, pushW, pull_PE, push_PE, pull_I, push_I, L27c, cF, cW, pull_V, push_V, encPE, hRl, hTl, halfN, hj1, g1, g5, g7, g13, g14, g15, g17, g18, g19]
              · have q4 : decide ((j : Int) < (k : Int)) = false := decide_eq_false (by omega)
                have hin : j = k := by omega
                subst hin
                cases o1 : onP p with
                | false =>
                  have hb : (Int.tmod (halfN B j) 2 == 1) = false := by rw [hbit]; simp only [seenP, o1]; rfl
                  repeat' first
                    | with_reducible rfl
                    | simp only [rowS, encPE, q4, hb, hn1, o1, g1, g5, g7, g13, g14, g15, g17, g18, g19, RS_, FB_, segR, ST_, seval, ne_eq, bne, forall_const, implies_true, TY_, WLS]
                    | (with_reducible refine drawK_id ?_); refine drawK_auto hmix (by kernel_rfl) ?_
                    | (with_reducible refine draw_fin ?_ ?_); · kernel_rfl
                    | (with_reducible refine draw_id ?_); kernel_rfl
                    | (with_reducible refine callK_id (f := 14) ?_); refine callK_fun (c_On p) rfl rfl ?_
                    | (with_reducible refine And.intro ?_ ?_; · omega)
                  refine ⟨3 - (n + 1), _, _, by omega, Wk.gc [0, 1, 2, 3, 4, 5, 6, 7, 8, 9, 10] rfl (by decide), n + 1, rfl, by omega, ?_, ?_, ?_, ?_, ?_, ?_, ?_, ?_⟩ <;> simp [Function.comp_def, get_gcT, get, put, gcI, pullI, push1, pushI, pullS, pushS, gcH, patL, canL, canH, canTL, canT, segR, ix, upd, up1, mapC_rows, mapC_gone, pushC_rows, pushC_gone, pullP, pullV, pullSS, pullD, pullT, pullF, pushP, pushV, pushSS, pushD, pushT, pushF, pullD16, pushD16, L27, AHo, noT, rowA, rowS, pull_X, push_X, pull_SP, push_SP, prP, prV, prSS, prD, pull_PT, push_PT, pullW, pushW, pull_PE, push_PE, pull_I, push_I, L27c, cF, cW, pull_V, push_V, encPE, hRl, hTl, hn1, g1, g5, g7, g13, g14, g15, g17, g18, g19]
                | true =>
                cases o2 : decide ((n : Int) ≤ p.st) with
                | true =>
                  have hb : (Int.tmod (halfN B j) 2 == 1) = true := by rw [hbit]; simp only [seenP, o1, o2]; rfl
                  repeat' first
                    | with_reducible rfl
                    | simp only [rowS, encPE, q4, hb, hn1, o1, o2, g1, g5, g7, g13, g14, g15, g17, g18, g19, RS_, FB_, segR, ST_, seval, ne_eq, bne, forall_const, implies_true, TY_, WLS]
                    | (with_reducible refine drawK_id ?_); refine drawK_auto hmix (by kernel_rfl) ?_
                    | (with_reducible refine draw_fin ?_ ?_); · kernel_rfl
                    | (with_reducible refine draw_id ?_); kernel_rfl
                    | (with_reducible refine callK_id (f := 14) ?_); refine callK_fun (c_On p) rfl rfl ?_
                    | (with_reducible refine And.intro ?_ ?_; · omega)
                  refine ⟨3 - (n + 1), _, _, by omega, Wk.gc [0, 1, 2, 3, 4, 5, 6, 7, 8, 9, 10] rfl (by decide), n + 1, rfl, by omega, ?_, ?_, ?_, ?_, ?_, ?_, ?_, ?_⟩ <;> simp [Function.comp_def, get_gcT, get, put, gcI, pullI, push1, pushI, pullS, pushS, gcH, patL, canL, canH, canTL, canT, segR, ix, upd, up1, mapC_rows, mapC_gone, pushC_rows, pushC_gone, pullP, pullV, pullSS, pullD, pullT, pullF, pushP, pushV, pushSS, pushD, pushT, pushF, pullD16, pushD16, L27, AHo, noT, rowA, rowS, pull_X, push_X, pull_SP, push_SP, prP, prV, prSS, prD, pull_PT, push_PT, pullW, pushW, pull_PE, push_PE, pull_I, push_I, L27c, cF, cW, pull_V, push_V, encPE, hRl, hTl, hn1, g1, g5, g7, g13, g14, g15, g17, g18, g19]
                | false =>
                  have hb : (Int.tmod (halfN B j) 2 == 1) = false := by rw [hbit]; simp only [seenP, o1, o2]; rfl
                  repeat' first
                    | with_reducible rfl
                    | simp only [rowS, encPE, q4, hb, hn1, o1, o2, g1, g5, g7, g13, g14, g15, g17, g18, g19, RS_, FB_, segR, ST_, seval, ne_eq, bne, forall_const, implies_true, TY_, WLS]
                    | (with_reducible refine drawK_id ?_); refine drawK_auto hmix (by kernel_rfl) ?_
                    | (with_reducible refine draw_fin ?_ ?_); · kernel_rfl
                    | (with_reducible refine draw_id ?_); kernel_rfl
                    | (with_reducible refine callK_id (f := 14) ?_); refine callK_fun (c_On p) rfl rfl ?_
                    | (with_reducible refine And.intro ?_ ?_; · omega)
                  refine ⟨3 - (n + 1), _, _, by omega, Wk.gc [0, 1, 2, 3, 4, 5, 6, 7, 8, 9, 10] rfl (by decide), n + 1, rfl, by omega, ?_, ?_, ?_, ?_, ?_, ?_, ?_, ?_⟩ <;> simp [Function.comp_def, get_gcT, get, put, gcI, pullI, push1, pushI, pullS, pushS, gcH, patL, canL, canH, canTL, canT, segR, ix, upd, up1, mapC_rows, mapC_gone, pushC_rows, pushC_gone, pullP, pullV, pullSS, pullD, pullT, pullF, pushP, pushV, pushSS, pushD, pushT, pushF, pullD16, pushD16, L27, AHo, noT, rowA, rowS, pull_X, push_X, pull_SP, push_SP, prP, prV, prSS, prD, pull_PT, push_PT, pullW, pushW, pull_PE, push_PE, pull_I, push_I, L27c, cF, cW, pull_V, push_V, encPE, hRl, hTl, hn1, g1, g5, g7, g13, g14, g15, g17, g18, g19]
            · have q3 : decide ((n : Int) < 3) = false := decide_eq_false (by omega)
              repeat' first
                | with_reducible rfl
                | simp only [rowS, q3, hk1, g1, g5, g7, g13, g14, g15, g17, RS_, FB_, segR, ST_, seval, ne_eq, bne, forall_const, implies_true, TY_, WLS]
                | (with_reducible refine drawK_id ?_); refine drawK_auto hmix (by kernel_rfl) ?_
                | (with_reducible refine draw_fin ?_ ?_); · kernel_rfl
                | (with_reducible refine draw_id ?_); kernel_rfl
                | (with_reducible refine And.intro ?_ ?_; · omega)
              refine ⟨b.ps.length - (k + 1), _, _, by omega, Wk.gc [0, 1, 2, 3, 4, 5, 6, 7, 8, 9] rfl (by decide), k + 1, rfl, by omega, ?_, ?_, ?_, ?_, ?_, ?_⟩ <;> simp [Function.comp_def, get_gcT, get, put, gcI, pullI, push1, pushI, pullS, pushS, gcH, patL, canL, canH, canTL, canT, segR, ix, upd, up1, mapC_rows, mapC_gone, pushC_rows, pushC_gone, pullP, pullV, pullSS, pullD, pullT, pullF, pushP, pushV, pushSS, pushD, pushT, pushF, pullD16, pushD16, L27, AHo, noT, rowA, rowS, pull_X, push_X, pull_SP, push_SP, prP, prV, prSS, prD, pull_PT, push_PT, pullW, pushW, pull_PE, push_PE, pull_I, push_I, L27c, cF, cW, pull_V, push_V, encPE, hRl, hTl, hk1, g1, g5, g7, g13, g14, g15, g17]
          | false =>
          cases w4 : (p.ro == 4) with
          | true =>
            obtain ⟨e4, hnf⟩ := h4 (eq_of_beq w4)
            obtain rfl : t = p.v := by rw [ht] at e4; exact Option.some.inj e4
            repeat' first
              | with_reducible rfl
              | simp only [rowS, hcP, hcF, hcW, q, hk0, hkN, hpr, hrr, hRl, hTl, sI, encPE, encV, g1, g5, g7, g13, g14, List.length_map, Int.toNat_natCast, beq_self_eq_true, w3, w4, htr, hnf, RS_, FB_, segR, ST_, seval, ne_eq, bne, forall_const, implies_true, TY_, WLS]
              | (with_reducible refine drawK_id ?_); refine drawK_auto hmix (by kernel_rfl) ?_
              | (with_reducible refine draw_fin ?_ ?_); · kernel_rfl
              | (with_reducible refine draw_id ?_); kernel_rfl
              | (with_reducible refine And.intro ?_ ?_; · omega)
            refine loopK_wk (by kernel_rfl) (I_r3 xs l i b x y z k p) 3 ⟨_, _, Wk.gc [0, 1, 2, 3, 4, 5, 6, 7, 8, 9, 10] rfl (by decide), 0, by omega, by omega, ?_, ?_, ?_, ?_, ?_, ?_, ?_, ?_⟩ ?_
            · simp [Function.comp_def, get_gcT, get, put, gcI, pullI, push1, pushI, pullS, pushS, gcH, patL, canL, canH, canTL, canT, segR, ix, upd, up1, mapC_rows, mapC_gone, pushC_rows, pushC_gone, pullP, pullV, pullSS, pullD, pullT, pullF, pushP, pushV, pushSS, pushD, pushT, pushF, pullD16, pushD16, L27, AHo, noT, rowA, rowS, pull_X, push_X, pull_SP, push_SP, prP, prV, prSS, prD, pull_PT, push_PT, pullW, pushW, pull_PE, push_PE, pull_I, push_I, L27c, cF, cW, pull_V, push_V, encPE, hRl, hTl, cP, g1, g5, g7, g13, g14, w3, w4, htr, hnf]
            · simp [Function.comp_def, get_gcT, get, put, gcI, pullI, push1, pushI, pullS, pushS, gcH, patL, canL, canH, canTL, canT, segR, ix, upd, up1, mapC_rows, mapC_gone, pushC_rows, pushC_gone, pullP, pullV, pullSS, pullD, pullT, pullF, pushP, pushV, pushSS, pushD, pushT, pushF, pullD16, pushD16, L27, AHo, noT, rowA, rowS, pull_X, push_X, pull_SP, push_SP, prP, prV, prSS, prD, pull_PT, push_PT, pullW, pushW, pull_PE, push_PE, pull_I, push_I, L27c, cF, cW, pull_V, push_V, encPE, hRl, hTl, cP, g1, g5, g7, g13, g14, w3, w4, htr, hnf]
            · simp [Function.comp_def, get_gcT, get, put, gcI, pullI, push1, pushI, pullS, pushS, gcH, patL, canL, canH, canTL, canT, segR, ix, upd, up1, mapC_rows, mapC_gone, pushC_rows, pushC_gone, pullP, pullV, pullSS, pullD, pullT, pullF, pushP, pushV, pushSS, pushD, pushT, pushF, pullD16, pushD16, L27, AHo, noT, rowA, rowS, pull_X, push_X, pull_SP, push_SP, prP, prV, prSS, prD, pull_PT, push_PT, pullW, pushW, pull_PE, push_PE, pull_I, push_I, L27c, cF, cW, pull_V, push_V, encPE, hRl, hTl, cP, g1, g5, g7, g13, g14, w3, w4, htr, hnf]
            · simp [Function.comp_def, get_gcT, get, put, gcI, pullI, push1, pushI, pullS, pushS, gcH, patL, canL, canH, canTL, canT, segR, ix, upd, up1, mapC_rows, mapC_gone, pushC_rows, pushC_gone, pullP, pullV, pullSS, pullD, pullT, pullF, pushP, pushV, pushSS, pushD, pushT, pushF, pullD16, pushD16, L27, AHo, noT, rowA, rowS, pull_X, push_X, pull_SP, push_SP, prP, prV, prSS, prD, pull_PT, push_PT, pullW, pushW, pull_PE, push_PE, pull_I, push_I, L27c, cF, cW, pull_V, push_V, encPE, hRl, hTl, cP, g1, g5, g7, g13, g14, w3, w4, htr, hnf]
            · simp [Function.comp_def, get_gcT, get, put, gcI, pullI, push1, pushI, pullS, pushS, gcH, patL, canL, canH, canTL, canT, segR, ix, upd, up1, mapC_rows, mapC_gone, pushC_rows, pushC_gone, pullP, pullV, pullSS, pullD, pullT, pullF, pushP, pushV, pushSS, pushD, pushT, pushF, pullD16, pushD16, L27, AHo, noT, rowA, rowS, pull_X, push_X, pull_SP, push_SP, prP, prV, prSS, prD, pull_PT, push_PT, pullW, pushW, pull_PE, push_PE, pull_I, push_I, L27c, cF, cW, pull_V, push_V, encPE, hRl, hTl, cP, g1, g5, g7, g13, g14, w3, w4, htr, hnf]
            · simp [Function.comp_def, get_gcT, get, put, gcI, pullI, push1, pushI, pullS, pushS, gcH, patL, canL, canH, canTL, canT, segR, ix, upd, up1, mapC_rows, mapC_gone, pushC_rows, pushC_gone, pullP, pullV, pullSS, pullD, pullT, pullF, pushP, pushV, pushSS, pushD, pushT, pushF, pullD16, pushD16, L27, AHo, noT, rowA, rowS, pull_X, push_X, pull_SP, push_SP, prP, prV, prSS, prD, pull_PT, push_PT, pullW, pushW, pull_PE, push_PE, pull_I, push_I, L27c, cF, cW, pull_V, push_V, encPE, hRl, hTl, cP, g1, g5, g7, g13, g14, w3, w4, htr, hnf]
            · simp [Function.comp_def, get_gcT, get, put, gcI, pullI, push1, pushI, pullS, pushS, gcH, patL, canL, canH, canTL, canT, segR, ix, upd, up1, mapC_rows, mapC_gone, pushC_rows, pushC_gone, pullP, pullV, pullSS, pullD, pullT, pullF, pushP, pushV, pushSS, pushD, pushT, pushF, pullD16, pushD16, L27, AHo, noT, rowA, rowS, pull_X, push_X, pull_SP, push_SP, prP, prV, prSS, prD, pull_PT, push_PT, pullW, pushW, pull_PE, push_PE, pull_I, push_I, L27c, cF, cW, pull_V, push_V, encPE, hRl, hTl, cP, g1, g5, g7, g13, g14, w3, w4, htr, hnf]
            · simp [Function.comp_def, get_gcT, get, put, gcI, pullI, push1, pushI, pullS, pushS, gcH, patL, canL, canH, canTL, canT, segR, ix, upd, up1, mapC_rows, mapC_gone, pushC_rows, pushC_gone, pullP, pullV, pullSS, pullD, pullT, pullF, pushP, pushV, pushSS, pushD, pushT, pushF, pullD16, pushD16, L27, AHo, noT, rowA, rowS, pull_X, push_X, pull_SP, push_SP, prP, prV, prSS, prD, pull_PT, push_PT, pullW, pushW, pull_PE, push_PE, pull_I, push_I, L27c, cF, cW, pull_V, push_V, encPE, hRl, hTl, cP, g1, g5, g7, g13, g14, w3, w4, htr, hnf]
            clear g1 g5 g7 g13 g14
            rintro m tm H ⟨n, rfl, hn, g1, g5, g7, g13, g14, g15, g17, rfl⟩
            unfold L27c L27
            simp only [List.cons_append, List.nil_append]
            have hn1 : IntKind.i64.wrap ((n : Int) + 1) = ((n + 1 : Nat) : Int) := by rw [wr_i64 (by omega) (by omega)]; rfl
            by_cases hn3 : n < 3
            · have q3 : decide ((n : Int) < 3) = true := decide_eq_true (by omega)
              have cO := c_Open b (by omega) (n : Int)
              have hbit := bits b.ps (n : Int) hl6 hp
              obtain ⟨B, hB⟩ : ∃ B, openB b.ps (n : Int) b.ps.length = B := ⟨_, rfl⟩
              rw [hB] at cO hbit
              clear hcP hcF hcW
              have hcP := True.intro
              repeat' first
                | with_reducible rfl
                | simp only [rowS, q3, g1, g5, g7, g13, g14, g15, g17, RS_, FB_, segR, ST_, seval, ne_eq, bne, forall_const, implies_true, TY_, WLS]
                | (with_reducible refine drawK_id ?_); refine drawK_auto hmix (by kernel_rfl) ?_
                | (with_reducible refine draw_fin ?_ ?_); · kernel_rfl
                | (with_reducible refine draw_id ?_); kernel_rfl
                | ((with_reducible refine callK_id (f := 17) ?_); refine callK_funR [3, 4, 5, 6] (r := .s (.raw (.int .u32 B))) (by simpa [pullH, rowS, pullI, pullS, ix, roC_rows, roP, roV, roSS, roD, roT, roF, roC_rP, roC_rV, roC_rS, roC_rD] using cO) rfl ?_)
                | (with_reducible refine And.intro ?_ ?_; · omega)
              refine loopK_wk (by kernel_rfl) (I_r4 xs l i b x y z k p n B) k ⟨_, _, Wk.gc [0, 1, 2, 3, 4, 5, 6, 7, 8, 9, 10] rfl (by decide), 0, by omega, by omega, ?_, ?_, ?_, ?_, ?_, ?_, ?_, ?_, ?_, ?_⟩ ?_
              · simp [Function.comp_def, get_gcT, get, put, gcI, pullI, push1, pushI, pullS, pushS, gcH, patL, canL, canH, canTL, canT, segR, ix, upd, up1, mapC_rows, mapC_gone, pushC_rows, pushC_gone, pullP, pullV, pullSS, pullD, pullT, pullF, pushP, pushV, pushSS, pushD, pushT, pushF, pullD16, pushD16, L27, AHo, noT, rowA, rowS, pull_X, push_X, pull_SP, push_SP, prP, prV, prSS, prD, pull_PT, push_PT, pullW, pushW, pull_PE, push_PE, pull_I, push_I, L27c, cF, cW, pull_V, push_V, encPE, hRl, hTl, halfN, g1, g5, g7, g13, g14, g15, g17]
              · simp [Function.comp_def, get_gcT, get, put, gcI, pullI, push1, pushI, pullS, pushS, gcH, patL, canL, canH, canTL, canT, segR, ix, upd, up1, mapC_rows, mapC_gone, pushC_rows, pushC_gone, pullP, pullV, pullSS, pullD, pullT, pullF, pushP, pushV, pushSS, pushD, pushT, pushF, pullD16, pushD16, L27, AHo, noT, rowA, rowS, pull_X, push_X, pull_SP, push_SP, prP, prV, prSS, prD, pull_PT, push_PT, pullW, pushW, pull_PE, push_PE, pull_I, push_I, L27c, cF, cW, pull_V, push_V, encPE, hRl, hTl, halfN, g1, g5, g7, g13, g14, g15, g17]
              · simp [Function.comp_def, get_gcT, get, put, gcI, pullI, push1, pushI, pullS, pushS, gcH, patL, canL, canH, canTL, canT, segR, ix, upd, up1, mapC_rows, mapC_gone, pushC_rows, pushC_gone, pullP, pullV, pullSS, pullD, pullT, pullF, pushP, pushV, pushSS, pushD, pushT, pushF, pullD16, pushD16, L27, AHo, noT, rowA, rowS, pull_X, push_X, pull_SP, push_SP, prP, prV, prSS, prD, pull_PT, push_PT, pullW, pushW, pull_PE, push_PE, pull_I, push_I, L27c, cF, cW, pull_V, push_V, encPE, hRl, hTl, halfN, g1, g5, g7, g13, g14, g15, g17]
              · simp [Function.comp_def, get_gcT, get, put, gcI, pullI, push1, pushI, pullS, pushS, gcH, patL, canL, canH, canTL, canT, segR, ix, upd, up1, mapC_rows, mapC_gone, pushC_rows, pushC_gone, pullP, pullV, pullSS, pullD, pullT, pullF, pushP, pushV, pushSS, pushD, pushT, pushF, pullD16, pushD16, L27, AHo, noT, rowA, rowS, pull_X, push_X, pull_SP, push_SP, prP, prV, prSS, prD, pull_PT, push_PT, pullW, pushW, pull_PE, push_PE, pull_I, push_I, L27c, cF, cW, pull_V, push_V, encPE, hRl, hTl, halfN, g1, g5, g7, g13, g14, g15, g17]
              · simp [Function.comp_def, get_gcT, get, put, gcI, pullI, push1, pushI, pullS, pushS, gcH, patL, canL, canH, canTL, canT, segR, ix, upd, up1, mapC_rows, mapC_gone, pushC_rows, pushC_gone, pullP, pullV, pullSS, pullD, pullT, pullF, pushP, pushV, pushSS, pushD, pushT, pushF, pullD16, pushD16, L27, AHo, noT, rowA, rowS, pull_X, push_X, pull_SP, push_SP, prP, prV, prSS, prD, pull_PT, push_PT, pullW, pushW, pull_PE, push_PE, pull_I, push_I, L27c, cF, cW, pull_V, push_V, encPE, hRl, hTl, halfN, g1, g5, g7, g13, g14, g15, g17]
              · simp [Function.comp_def, get_gcT, get, put, gcI, pullI, push1, pushI, pullS, pushS, gcH, patL, canL, canH, canTL, canT, segR, ix, upd, up1, mapC_rows, mapC_gone, pushC_rows, pushC_gone, pullP, pullV, pullSS, pullD, pullT, pullF, pushP, pushV, pushSS, pushD, pushT, pushF, pullD16, pushD16, L27, AHo, noT, rowA, rowS, pull_X, push_X, pull_SP, push_SP, prP, prV, prSS, prD, pull_PT, push_PT, pullW, pushW, pull_PE, push_PE, pull_I, push_I, L27c, cF, cW, pull_V, push_V, encPE, hRl, hTl, halfN, g1, g5, g7, g13, g14, g15, g17]
              · simp [Function.comp_def, get_gcT, get, put, gcI, pullI, push1, pushI, pullS, pushS, gcH, patL, canL, canH, canTL, canT, segR, ix, upd, up1, mapC_rows, mapC_gone, pushC_rows, pushC_gone, pullP, pullV, pullSS, pullD, pullT, pullF, pushP, pushV, pushSS, pushD, pushT, pushF, pullD16, pushD16, L27, AHo, noT, rowA, rowS, pull_X, push_X, pull_SP, push_SP, prP, prV, prSS, prD, pull_PT, push_PT, pullW, pushW, pull_PE, push_PE, pull_I, push_I, L27c, cF, cW, pull_V, push_V, encPE, hRl, hTl, halfN, g1, g5, g7, g13, g14, g15, g17]
              · simp [Function.comp_def, get_gcT, get, put, gcI, pullI, push1, pushI, pullS, pushS, gcH, patL, canL, canH, canTL, canT, segR, ix, upd, up1, mapC_rows, mapC_gone, pushC_rows, pushC_gone, pullP, pullV, pullSS, pullD, pullT, pullF, pushP, pushV, pushSS, pushD, pushT, pushF, pullD16, pushD16, L27, AHo, noT, rowA, rowS, pull_X, push_X, pull_SP, push_SP, prP, prV, prSS, prD, pull_PT, push_PT, pullW, pushW, pull_PE, push_PE, pull_I, push_I, L27c, cF, cW, pull_V, push_V, encPE, hRl, hTl, halfN, g1, g5, g7, g13, g14, g15, g17]
              · simp [Function.comp_def, get_gcT, get, put, gcI, pullI, push1, pushI, pullS, pushS, gcH, patL, canL, canH, canTL, canT, segR, ix, upd, up1, mapC_rows, mapC_gone, pushC_rows, pushC_gone, pullP, pullV, pullSS, pullD, pullT, pullF, pushP, pushV, pushSS, pushD, pushT, pushF, pullD16, pushD16, L27, AHo, noT, rowA, rowS, pull_X, push_X, pull_SP, push_SP, prP, prV, prSS, prD, pull_PT, push_PT, pullW, pushW, pull_PE, push_PE, pull_I, push_I, L27c, cF, cW, pull_V, push_V, encPE, hRl, hTl, halfN, g1, g5, g7, g13, g14, g15, g17]
              · simp [Function.comp_def, get_gcT, get, put, gcI, pullI, push1, pushI, pullS, pushS, gcH, patL, canL, canH, canTL, canT, segR, ix, upd, up1, mapC_rows, mapC_gone, pushC_rows, pushC_gone, pullP, pullV, pullSS, pullD, pullT, pullF, pushP, pushV, pushSS, pushD, pushT, pushF, pullD16, pushD16, L27, AHo, noT, rowA, rowS, pull_X, push_X, pull_SP, push_SP, prP, prV, prSS, prD, pull_PT, push_PT, pullW, pushW, pull_PE, push_PE, pull_I, push_I, L27c, cF, cW, pull_V, push_V, encPE, hRl, hTl, halfN, g1, g5, g7, g13, g14, g15, g17]
              clear g1 g5 g7 g13 g14 g15 g17
              rintro m tm H ⟨j, rfl, hj, g1, g5, g7, g13, g14, g15, g17, g18, g19, rfl⟩
              unfold L27c L27
              simp only [List.cons_append, List.nil_append]
              have hj1 : IntKind.i64.wrap ((j : Int) + 1) = ((j + 1 : Nat) : Int) := by rw [wr_i64 (by omega) (by omega)]; rfl
              by_cases hjk : j < k
              · have q4 : decide ((j : Int) < (k : Int)) = true := decide_eq_true (by omega)
                repeat' first
                  | with_reducible rfl
                  | simp only [rowS, q4, hj1, g1, g5, g7, g13, g14, g15, g17, g18, g19, RS_, FB_, segR, ST_, seval, ne_eq, bne, forall_const, implies_true, TY_, WLS]
                  | (with_reducible refine drawK_id ?_); refine drawK_auto hmix (by kernel_rfl) ?_
                  | (with_reducible refine draw_fin ?_ ?_); · kernel_rfl
                  | (with_reducible refine draw_id ?_); kernel_rfl
                  | (with_reducible refine And.intro ?_ ?_; · omega)
                refine ⟨k - (j + 1), _, _, by omega, Wk.gc [0, 1, 2, 3, 4, 5, 6, 7, 8, 9, 10] rfl (by decide), j + 1, rfl, by omega, ?_, ?_, ?_, ?_, ?_, ?_, ?_, ?_, ?_, ?_⟩ <;> simp [Function.comp_def, get_gcT, get, put, gcI, pullI, push1, pushI, pullS, pushS, gcH, patL, canL, canH, canTL, canT, segR, ix, upd, up1, mapC_rows, mapC_gone, pushC_rows, pushC_gone, pullP, pullV, pullSS, pullD, pullT, pullF, pushP, pushV, pushSS, pushD, pushT, pushF, pullD16, pushD16, L27, AHo, noT, rowA, rowS, pull_X, push_X, pull_SP, push_SP, prP, prV, prSS, prD, pull_PT, push_PT, pullW, pushW, pull_PE, push_PE, pull_I, push_I, L27c, cF, cW, pull_V, push_V, encPE, hRl, hTl, halfN, hj1, g1, g5, g7, g13, g14, g15, g17, g18, g19]
              · have q4 : decide ((j : Int) < (k : Int)) = false := decide_eq_false (by omega)
                have hin : j = k := by omega
                subst hin
                cases o1 : onP p with
                | false =>
                  have hb : (Int.tmod (halfN B j) 2 == 1) = false := by rw [hbit]; simp only [seenP, o1]; rfl
                  repeat' first
                    | with_reducible rfl
                    | simp only [rowS, encPE, q4, hb, hn1, o1, g1, g5, g7, g13, g14, g15, g17, g18, g19, RS_, FB_, segR, ST_, seval, ne_eq, bne, forall_const, implies_true, TY_, WLS]
                    | (with_reducible refine drawK_id ?_); refine drawK_auto hmix (by kernel_rfl) ?_
                    | (with_reducible refine draw_fin ?_ ?_); · kernel_rfl
                    | (with_reducible refine draw_id ?_); kernel_rfl
                    | (with_reducible refine callK_id (f := 14) ?_); refine callK_fun (c_On p) rfl rfl ?_
                    | (with_reducible refine And.intro ?_ ?_; · omega)
                  refine ⟨3 - (n + 1), _, _, by omega, Wk.gc [0, 1, 2, 3, 4, 5, 6, 7, 8, 9, 10] rfl (by decide), n + 1, rfl, by omega, ?_, ?_, ?_, ?_, ?_, ?_, ?_, ?_⟩ <;> simp [Function.comp_def, get_gcT, get, put, gcI, pullI, push1, pushI, pullS, pushS, gcH, patL, canL, canH, canTL, canT, segR, ix, upd, up1, mapC_rows, mapC_gone, pushC_rows, pushC_gone, pullP, pullV, pullSS, pullD, pullT, pullF, pushP, pushV, pushSS, pushD, pushT, pushF, pullD16, pushD16, L27, AHo, noT, rowA, rowS, pull_X, push_X, pull_SP, push_SP, prP, prV, prSS, prD, pull_PT, push_PT, pullW, pushW, pull_PE, push_PE, pull_I, push_I, L27c, cF, cW, pull_V, push_V, encPE, hRl, hTl, hn1, g1, g5, g7, g13, g14, g15, g17, g18, g19]
                | true =>
                cases o2 : decide ((n : Int) ≤ p.st) with
                | true =>
                  have hb : (Int.tmod (halfN B j) 2 == 1) = true := by rw [hbit]; simp only [seenP, o1, o2]; rfl
                  repeat' first
                    | with_reducible rfl
                    | simp only [rowS, encPE, q4, hb, hn1, o1, o2, g1, g5, g7, g13, g14, g15, g17, g18, g19, RS_, FB_, segR, ST_, seval, ne_eq, bne, forall_const, implies_true, TY_, WLS]
                    | (with_reducible refine drawK_id ?_); refine drawK_auto hmix (by kernel_rfl) ?_
                    | (with_reducible refine draw_fin ?_ ?_); · kernel_rfl
                    | (with_reducible refine draw_id ?_); kernel_rfl
                    | (with_reducible refine callK_id (f := 14) ?_); refine callK_fun (c_On p) rfl rfl ?_
                    | (with_reducible refine And.intro ?_ ?_; · omega)
                  refine ⟨3 - (n + 1), _, _, by omega, Wk.gc [0, 1, 2, 3, 4, 5, 6, 7, 8, 9, 10] rfl (by decide), n + 1, rfl, by omega, ?_, ?_, ?_, ?_, ?_, ?_, ?_, ?_⟩ <;> simp [Function.comp_def, get_gcT, get, put, gcI, pullI, push1, pushI, pullS, pushS, gcH, patL, canL, canH, canTL, canT, segR, ix, upd, up1, mapC_rows, mapC_gone, pushC_rows, pushC_gone, pullP, pullV, pullSS, pullD, pullT, pullF, pushP, pushV, pushSS, pushD, pushT, pushF, pullD16, pushD16, L27, AHo, noT, rowA, rowS, pull_X, push_X, pull_SP, push_SP, prP, prV, prSS, prD, pull_PT, push_PT, pullW, pushW, pull_PE, push_PE, pull_I, push_I, L27c, cF, cW, pull_V, push_V, encPE, hRl, hTl, hn1, g1, g5, g7, g13, g14, g15, g17, g18, g19]
                | false =>
                  have hb : (Int.tmod (halfN B j) 2 == 1) = false := by rw [hbit]; simp only [seenP, o1, o2]; rfl
                  repeat' first
                    | with_reducible rfl
                    | simp only [rowS, encPE, q4, hb, hn1, o1, o2, g1, g5, g7, g13, g14, g15, g17, g18, g19, RS_, FB_, segR, ST_, seval, ne_eq, bne, forall_const, implies_true, TY_, WLS]
                    | (with_reducible refine drawK_id ?_); refine drawK_auto hmix (by kernel_rfl) ?_
                    | (with_reducible refine draw_fin ?_ ?_); · kernel_rfl
                    | (with_reducible refine draw_id ?_); kernel_rfl
                    | (with_reducible refine callK_id (f := 14) ?_); refine callK_fun (c_On p) rfl rfl ?_
                    | (with_reducible refine And.intro ?_ ?_; · omega)
                  refine ⟨3 - (n + 1), _, _, by omega, Wk.gc [0, 1, 2, 3, 4, 5, 6, 7, 8, 9, 10] rfl (by decide), n + 1, rfl, by omega, ?_, ?_, ?_, ?_, ?_, ?_, ?_, ?_⟩ <;> simp [Function.comp_def, get_gcT, get, put, gcI, pullI, push1, pushI, pullS, pushS, gcH, patL, canL, canH, canTL, canT, segR, ix, upd, up1, mapC_rows, mapC_gone, pushC_rows, pushC_gone, pullP, pullV, pullSS, pullD, pullT, pullF, pushP, pushV, pushSS, pushD, pushT, pushF, pullD16, pushD16, L27, AHo, noT, rowA, rowS, pull_X, push_X, pull_SP, push_SP, prP, prV, prSS, prD, pull_PT, push_PT, pullW, pushW, pull_PE, push_PE, pull_I, push_I, L27c, cF, cW, pull_V, push_V, encPE, hRl, hTl, hn1, g1, g5, g7, g13, g14, g15, g17, g18, g19]
            · have q3 : decide ((n : Int) < 3) = false := decide_eq_false (by omega)
              repeat' first
                | with_reducible rfl
                | simp only [rowS, q3, hk1, g1, g5, g7, g13, g14, g15, g17, RS_, FB_, segR, ST_, seval, ne_eq, bne, forall_const, implies_true, TY_, WLS]
                | (with_reducible refine drawK_id ?_); refine drawK_auto hmix (by kernel_rfl) ?_
                | (with_reducible refine draw_fin ?_ ?_); · kernel_rfl
                | (with_reducible refine draw_id ?_); kernel_rfl
                | (with_reducible refine And.intro ?_ ?_; · omega)
              refine ⟨b.ps.length - (k + 1), _, _, by omega, Wk.gc [0, 1, 2, 3, 4, 5, 6, 7, 8, 9] rfl (by decide), k + 1, rfl, by omega, ?_, ?_, ?_, ?_, ?_, ?_⟩ <;> simp [Function.comp_def, get_gcT, get, put, gcI, pullI, push1, pushI, pullS, pushS, gcH, patL, canL, canH, canTL, canT, segR, ix, upd, up1, mapC_rows, mapC_gone, pushC_rows, pushC_gone, pullP, pullV, pullSS, pullD, pullT, pullF, pushP, pushV, pushSS, pushD, pushT, pushF, pullD16, pushD16, L27, AHo, noT, rowA, rowS, pull_X, push_X, pull_SP, push_SP, prP, prV, prSS, prD, pull_PT, push_PT, pullW, pushW, pull_PE, push_PE, pull_I, push_I, L27c, cF, cW, pull_V, push_V, encPE, hRl, hTl, hk1, g1, g5, g7, g13, g14, g15, g17]
          | false =>
            have hst := h0 (by simpa using w3) (by simpa using w4)
            repeat' first
              | with_reducible rfl
              | simp only [rowS, hcP, hcF, hcW, q, hk0, hkN, hpr, hrr, hRl, hTl, sI, encPE, encV, g1, g5, g7, g13, g14, List.length_map, Int.toNat_natCast, beq_self_eq_true, w3, w4, hst, RS_, FB_, segR, ST_, seval, ne_eq, bne, forall_const, implies_true, TY_, WLS]
              | (with_reducible refine drawK_id ?_); refine drawK_auto hmix (by kernel_rfl) ?_
              | (with_reducible refine draw_fin ?_ ?_); · kernel_rfl
              | (with_reducible refine draw_id ?_); kernel_rfl
              | (with_reducible refine And.intro ?_ ?_; · omega)
            refine loopK_wk (by kernel_rfl) (I_r3 xs l i b x y z k p) 3 ⟨_, _, Wk.gc [0, 1, 2, 3, 4, 5, 6, 7, 8, 9, 10] rfl (by decide), 0, by omega, by omega, ?_, ?_, ?_, ?_, ?_, ?_, ?_, ?_⟩ ?_
            · simp [Function.comp_def, get_gcT, get, put, gcI, pullI, push1, pushI, pullS, pushS, gcH, patL, canL, canH, canTL, canT, segR, ix, upd, up1, mapC_rows, mapC_gone, pushC_rows, pushC_gone, pullP, pullV, pullSS, pullD, pullT, pullF, pushP, pushV, pushSS, pushD, pushT, pushF, pullD16, pushD16, L27, AHo, noT, rowA, rowS, pull_X, push_X, pull_SP, push_SP, prP, prV, prSS, prD, pull_PT, push_PT, pullW, pushW, pull_PE, push_PE, pull_I, push_I, L27c, cF, cW, pull_V, push_V, encPE, hRl, hTl, cP, g1, g5, g7, g13, g14, w3, w4, hst]
            · simp [Function.comp_def, get_gcT, get, put, gcI, pullI, push1, pushI, pullS, pushS, gcH, patL, canL, canH, canTL, canT, segR, ix, upd, up1, mapC_rows, mapC_gone, pushC_rows, pushC_gone, pullP, pullV, pullSS, pullD, pullT, pullF, pushP, pushV, pushSS, pushD, pushT, pushF, pullD16, pushD16, L27, AHo, noT, rowA, rowS, pull_X, push_X, pull_SP, push_SP, prP, prV, prSS, prD, pull_PT, push_PT, pullW, pushW, pull_PE, push_PE, pull_I, push_I, L27c, cF, cW, pull_V, push_V, encPE, hRl, hTl, cP, g1, g5, g7, g13, g14, w3, w4, hst]
            · simp [Function.comp_def, get_gcT, get, put, gcI, pullI, push1, pushI, pullS, pushS, gcH, patL, canL, canH, canTL, canT, segR, ix, upd, up1, mapC_rows, mapC_gone, pushC_rows, pushC_gone, pullP, pullV, pullSS, pullD, pullT, pullF, pushP, pushV, pushSS, pushD, pushT, pushF, pullD16, pushD16, L27, AHo, noT, rowA, rowS, pull_X, push_X, pull_SP, push_SP, prP, prV, prSS, prD, pull_PT, push_PT, pullW, pushW, pull_PE, push_PE, pull_I, push_I, L27c, cF, cW, pull_V, push_V, encPE, hRl, hTl, cP, g1, g5, g7, g13, g14, w3, w4, hst]
            · simp [Function.comp_def, get_gcT, get, put, gcI, pullI, push1, pushI, pullS, pushS, gcH, patL, canL, canH, canTL, canT, segR, ix, upd, up1, mapC_rows, mapC_gone, pushC_rows, pushC_gone, pullP, pullV, pullSS, pullD, pullT, pullF, pushP, pushV, pushSS, pushD, pushT, pushF, pullD16, pushD16, L27, AHo, noT, rowA, rowS, pull_X, push_X, pull_SP, push_SP, prP, prV, prSS, prD, pull_PT, push_PT, pullW, pushW, pull_PE, push_PE, pull_I, push_I, L27c, cF, cW, pull_V, push_V, encPE, hRl, hTl, cP, g1, g5, g7, g13, g14, w3, w4, hst]
            · simp [Function.comp_def, get_gcT, get, put, gcI, pullI, push1, pushI, pullS, pushS, gcH, patL, canL, canH, canTL, canT, segR, ix, upd, up1, mapC_rows, mapC_gone, pushC_rows, pushC_gone, pullP, pullV, pullSS, pullD, pullT, pullF, pushP, pushV, pushSS, pushD, pushT, pushF, pullD16, pushD16, L27, AHo, noT, rowA, rowS, pull_X, push_X, pull_SP, push_SP, prP, prV, prSS, prD, pull_PT, push_PT, pullW, pushW, pull_PE, push_PE, pull_I, push_I, L27c, cF, cW, pull_V, push_V, encPE, hRl, hTl, cP, g1, g5, g7, g13, g14, w3, w4, hst]
            · simp [Function.comp_def, get_gcT, get, put, gcI, pullI, push1, pushI, pullS, pushS, gcH, patL, canL, canH, canTL, canT, segR, ix, upd, up1, mapC_rows, mapC_gone, pushC_rows, pushC_gone, pullP, pullV, pullSS, pullD, pullT, pullF, pushP, pushV, pushSS, pushD, pushT, pushF, pullD16, pushD16, L27, AHo, noT, rowA, rowS, pull_X, push_X, pull_SP, push_SP, prP, prV, prSS, prD, pull_PT, push_PT, pullW, pushW, pull_PE, push_PE, pull_I, push_I, L27c, cF, cW, pull_V, push_V, encPE, hRl, hTl, cP, g1, g5, g7, g13, g14, w3, w4, hst]
            · simp [Function.comp_def, get_gcT, get, put, gcI, pullI, push1, pushI, pullS, pushS, gcH, patL, canL, canH, canTL, canT, segR, ix, upd, up1, mapC_rows, mapC_gone, pushC_rows, pushC_gone, pullP, pullV, pullSS, pullD, pullT, pullF, pushP, pushV, pushSS, pushD, pushT, pushF, pullD16, pushD16, L27, AHo, noT, rowA, rowS, pull_X, push_X, pull_SP, push_SP, prP, prV, prSS, prD, pull_PT, push_PT, pullW, pushW, pull_PE, push_PE, pull_I, push_I, L27c, cF, cW, pull_V, push_V, encPE, hRl, hTl, cP, g1, g5, g7, g13, g14, w3, w4, hst]
            · simp [Function.comp_def, get_gcT, get, put, gcI, pullI, push1, pushI, pullS, pushS, gcH, patL, canL, canH, canTL, canT, segR, ix, upd, up1, mapC_rows, mapC_gone, pushC_rows, pushC_gone, pullP, pullV, pullSS, pullD, pullT, pullF, pushP, pushV, pushSS, pushD, pushT, pushF, pullD16, pushD16, L27, AHo, noT, rowA, rowS, pull_X, push_X, pull_SP, push_SP, prP, prV, prSS, prD, pull_PT, push_PT, pullW, pushW, pull_PE, push_PE, pull_I, push_I, L27c, cF, cW, pull_V, push_V, encPE, hRl, hTl, cP, g1, g5, g7, g13, g14, w3, w4, hst]
            clear g1 g5 g7 g13 g14
            rintro m tm H ⟨n, rfl, hn, g1, g5, g7, g13, g14, g15, g17, rfl⟩
            unfold L27c L27
            simp only [List.cons_append, List.nil_append]
            have hn1 : IntKind.i64.wrap ((n : Int) + 1) = ((n + 1 : Nat) : Int) := by rw [wr_i64 (by omega) (by omega)]; rfl
            by_cases hn3 : n < 3
            · have q3 : decide ((n : Int) < 3) = true := decide_eq_true (by omega)
              have cO := c_Open b (by omega) (n : Int)
              have hbit := bits b.ps (n : Int) hl6 hp
              obtain ⟨B, hB⟩ : ∃ B, openB b.ps (n : Int) b.ps.length = B := ⟨_, rfl⟩
              rw [hB] at cO hbit
              clear hcP hcF hcW
              have hcP := True.intro
              repeat' first
                | with_reducible rfl
                | simp only [rowS, q3, g1, g5, g7, g13, g14, g15, g17, RS_, FB_, segR, ST_, seval, ne_eq, bne, forall_const, implies_true, TY_, WLS]
                | (with_reducible refine drawK_id ?_); refine drawK_auto hmix (by kernel_rfl) ?_
                | (with_reducible refine draw_fin ?_ ?_); · kernel_rfl
                | (with_reducible refine draw_id ?_); kernel_rfl
                | ((with_reducible refine callK_id (f := 17) ?_); refine callK_funR [3, 4, 5, 6] (r := .s (.raw (.int .u32 B))) (by simpa [pullH, rowS, pullI, pullS, ix, roC_rows, roP, roV, roSS, roD, roT, roF, roC_rP, roC_rV, roC_rS, roC_rD] using cO) rfl ?_)
                | (with_reducible refine And.intro ?_ ?_; · omega)
              refine loopK_wk (by kernel_rfl) (I_r4 xs l i b x y z k p n B) k ⟨_, _, Wk.gc [0, 1, 2, 3, 4, 5, 6, 7, 8, 9, 10] rfl (by decide), 0, by omega, by omega, ?_, ?_, ?_, ?_, ?_, ?_, ?_, ?_, ?_, ?_⟩ ?_
              · simp [Function.comp_def, get_gcT, get, put, gcI, pullI, push1, pushI, pullS, pushS, gcH, patL, canL, canH, canTL, canT, segR, ix, upd, up1, mapC_rows, mapC_gone, pushC_rows, pushC_gone, pullP, pullV, pullSS, pullD, pullT, pullF, pushP, pushV, pushSS, pushD, pushT, pushF, pullD16, pushD16, L27, AHo, noT, rowA, rowS, pull_X, push_X, pull_SP, push_SP, prP, prV, prSS, prD, pull_PT, push_PT, pullW, pushW, pull_PE, push_PE, pull_I, push_I, L27c, cF, cW, pull_V, push_V, encPE, hRl, hTl, halfN, g1, g5, g7, g13, g14, g15, g17]
              · simp [Function.comp_def, get_gcT, get, put, gcI, pullI, push1, pushI, pullS, pushS, gcH, patL, canL, canH, canTL, canT, segR, ix, upd, up1, mapC_rows, mapC_gone, pushC_rows, pushC_gone, pullP, pullV, pullSS, pullD, pullT, pullF, pushP, pushV, pushSS, pushD, pushT, pushF, pullD16, pushD16, L27, AHo, noT, rowA, rowS, pull_X, push_X, pull_SP, push_SP, prP, prV, prSS, prD, pull_PT, push_PT, pullW, pushW, pull_PE, push_PE, pull_I, push_I, L27c, cF, cW, pull_V, push_V, encPE, hRl, hTl, halfN, g1, g5, g7, g13, g14, g15, g17]
              · simp [Function.comp_def, get_gcT, get, put, gcI, pullI, push1, pushI, pullS, pushS, gcH, patL, canL, canH, canTL, canT, segR, ix, upd, up1, mapC_rows, mapC_gone, pushC_rows, pushC_gone, pullP, pullV, pullSS, pullD, pullT, pullF, pushP, pushV, pushSS, pushD, pushT, pushF, pullD16, pushD16, L27, AHo, noT, rowA, rowS, pull_X, push_X, pull_SP, push_SP, prP, prV, prSS, prD, pull_PT, push_PT, pullW, pushW, pull_PE, push_PE, pull_I, push_I, L27c, cF, cW, pull_V, push_V, encPE, hRl, hTl, halfN, g1, g5, g7, g13, g14, g15, g17]
              · simp [Function.comp_def, get_gcT, get, put, gcI, pullI, push1, pushI, pullS, pushS, gcH, patL, canL, canH, canTL, canT, segR, ix, upd, up1, mapC_rows, mapC_gone, pushC_rows, pushC_gone, pullP, pullV, pullSS, pullD, pullT, pullF, pushP, pushV, pushSS, pushD, pushT, pushF, pullD16, pushD16, L27, AHo, noT, rowA, rowS, pull_X, push_X, pull_SP, push_SP, prP, prV, prSS, prD, pull_PT, push_PT, pullW, pushW, pull_PE, push_PE, pull_I, push_I, L27c, cF, cW, pull_V, push_V, encPE, hRl, hTl, halfN, g1, g5, g7, g13, g14, g15, g17]
              · simp [Function.comp_def, get_gcT, get, put, gcI, pullI, push1, pushI, pullS, pushS, gcH, patL, canL, canH, canTL, canT, segR, ix, upd, up1, mapC_rows, mapC_gone, pushC_rows, pushC_gone, pullP, pullV, pullSS, pullD, pullT, pullF, pushP, pushV, pushSS, pushD, pushT, pushF, pullD16, pushD16, L27, AHo, noT, rowA, rowS, pull_X, push_X, pull_SP, push_SP, prP, prV, prSS, prD, pull_PT, push_PT, pullW, pushW, pull_PE, push_PE, pull_I, push_I, L27c, cF, cW, pull_V, push_V, encPE, hRl, hTl, halfN, g1, g5, g7, g13, g14, g15, g17]
              · simp [Function.comp_def, get_gcT, get, put, gcI, pullI, push1, pushI, pullS, pushS, gcH, patL, canL, canH, canTL, canT, segR, ix, upd, up1, mapC_rows, mapC_gone, pushC_rows, pushC_gone, pullP, pullV, pullSS, pullD, pullT, pullF, pushP, pushV, pushSS, pushD, pushT, pushF, pullD16, pushD16, L27, AHo, noT, rowA, rowS, pull_X, push_X, pull_SP, push_SP, prP, prV, prSS, prD, pull_PT, push_PT, pullW, pushW, pull_PE, push_PE, pull_I, push_I, L27c, cF, cW, pull_V, push_V, encPE, hRl, hTl, halfN, g1, g5, g7, g13, g14, g15, g17]
              · simp [Function.comp_def, get_gcT, get, put, gcI, pullI, push1, pushI, pullS, pushS, gcH, patL, canL, canH, canTL, canT, segR, ix, upd, up1, mapC_rows, mapC_gone, pushC_rows, pushC_gone, pullP, pullV, pullSS, pullD, pullT, pullF, pushP, pushV, pushSS, pushD, pushT, pushF, pullD16, pushD16, L27, AHo, noT, rowA, rowS, pull_X, push_X, pull_SP, push_SP, prP, prV, prSS, prD, pull_PT, push_PT, pullW, pushW, pull_PE, push_PE, pull_I, push_I, L27c, cF, cW, pull_V, push_V, encPE, hRl, hTl, halfN, g1, g5, g7, g13, g14, g15, g17]
              · simp [Function.comp_def, get_gcT, get, put, gcI, pullI, push1, pushI, pullS, pushS, gcH, patL, canL, canH, canTL, canT, segR, ix, upd, up1, mapC_rows, mapC_gone, pushC_rows, pushC_gone, pullP, pullV, pullSS, pullD, pullT, pullF, pushP, pushV, pushSS, pushD, pushT, pushF, pullD16, pushD16, L27, AHo, noT, rowA, rowS, pull_X, push_X, pull_SP, push_SP, prP, prV, prSS, prD, pull_PT, push_PT, pullW, pushW, pull_PE, push_PE, pull_I, push_I, L27c, cF, cW, pull_V, push_V, encPE, hRl, hTl, halfN, g1, g5, g7, g13, g14, g15, g17]
              · simp [Function.comp_def, get_gcT, get, put, gcI, pullI, push1, pushI, pullS, pushS, gcH, patL, canL, canH, canTL, canT, segR, ix, upd, up1, mapC_rows, mapC_gone, pushC_rows, pushC_gone, pullP, pullV, pullSS, pullD, pullT, pullF, pushP, pushV, pushSS, pushD, pushT, pushF, pullD16, pushD16, L27, AHo, noT, rowA, rowS, pull_X, push_X, pull_SP, push_SP, prP, prV, prSS, prD, pull_PT, push_PT, pullW, pushW, pull_PE, push_PE, pull_I, push_I, L27c, cF, cW, pull_V, push_V, encPE, hRl, hTl, halfN, g1, g5, g7, g13, g14, g15, g17]
              · simp [Function.comp_def, get_gcT, get, put, gcI, pullI, push1, pushI, pullS, pushS, gcH, patL, canL, canH, canTL, canT, segR, ix, upd, up1, mapC_rows, mapC_gone, pushC_rows, pushC_gone, pullP, pullV, pullSS, pullD, pullT, pullF, pushP, pushV, pushSS, pushD, pushT, pushF, pullD16, pushD16, L27, AHo, noT, rowA, rowS, pull_X, push_X, pull_SP, push_SP, prP, prV, prSS, prD, pull_PT, push_PT, pullW, pushW, pull_PE, push_PE, pull_I, push_I, L27c, cF, cW, pull_V, push_V, encPE, hRl, hTl, halfN, g1, g5, g7, g13, g14, g15, g17]
              clear g1 g5 g7 g13 g14 g15 g17
              rintro m tm H ⟨j, rfl, hj, g1, g5, g7, g13, g14, g15, g17, g18, g19, rfl⟩
              unfold L27c L27
              simp only [List.cons_append, List.nil_append]
              have hj1 : IntKind.i64.wrap ((j : Int) + 1) = ((j + 1 : Nat) : Int) := by rw [wr_i64 (by omega) (by omega)]; rfl
              by_cases hjk : j < k
              · have q4 : decide ((j : Int) < (k : Int)) = true := decide_eq_true (by omega)
                repeat' first
                  | with_reducible rfl
                  | simp only [rowS, q4, hj1, g1, g5, g7, g13, g14, g15, g17, g18, g19, RS_, FB_, segR, ST_, seval, ne_eq, bne, forall_const, implies_true, TY_, WLS]
                  | (with_reducible refine drawK_id ?_); refine drawK_auto hmix (by kernel_rfl) ?_
                  | (with_reducible refine draw_fin ?_ ?_); · kernel_rfl
                  | (with_reducible refine draw_id ?_); kernel_rfl
                  | (with_reducible refine And.intro ?_ ?_; · omega)
                refine ⟨k - (j + 1), _, _, by omega, Wk.gc [0, 1, 2, 3, 4, 5, 6, 7, 8, 9, 10] rfl (by decide), j + 1, rfl, by omega, ?_, ?_, ?_, ?_, ?_, ?_, ?_, ?_, ?_, ?_⟩ <;> simp [Function.comp_def, get_gcT, get, put, gcI, pullI, push1, pushI, pullS, pushS, gcH, patL, canL, canH, canTL, canT, segR, ix, upd, up1, mapC_rows, mapC_gone, pushC_rows, pushC_gone, pullP, pullV, pullSS, pullD, pullT, pullF, pushP, pushV, pushSS, pushD, pushT, pushF, pullD16, pushD16, L27, AHo, noT, rowA, rowS, pull_X, push_X, pull_SP, push_SP, prP, prV, prSS, prD, pull_PT, push_PT, pullW, pushW, pull_PE, push_PE, pull_I, push_I, L27c, cF, cW, pull_V, push_V, encPE, hRl, hTl, halfN, hj1, g1, g5, g7, g13, g14, g15, g17, g18, g19]
              · have q4 : decide ((j : Int) < (k : Int)) = false := decide_eq_false (by omega)
                have hin : j = k := by omega
                subst hin
                cases o1 : onP p with
                | false =>
                  have hb : (Int.tmod (halfN B j) 2 == 1) = false := by rw [hbit]; simp only [seenP, o1]; rfl
                  repeat' first
                    | with_reducible rfl
                    | simp only [rowS, encPE, q4, hb, hn1, o1, g1, g5, g7, g13, g14, g15, g17, g18, g19, RS_, FB_, segR, ST_, seval, ne_eq, bne, forall_const, implies_true, TY_, WLS]
                    | (with_reducible refine drawK_id ?_); refine drawK_auto hmix (by kernel_rfl) ?_
                    | (with_reducible refine draw_fin ?_ ?_); · kernel_rfl
                    | (with_reducible refine draw_id ?_); kernel_rfl
                    | (with_reducible refine callK_id (f := 14) ?_); refine callK_fun (c_On p) rfl rfl ?_
                    | (with_reducible refine And.intro ?_ ?_; · omega)
                  refine ⟨3 - (n + 1), _, _, by omega, Wk.gc [0, 1, 2, 3, 4, 5, 6, 7, 8, 9, 10] rfl (by decide), n + 1, rfl, by omega, ?_, ?_, ?_, ?_, ?_, ?_, ?_, ?_⟩ <;> simp [Function.comp_def, get_gcT, get, put, gcI, pullI, push1, pushI, pullS, pushS, gcH, patL, canL, canH, canTL, canT, segR, ix, upd, up1, mapC_rows, mapC_gone, pushC_rows, pushC_gone, pullP, pullV, pullSS, pullD, pullT, pullF, pushP, pushV, pushSS, pushD, pushT, pushF, pullD16, pushD16, L27, AHo, noT, rowA, rowS, pull_X, push_X, pull_SP, push_SP, prP, prV, prSS, prD, pull_PT, push_PT, pullW, pushW, pull_PE, push_PE, pull_I, push_I, L27c, cF, cW, pull_V, push_V, encPE, hRl, hTl, hn1, g1, g5, g7, g13, g14, g15, g17, g18, g19]
                | true =>
                cases o2 : decide ((n : Int) ≤ p.st) with
                | true =>
                  have hb : (Int.tmod (halfN B j) 2 == 1) = true := by rw [hbit]; simp only [seenP, o1, o2]; rfl
                  repeat' first
                    | with_reducible rfl
                    | simp only [rowS, encPE, q4, hb, hn1, o1, o2, g1, g5, g7, g13, g14, g15, g17, g18, g19, RS_, FB_, segR, ST_, seval, ne_eq, bne, forall_const, implies_true, TY_, WLS]
                    | (with_reducible refine drawK_id ?_); refine drawK_auto hmix (by kernel_rfl) ?_
                    | (with_reducible refine draw_fin ?_ ?_); · kernel_rfl
                    | (with_reducible refine draw_id ?_); kernel_rfl
                    | (with_reducible refine callK_id (f := 14) ?_); refine callK_fun (c_On p) rfl rfl ?_
                    | (with_reducible refine And.intro ?_ ?_; · omega)
                  refine ⟨3 - (n + 1), _, _, by omega, Wk.gc [0, 1, 2, 3, 4, 5, 6, 7, 8, 9, 10] rfl (by decide), n + 1, rfl, by omega, ?_, ?_, ?_, ?_, ?_, ?_, ?_, ?_⟩ <;> simp [Function.comp_def, get_gcT, get, put, gcI, pullI, push1, pushI, pullS, pushS, gcH, patL, canL, canH, canTL, canT, segR, ix, upd, up1, mapC_rows, mapC_gone, pushC_rows, pushC_gone, pullP, pullV, pullSS, pullD, pullT, pullF, pushP, pushV, pushSS, pushD, pushT, pushF, pullD16, pushD16, L27, AHo, noT, rowA, rowS, pull_X, push_X, pull_SP, push_SP, prP, prV, prSS, prD, pull_PT, push_PT, pullW, pushW, pull_PE, push_PE, pull_I, push_I, L27c, cF, cW, pull_V, push_V, encPE, hRl, hTl, hn1, g1, g5, g7, g13, g14, g15, g17, g18, g19]
                | false =>
                  have hb : (Int.tmod (halfN B j) 2 == 1) = false := by rw [hbit]; simp only [seenP, o1, o2]; rfl
                  repeat' first
                    | with_reducible rfl
                    | simp only [rowS, encPE, q4, hb, hn1, o1, o2, g1, g5, g7, g13, g14, g15, g17, g18, g19, RS_, FB_, segR, ST_, seval, ne_eq, bne, forall_const, implies_true, TY_, WLS]
                    | (with_reducible refine drawK_id ?_); refine drawK_auto hmix (by kernel_rfl) ?_
                    | (with_reducible refine draw_fin ?_ ?_); · kernel_rfl
                    | (with_reducible refine draw_id ?_); kernel_rfl
                    | (with_reducible refine callK_id (f := 14) ?_); refine callK_fun (c_On p) rfl rfl ?_
                    | (with_reducible refine And.intro ?_ ?_; · omega)
                  refine ⟨3 - (n + 1), _, _, by omega, Wk.gc [0, 1, 2, 3, 4, 5, 6, 7, 8, 9, 10] rfl (by decide), n + 1, rfl, by omega, ?_, ?_, ?_, ?_, ?_, ?_, ?_, ?_⟩ <;> simp [Function.comp_def, get_gcT, get, put, gcI, pullI, push1, pushI, pullS, pushS, gcH, patL, canL, canH, canTL, canT, segR, ix, upd, up1, mapC_rows, mapC_gone, pushC_rows, pushC_gone, pullP, pullV, pullSS, pullD, pullT, pullF, pushP, pushV, pushSS, pushD, pushT, pushF, pullD16, pushD16, L27, AHo, noT, rowA, rowS, pull_X, push_X, pull_SP, push_SP, prP, prV, prSS, prD, pull_PT, push_PT, pullW, pushW, pull_PE, push_PE, pull_I, push_I, L27c, cF, cW, pull_V, push_V, encPE, hRl, hTl, hn1, g1, g5, g7, g13, g14, g15, g17, g18, g19]
            · have q3 : decide ((n : Int) < 3) = false := decide_eq_false (by omega)
              repeat' first
                | with_reducible rfl
                | simp only [rowS, q3, hk1, g1, g5, g7, g13, g14, g15, g17, RS_, FB_, segR, ST_, seval, ne_eq, bne, forall_const, implies_true, TY_, WLS]
                | (with_reducible refine drawK_id ?_); refine drawK_auto hmix (by kernel_rfl) ?_
                | (with_reducible refine draw_fin ?_ ?_); · kernel_rfl
                | (with_reducible refine draw_id ?_); kernel_rfl
                | (with_reducible refine And.intro ?_ ?_; · omega)
              refine ⟨b.ps.length - (k + 1), _, _, by omega, Wk.gc [0, 1, 2, 3, 4, 5, 6, 7, 8, 9] rfl (by decide), k + 1, rfl, by omega, ?_, ?_, ?_, ?_, ?_, ?_⟩ <;> simp [Function.comp_def, get_gcT, get, put, gcI, pullI, push1, pushI, pullS, pushS, gcH, patL, canL, canH, canTL, canT, segR, ix, upd, up1, mapC_rows, mapC_gone, pushC_rows, pushC_gone, pullP, pullV, pullSS, pullD, pullT, pullF, pushP, pushV, pushSS, pushD, pushT, pushF, pullD16, pushD16, L27, AHo, noT, rowA, rowS, pull_X, push_X, pull_SP, push_SP, prP, prV, prSS, prD, pull_PT, push_PT, pullW, pushW, pull_PE, push_PE, pull_I, push_I, L27c, cF, cW, pull_V, push_V, encPE, hRl, hTl, hk1, g1, g5, g7, g13, g14, g15, g17]
        · have q : decide ((k : Int) < (b.ps.length : Int)) = false := decide_eq_false (by omega)
          repeat' first
            | with_reducible rfl
            | simp only [rowS, q, hi1, g1, g5, g7, g13, g14, RS_, FB_, segR, ST_, seval, ne_eq, bne, forall_const, implies_true, TY_, WLS]
            | (with_reducible refine drawK_id ?_); refine drawK_auto hmix (by kernel_rfl) ?_
            | (with_reducible refine draw_fin ?_ ?_); · kernel_rfl
            | (with_reducible refine draw_id ?_); kernel_rfl
            | (with_reducible refine And.intro ?_ ?_; · omega)
          refine ⟨l.length - (i + 1), _, _, by omega, Wk.gc [0, 1, 2, 3, 4, 5, 6] rfl (by decide), i + 1, b, rfl, by omega, hg, hv, ?_, ?_, ?_, ?_⟩ <;> simp [Function.comp_def, get_gcT, get, put, gcI, pullI, push1, pushI, pullS, pushS, gcH, patL, canL, canH, canTL, canT, segR, ix, upd, up1, mapC_rows, mapC_gone, pushC_rows, pushC_gone, pullP, pullV, pullSS, pullD, pullT, pullF, pushP, pushV, pushSS, pushD, pushT, pushF, pullD16, pushD16, L27, AHo, noT, rowA, rowS, pull_X, push_X, pull_SP, push_SP, prP, prV, prSS, prD, pull_PT, push_PT, pullW, pushW, pull_PE, push_PE, pull_I, push_I, g1, g5, g7, hi1]
end Go.Ev
