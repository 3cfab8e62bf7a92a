/- A part of the proof: contracts of the functions that the statement reaches. -/
import Derived.Test.YtadikegdadnahaaT27
namespace Go.Ev
open Go.Proofs
set_option maxRecDepth 100000
set_option linter.unusedSimpArgs false
set_option linter.unusedVariables false
set_option maxHeartbeats 4000000
theorem relA_pre {ρ ρ' : Ren} (p : Le ρ ρ') : ∀ {l : List IV} {vs : List Value}, relA ρ l vs → relA ρ' l vs
  | [], [], _ => trivial
  | _ :: _, _ :: _, h => ⟨h.1.pre p, relA_pre p h.2⟩
  | [], _ :: _, h => h.elim
  | _ :: _, [], h => h.elim
theorem callK_nilC {P : Program} {X : Ctx} {f : FuncId} {args : List IV} {k : IV → Heap → Prop} {H H1 : Heap} (c i o sz : Nat) (hn : isNilAt c i o H = true) (e : nilH c i o sz H = H1) (h : callK P X f args k H1) : callK P X f args k H := by
  subst e
  refine ⟨h.1, fun ρ vs w hargs hi => (h.2 _ vs w (relA_pre (Le.app ρ [.nowhere]) hargs) (inv_nilH hi c i o sz hn)).mono ?_⟩
  rintro e w' ⟨v, r, H', ρ', rfl, hk, hr, hle, hi'⟩
  exact ⟨v, r, H', ρ', rfl, hk, hr, (Le.app ρ [.nowhere]).trans hle, hi'⟩
def oRow (o : Bool) : List SV := if o then [.junk, .junk] else [.raw (.slice none 0 0), .raw (.slice none 0 0)]
theorem oRow_len (o : Bool) : (oRow o).length = 2 := by cases o <;> rfl
theorem oRow_t : oRow true = [.junk, .junk] := rfl
theorem oRow_f : oRow false = [.raw (.slice none 0 0), .raw (.slice none 0 0)] := rfl
theorem oRow_pull (σ : List Nat) (o : Bool) : (oRow o).map (pullS σ) = oRow o := by cases o <;> rfl
theorem oRow_push (σ : List Nat) (o : Bool) : (oRow o).map (pushS σ) = oRow o := by cases o <;> rfl
def L18 (xs : List SPt) (l : List A18) (o : Bool) (a : AS) : Heap := [.rows false 5 (xs.map encSP), .rows false 14 (l.map encX), .rows true 25 [rowS 3 4 5 6 a], cP a.ps, cV a.vs, cS a.ss, cD a.ds, .rows true 2 [oRow o]] ++ AHo 8 a
def I_l5 (xs : List SPt) (l : List A18) (m : Nat) (tm : TM) (H : Heap) : Prop := ∃ (i : Nat) (a : AS) (o : Bool), m = l.length - i ∧ i ≤ l.length ∧ Good18 a ∧ get tm 1 = .s (.slice 1 0 l.length) ∧ get tm 5 = .s (.ptr 2 0 0) ∧ get tm 6 = .s (.ptr 8 0 0) ∧ get tm 7 = .s (.ptr 7 0 0) ∧ get tm 8 = .s (.raw (.int .i64 (i : Int))) ∧ H = L18 xs l o a
theorem law5 (x : SET) (xs : List SPt) (l : List A18) (hk : ∀ y ∈ l, 0 ≤ y.kind ∧ 0 ≤ y.port) : FunR Try.prog 5 [.rows false 5 (xs.map encSP), .rows false 14 (l.map encX)] [.a (encSET x 0 xs.length), .s (.slice 1 0 l.length)] (.s (.raw (.bool true))) := by
  refine funR_of rfl fun X => ?_
  refine callK_inline (rs := [.tmp 4]) (n := 133) Try.func5 rfl rfl rfl (by kernel_rfl) (by kernel_rfl) (by simp only [List.length_cons, List.length_nil]; decide) ?_
  have c1 := c_Made x xs
  have hg := made_good x xs
  have hv := hg.bare.vs
  have hs := hg.bare.ss
  have hd := hg.bare.ds
  rw [show cV [] = cV (madeA x xs).vs by rw [hv], show cS [] = cS (madeA x xs).ss by rw [hs], show cD [] = cD (madeA x xs).ds by rw [hd]] at c1
  clear hv hs hd
  generalize madeA x xs = a at *
  have c2 := c_SClone a hg.ok
  have c3 := c_Start a hg.ok
  rw [hg.noT] at c3
  have c4 := c_tstart a (by have := hg.len; omega) hg.nn (by rw [hg.sz]; omega)
  have f4 := fr_start (n := 6) a hg.len
  have k4 := kp_start a
  have n4 := nn_start hg.nn
  have hg2 := hg.next f4 k4 n4
  have c5 := c_same (startA a) (by rw [f4.len]; have := hg.len; omega) (hg.bare.kp k4) (by have := f4.sz; rw [hg.sz] at this; omega)
  have ht := hg.told
  have hf := hg.fl
  have et : cT [] = cT a.told := by rw [ht]
  have ef : cF [] = cF a.fl := by rw [hf]
  unfold PostS at c3
  generalize startA a = b at *
  have hcP := True.intro
  repeat' first
    | with_reducible rfl
    | simp only [encSET, hcP, RS_, FB_, segR, ST_, seval, ne_eq, bne, forall_const, implies_true, TY_, WLS]
    | (with_reducible refine drawK_id ?_); refine drawK_auto hmix (by kernel_rfl) ?_
    | (with_reducible refine draw_fin ?_ ?_); · kernel_rfl
    | (with_reducible refine draw_id ?_); kernel_rfl
    | (with_reducible refine callK_id (f := 6) ?_); refine callK_fun (c_speaks) rfl rfl ?_
    | ((with_reducible refine callK_id (f := 8) ?_); refine callK_funW [0] [] c1 (by simp [pullHW, roC_rows, pull_SP, Function.comp_def]) rfl rfl (by decide) (by simp) (by simp [pullI, pullS, ix, encSET]) ?_; rintro r Hn ⟨rfl, rfl⟩ -; clear hcP)
    | (with_reducible refine And.intro ?_ ?_; · omega)
  have hcP := True.intro
  repeat' first
    | with_reducible rfl
    | simp only [hcP, rowS, mapC_rows, mapC_gone, pushC_rows, pushC_gone, pullP, pullV, pullSS, pullD, pullT, pullF, pushP, pushV, pushSS, pushD, pushT, pushF, pullD16, pushD16, RS_, FB_, segR, ST_, seval, ne_eq, bne, forall_const, implies_true, TY_, WLS]
    | (with_reducible refine drawK_id ?_); refine drawK_auto hmix (by kernel_rfl) ?_
    | (with_reducible refine draw_fin ?_ ?_); · kernel_rfl
    | (with_reducible refine draw_id ?_); kernel_rfl
    | ((with_reducible refine callK_id (f := 18) ?_); refine callK_funW [3, 4, 5, 6] [] (c2) (by simp [pullHW, AH, AHo, HrS, rowA, rowS, pullS, ix, roC_rows, roP, roV, roSS, roD, roT, roF, roC_rP, roC_rV, roC_rS, roC_rD, mapC_rows, mapC_gone, pushC_rows, pushC_gone, pullP, pullV, pullSS, pullD, pullT, pullF, pushP, pushV, pushSS, pushD, pushT, pushF, pullD16, pushD16]) rfl rfl (by decide) (by simp [cP, cV, cS, cD, cT, cF]) (by simp [pullI, pullS, ix, rowS]) ?_; rintro r Hn ⟨rfl, rfl⟩ -; clear hcP)
    | (with_reducible refine And.intro ?_ ?_; · omega)
  have hcP := True.intro
  repeat' first
    | with_reducible rfl
    | simp only [hcP, rowS, mapC_rows, mapC_gone, pushC_rows, pushC_gone, pullP, pullV, pullSS, pullD, pullT, pullF, pushP, pushV, pushSS, pushD, pushT, pushF, pullD16, pushD16, RS_, FB_, segR, ST_, seval, ne_eq, bne, forall_const, implies_true, TY_, WLS]
    | (with_reducible refine drawK_id ?_); refine drawK_auto hmix (by kernel_rfl) ?_
    | (with_reducible refine draw_fin ?_ ?_); · kernel_rfl
    | (with_reducible refine draw_id ?_); kernel_rfl
    | ((with_reducible refine callK_id (f := 7) ?_); refine callK_funW [3, 4, 5, 6] [] (c3) (by simp [pullHW, AH, AHo, HrS, rowA, rowS, pullS, ix, roC_rows, roP, roV, roSS, roD, roT, roF, roC_rP, roC_rV, roC_rS, roC_rD, mapC_rows, mapC_gone, pushC_rows, pushC_gone, pullP, pullV, pullSS, pullD, pullT, pullF, pushP, pushV, pushSS, pushD, pushT, pushF, pullD16, pushD16]) rfl rfl (by decide) (by simp [cP, cV, cS, cD, cT, cF]) (by simp [pullI, pullS, ix, rowS]) ?_; rintro r Hn ⟨rfl, rfl⟩ -; clear hcP)
    | (with_reducible refine And.intro ?_ ?_; · omega)
  have hcP := True.intro
  repeat' first
    | with_reducible rfl
    | simp only [hcP, rowS, mapC_rows, mapC_gone, pushC_rows, pushC_gone, pullP, pullV, pullSS, pullD, pullT, pullF, pushP, pushV, pushSS, pushD, pushT, pushF, pullD16, pushD16, RS_, FB_, segR, ST_, seval, ne_eq, bne, forall_const, implies_true, TY_, WLS]
    | (with_reducible refine drawK_id ?_); refine drawK_auto hmix (by kernel_rfl) ?_
    | (with_reducible refine draw_fin ?_ ?_); · kernel_rfl
    | (with_reducible refine draw_id ?_); kernel_rfl
    | (with_reducible refine And.intro ?_ ?_; · omega)
  refine callK_nilC 12 0 25 17 rfl rfl ?_
  refine callK_nilC 12 0 26 1 rfl rfl ?_
  have hcP := True.intro
  have t17 : Chunk.rows true 17 [] = cT a.told := by rw [ht]; rfl
  have t1 : Chunk.rows true 1 [] = cF a.fl := by rw [hf]; rfl
  repeat' first
    | with_reducible rfl
    | simp only [nilH, hcP, RS_, FB_, segR, ST_, seval, ne_eq, bne, forall_const, implies_true, TY_, WLS]
    | (with_reducible refine drawK_id ?_); refine drawK_auto hmix (by kernel_rfl) ?_
    | (with_reducible refine draw_fin ?_ ?_); · kernel_rfl
    | (with_reducible refine draw_id ?_); kernel_rfl
    | ((with_reducible refine callK_id (f := 19) ?_); refine callK_funW [] [12, 8, 9, 10, 11, 20, 21] (c4) (by simp [pullHW, AH, AHo, HrS, rowA, rowS, pullS, ix, roC_rows, roP, roV, roSS, roD, roT, roF, roC_rP, roC_rV, roC_rS, roC_rD, mapC_rows, mapC_gone, pushC_rows, pushC_gone, pullP, pullV, pullSS, pullD, pullT, pullF, pushP, pushV, pushSS, pushD, pushT, pushF, pullD16, pushD16, t17, t1, ht, hf]) rfl rfl (by decide) (by simp [cP, cV, cS, cD, cT, cF]) (by simp [pullI, pullS, ix, rowS, t17, t1, ht, hf]) ?_; rintro r Hn ⟨rfl, rfl⟩ -; clear hcP)
    | (with_reducible refine And.intro ?_ ?_; · omega)
  have hcP := True.intro
  repeat' first
    | with_reducible rfl
    | simp only [hcP, AH2, rowA, rowS, mapC_rows, mapC_gone, pushC_rows, pushC_gone, pullP, pullV, pullSS, pullD, pullT, pullF, pushP, pushV, pushSS, pushD, pushT, pushF, pullD16, pushD16, RS_, FB_, segR, ST_, seval, ne_eq, bne, forall_const, implies_true, TY_, WLS]
    | (with_reducible refine drawK_id ?_); refine drawK_auto hmix (by kernel_rfl) ?_
    | (with_reducible refine draw_fin ?_ ?_); · kernel_rfl
    | (with_reducible refine draw_id ?_); kernel_rfl
    | ((with_reducible refine callK_id (f := 20) ?_); refine callK_funW [13, 14, 15, 16, 17, 18] [12, 8, 9, 10, 11, 22, 23] (c5) (by simp [pullHW, AH, AHo, HrS, rowA, rowS, pullS, ix, roC_rows, roP, roV, roSS, roD, roT, roF, roC_rP, roC_rV, roC_rS, roC_rD, mapC_rows, mapC_gone, pushC_rows, pushC_gone, pullP, pullV, pullSS, pullD, pullT, pullF, pushP, pushV, pushSS, pushD, pushT, pushF, pullD16, pushD16]) rfl rfl (by decide) (by simp [cP, cV, cS, cD, cT, cF]) (by simp [pullI, pullS, ix, rowS]) ?_; rintro r Hn ⟨rfl, rfl⟩ -; clear hcP)
    | (with_reducible refine And.intro ?_ ?_; · omega)
  repeat' first
    | with_reducible rfl
    | simp only [noT, rowA, rowS, mapC_rows, mapC_gone, pushC_rows, pushC_gone, pullP, pullV, pullSS, pullD, pullT, pullF, pushP, pushV, pushSS, pushD, pushT, pushF, pullD16, pushD16, RS_, FB_, segR, ST_, seval, ne_eq, bne, forall_const, implies_true, TY_, WLS]
    | (with_reducible refine drawK_id ?_); refine drawK_auto hmix (by kernel_rfl) ?_
    | (with_reducible refine draw_fin ?_ ?_); · kernel_rfl
    | (with_reducible refine draw_id ?_); kernel_rfl
    | (with_reducible refine And.intro ?_ ?_; · omega)
  refine loopK_wk (by kernel_rfl) (I_l5 xs l) l.length ⟨_, _, Wk.gc [0, 1, 7, 13, 14, 15, 16, 19, 12, 8, 9, 10, 11, 24, 25] rfl (by decide), 0, noT b, true, by omega, by omega, hg2, ?_, ?_, ?_, ?_, ?_, ?_⟩ ?_
  · simp [Function.comp_def, get_gcT, get, put, gcI, pullI, push1, pushI, pullS, pushS, gcH, patL, canL, canH, canTL, canT, segR, ix, upd, up1, mapC_rows, mapC_gone, pushC_rows, pushC_gone, pullP, pullV, pullSS, pullD, pullT, pullF, pushP, pushV, pushSS, pushD, pushT, pushF, pullD16, pushD16, oRow_t, oRow_f, L18, AHo, noT, rowA, rowS, pull_X, pull_SP, prP, prV, prSS, prD]
  · simp [Function.comp_def, get_gcT, get, put, gcI, pullI, push1, pushI, pullS, pushS, gcH, patL, canL, canH, canTL, canT, segR, ix, upd, up1, mapC_rows, mapC_gone, pushC_rows, pushC_gone, pullP, pullV, pullSS, pullD, pullT, pullF, pushP, pushV, pushSS, pushD, pushT, pushF, pullD16, pushD16, oRow_t, oRow_f, L18, AHo, noT, rowA, rowS, pull_X, pull_SP, prP, prV, prSS, prD]
  · simp [Function.comp_def, get_gcT, get, put, gcI, pullI, push1, pushI, pullS, pushS, gcH, patL, canL, canH, canTL, canT, segR, ix, upd, up1, mapC_rows, mapC_gone, pushC_rows, pushC_gone, pullP, pullV, pullSS, pullD, pullT, pullF, pushP, pushV, pushSS, pushD, pushT, pushF, pullD16, pushD16, oRow_t, oRow_f, L18, AHo, noT, rowA, rowS, pull_X, pull_SP, prP, prV, prSS, prD]
  · simp [Function.comp_def, get_gcT, get, put, gcI, pullI, push1, pushI, pullS, pushS, gcH, patL, canL, canH, canTL, canT, segR, ix, upd, up1, mapC_rows, mapC_gone, pushC_rows, pushC_gone, pullP, pullV, pullSS, pullD, pullT, pullF, pushP, pushV, pushSS, pushD, pushT, pushF, pullD16, pushD16, oRow_t, oRow_f, L18, AHo, noT, rowA, rowS, pull_X, pull_SP, prP, prV, prSS, prD]
  · simp [Function.comp_def, get_gcT, get, put, gcI, pullI, push1, pushI, pullS, pushS, gcH, patL, canL, canH, canTL, canT, segR, ix, upd, up1, mapC_rows, mapC_gone, pushC_rows, pushC_gone, pullP, pullV, pullSS, pullD, pullT, pullF, pushP, pushV, pushSS, pushD, pushT, pushF, pullD16, pushD16, oRow_t, oRow_f, L18, AHo, noT, rowA, rowS, pull_X, pull_SP, prP, prV, prSS, prD]
  · simp [Function.comp_def, get_gcT, get, put, gcI, pullI, push1, pushI, pullS, pushS, gcH, patL, canL, canH, canTL, canT, segR, ix, upd, up1, mapC_rows, mapC_gone, pushC_rows, pushC_gone, pullP, pullV, pullSS, pullD, pullT, pullF, pushP, pushV, pushSS, pushD, pushT, pushF, pullD16, pushD16, oRow_t, oRow_f, L18, AHo, noT, rowA, rowS, pull_X, pull_SP, prP, prV, prSS, prD]
  clear t17 t1 c1 hg c2 c3 c4 f4 k4 n4 hg2 c5 ht hf et ef b a
  rintro m tm H ⟨i, a, o, rfl, hi, hg, g1, g5, g6, g7, g8, rfl⟩
  unfold L18 AHo
  simp only [List.cons_append, List.nil_append, Nat.reduceAdd]
  cases q1 : decide ((i : Int) < (l.length : Int)) with
  | false =>
    repeat' first
      | with_reducible rfl
      | simp only [q1, List.length_map, g1, g5, g6, g7, g8, RS_, FB_, segR, ST_, seval, ne_eq, bne, forall_const, implies_true, TY_, WLS]
      | (with_reducible refine drawK_id ?_); refine drawK_auto hmix (by kernel_rfl) ?_
      | (with_reducible refine draw_fin ?_ ?_); · kernel_rfl
      | (with_reducible refine draw_id ?_); kernel_rfl
      | (with_reducible refine And.intro ?_ ?_; · omega)
  | true =>
  cases q2 : decide ((i : Int) < 60) with
  | false =>
    repeat' first
      | with_reducible rfl
      | simp only [q1, q2, List.length_map, g1, g5, g6, g7, g8, RS_, FB_, segR, ST_, seval, ne_eq, bne, forall_const, implies_true, TY_, WLS]
      | (with_reducible refine drawK_id ?_); refine drawK_auto hmix (by kernel_rfl) ?_
      | (with_reducible refine draw_fin ?_ ?_); · kernel_rfl
      | (with_reducible refine draw_id ?_); kernel_rfl
      | (with_reducible refine And.intro ?_ ?_; · omega)
  | true =>
    have qa := of_decide_eq_true q1
    have hb0 : (0 : Int) ≤ (i : Int) := by omega
    have hbN : (i : Int) < (l.length : Int) := by omega
    have hi1 : IntKind.i64.wrap ((i : Int) + 1) = ((i + 1 : Nat) : Int) := by rw [wr_i64 (by omega) (by have := of_decide_eq_true q2; omega)]; rfl
    obtain ⟨y, hy⟩ : ∃ y, l[i]? = some y := ⟨_, List.getElem?_eq_getElem (by omega)⟩
    have hyr : (l.map encX)[i]? = some (encX y) := by rw [List.getElem?_map, hy]; rfl
    obtain ⟨hyk, hyp⟩ := hk y (List.mem_of_getElem? hy)
    obtain ⟨po, hpo⟩ : ∃ po, IntKind.i64.wrap (Int.tmod y.port 8) = po := ⟨_, rfl⟩
    have hpo2 : 0 ≤ po ∧ po ≤ 7 := by
      rw [Int.tmod_eq_emod_of_nonneg hyp, wr_i64 (by omega) (by omega)] at hpo
      omega
    have hl6 := hg.len
    have c2 := c_SClone a hg.ok
    have cSm := c_Same a (by omega) hg.bare
    have hsz := hg.sz
    have ht := hg.told
    have hf := hg.fl
    have e0 : a.told.length = 0 := by rw [ht]; rfl
    have e1 : a.fl.length = 0 := by rw [hf]; rfl
    have hcP := True.intro
    repeat' first
      | with_reducible rfl
      | simp only [hcP, oRow_len, oRow_pull, oRow_push, encX, rowS, q1, q2, hb0, hbN, hi1, hyr, hpo, List.length_map, Int.toNat_natCast, g1, g5, g6, g7, g8, mapC_rows, mapC_gone, pushC_rows, pushC_gone, pullP, pullV, pullSS, pullD, pullT, pullF, pushP, pushV, pushSS, pushD, pushT, pushF, pullD16, pushD16, RS_, FB_, segR, ST_, seval, ne_eq, bne, forall_const, implies_true, TY_, WLS]
      | (with_reducible refine drawK_id ?_); refine drawK_auto hmix (by kernel_rfl) ?_
      | (with_reducible refine draw_fin ?_ ?_); · kernel_rfl
      | (with_reducible refine draw_id ?_); kernel_rfl
      | ((with_reducible refine callK_id (f := 18) ?_); refine callK_funW [3, 4, 5, 6] [] (c2) (by simp [pullHW, AH, AHo, HrS, rowA, rowS, pullS, ix, roC_rows, roP, roV, roSS, roD, roT, roF, roC_rP, roC_rV, roC_rS, roC_rD, mapC_rows, mapC_gone, pushC_rows, pushC_gone, pullP, pullV, pullSS, pullD, pullT, pullF, pushP, pushV, pushSS, pushD, pushT, pushF, pullD16, pushD16]) rfl rfl (by decide) (by simp [cP, cV, cS, cD, cT, cF]) (by simp [pullI, pullS, ix, rowS]) ?_; rintro r Hn ⟨rfl, rfl⟩ -; clear hcP)
      | (with_reducible refine And.intro ?_ ?_; · omega)
    obtain ⟨wh, hwh⟩ : ∃ wh, Int.tmod y.what 10 = wh := ⟨_, rfl⟩
    cases w1 : (wh == 0) with
    | true =>
      have cA := c_TickT a hg.ok
      rw [hg.noT] at cA
      have cB := c_ttick a (by omega) hg.nn (by omega)
      have f4 := fr_tick (n := 6) a hg.len
      have k4 := kp_tick a
      have n4 := nn_tick hg.nn
      unfold PostS at cA
      generalize tickA a = b at *
      have hg2 := hg.next f4 k4 n4
      have c5 := c_same b (by rw [f4.len]; omega) (hg.bare.kp k4) (by have := f4.sz; omega)
      have hcP := True.intro
      repeat' first
        | with_reducible rfl
        | simp only [hcP, oRow_len, oRow_pull, oRow_push, rowS, rowA, hi1, hpo, g1, g5, g6, g7, g8, mapC_rows, mapC_gone, pushC_rows, pushC_gone, pullP, pullV, pullSS, pullD, pullT, pullF, pushP, pushV, pushSS, pushD, pushT, pushF, pullD16, pushD16, encX, hwh, w1, RS_, FB_, segR, ST_, seval, ne_eq, bne, forall_const, implies_true, TY_, WLS]
        | (with_reducible refine drawK_id ?_); refine drawK_auto hmix (by kernel_rfl) ?_
        | (with_reducible refine draw_fin ?_ ?_); · kernel_rfl
        | (with_reducible refine draw_id ?_); kernel_rfl
        | ((with_reducible refine callK_id (f := 11) ?_); refine callK_funW [3, 4, 5, 6] [] (cA) (by simp [pullHW, AH, AHo, HrS, rowA, rowS, pullS, ix, roC_rows, roP, roV, roSS, roD, roT, roF, roC_rP, roC_rV, roC_rS, roC_rD, mapC_rows, mapC_gone, pushC_rows, pushC_gone, pullP, pullV, pullSS, pullD, pullT, pullF, pushP, pushV, pushSS, pushD, pushT, pushF, pullD16, pushD16]) rfl rfl (by decide) (by simp [cP, cV, cS, cD, cT, cF]) (by simp [pullI, pullS, ix, rowS]) ?_; rintro r Hn ⟨rfl, rfl⟩ -; clear hcP)
        | (with_reducible refine And.intro ?_ ?_; · omega)
      have hcP := True.intro
      repeat' first
        | with_reducible rfl
        | simp only [hcP, oRow_len, oRow_pull, oRow_push, rowS, rowA, hi1, hpo, g1, g5, g6, g7, g8, mapC_rows, mapC_gone, pushC_rows, pushC_gone, pullP, pullV, pullSS, pullD, pullT, pullF, pushP, pushV, pushSS, pushD, pushT, pushF, pullD16, pushD16, encX, hwh, w1, RS_, FB_, segR, ST_, seval, ne_eq, bne, forall_const, implies_true, TY_, WLS]
        | (with_reducible refine drawK_id ?_); refine drawK_auto hmix (by kernel_rfl) ?_
        | (with_reducible refine draw_fin ?_ ?_); · kernel_rfl
        | (with_reducible refine draw_id ?_); kernel_rfl
        | ((with_reducible refine callK_id (f := 21) ?_); refine callK_funW [] [8, 9, 10, 11, 12, 13, 14] (cB) (by simp [pullHW, AH, AHo, HrS, rowA, rowS, pullS, ix, roC_rows, roP, roV, roSS, roD, roT, roF, roC_rP, roC_rV, roC_rS, roC_rD, mapC_rows, mapC_gone, pushC_rows, pushC_gone, pullP, pullV, pullSS, pullD, pullT, pullF, pushP, pushV, pushSS, pushD, pushT, pushF, pullD16, pushD16, ht, hf]) rfl rfl (by decide) (by simp [cP, cV, cS, cD, cT, cF]) (by simp [pullI, pullS, ix, rowS, ht, hf]) ?_; rintro r Hn ⟨rfl, rfl⟩ -; clear hcP)
        | (with_reducible refine And.intro ?_ ?_; · omega)
      have hcP := True.intro
      repeat' first
        | with_reducible rfl
        | simp only [hcP, oRow_len, oRow_pull, oRow_push, rowS, rowA, hi1, hpo, g1, g5, g6, g7, g8, mapC_rows, mapC_gone, pushC_rows, pushC_gone, pullP, pullV, pullSS, pullD, pullT, pullF, pushP, pushV, pushSS, pushD, pushT, pushF, pullD16, pushD16, AH2, noT, RS_, FB_, segR, ST_, seval, ne_eq, bne, forall_const, implies_true, TY_, WLS]
        | (with_reducible refine drawK_id ?_); refine drawK_auto hmix (by kernel_rfl) ?_
        | (with_reducible refine draw_fin ?_ ?_); · kernel_rfl
        | (with_reducible refine draw_id ?_); kernel_rfl
        | ((with_reducible refine callK_id (f := 24) ?_); refine callK_funR [3, 4, 5, 6, 16, 17, 18, 19] (r := .s (.raw (.bool true))) (by simpa [pullH, rowS, pullI, pullS, ix, roC_rows, roP, roV, roSS, roD, roT, roF, roC_rP, roC_rV, roC_rS, roC_rD] using cSm) rfl ?_)
        | ((with_reducible refine callK_id (f := 20) ?_); refine callK_funW [22, 23, 24, 25, 26, 27] [8, 9, 10, 11, 12, 28, 29] (c5) (by simp [pullHW, AH, AHo, HrS, rowA, rowS, pullS, ix, roC_rows, roP, roV, roSS, roD, roT, roF, roC_rP, roC_rV, roC_rS, roC_rD, mapC_rows, mapC_gone, pushC_rows, pushC_gone, pullP, pullV, pullSS, pullD, pullT, pullF, pushP, pushV, pushSS, pushD, pushT, pushF, pullD16, pushD16]) rfl rfl (by decide) (by simp [cP, cV, cS, cD, cT, cF]) (by simp [pullI, pullS, ix, rowS]) ?_; rintro r Hn ⟨rfl, rfl⟩ -; clear hcP)
        | (with_reducible refine And.intro ?_ ?_; · omega)
      repeat' first
        | with_reducible rfl
        | simp only [noT, oRow_len, oRow_pull, oRow_push, rowS, rowA, hi1, hpo, g1, g5, g6, g7, g8, mapC_rows, mapC_gone, pushC_rows, pushC_gone, pullP, pullV, pullSS, pullD, pullT, pullF, pushP, pushV, pushSS, pushD, pushT, pushF, pullD16, pushD16, RS_, FB_, segR, ST_, seval, ne_eq, bne, forall_const, implies_true, TY_, WLS]
        | (with_reducible refine drawK_id ?_); refine drawK_auto hmix (by kernel_rfl) ?_
        | (with_reducible refine draw_fin ?_ ?_); · kernel_rfl
        | (with_reducible refine draw_id ?_); kernel_rfl
        | (with_reducible refine And.intro ?_ ?_; · omega)
      refine ⟨l.length - (i + 1), _, _, by omega, Wk.gc [0, 1, 2, 22, 23, 24, 25, 7, 8, 9, 10, 11, 12, 30, 31] rfl (by decide), i + 1, noT b, true, rfl, by omega, hg2, ?_, ?_, ?_, ?_, ?_, ?_⟩ <;> simp [Function.comp_def, get_gcT, get, put, gcI, pullI, push1, pushI, pullS, pushS, gcH, patL, canL, canH, canTL, canT, segR, ix, upd, up1, mapC_rows, mapC_gone, pushC_rows, pushC_gone, pullP, pullV, pullSS, pullD, pullT, pullF, pushP, pushV, pushSS, pushD, pushT, pushF, pullD16, pushD16, oRow_t, oRow_f, L18, AHo, noT, rowA, rowS, pull_X, pull_SP, prP, prV, prSS, prD, g1, g5, g6, g7, hi1]
    | false =>
      cases w2 : (wh == 1) with
      | true =>
        have cA := c_TickT a hg.ok
        rw [hg.noT] at cA
        have cB := c_ttick a (by omega) hg.nn (by omega)
        have f4 := fr_tick (n := 6) a hg.len
        have k4 := kp_tick a
        have n4 := nn_tick hg.nn
        unfold PostS at cA
        generalize tickA a = b at *
        have hg2 := hg.next f4 k4 n4
        have c5 := c_same b (by rw [f4.len]; omega) (hg.bare.kp k4) (by have := f4.sz; omega)
        have hcP := True.intro
        repeat' first
          | with_reducible rfl
          | simp only [hcP, oRow_len, oRow_pull, oRow_push, rowS, rowA, hi1, hpo, g1, g5, g6, g7, g8, mapC_rows, mapC_gone, pushC_rows, pushC_gone, pullP, pullV, pullSS, pullD, pullT, pullF, pushP, pushV, pushSS, pushD, pushT, pushF, pullD16, pushD16, encX, hwh, w1, w2, RS_, FB_, segR, ST_, seval, ne_eq, bne, forall_const, implies_true, TY_, WLS]
          | (with_reducible refine drawK_id ?_); refine drawK_auto hmix (by kernel_rfl) ?_
          | (with_reducible refine draw_fin ?_ ?_); · kernel_rfl
          | (with_reducible refine draw_id ?_); kernel_rfl
          | ((with_reducible refine callK_id (f := 11) ?_); refine callK_funW [3, 4, 5, 6] [] (cA) (by simp [pullHW, AH, AHo, HrS, rowA, rowS, pullS, ix, roC_rows, roP, roV, roSS, roD, roT, roF, roC_rP, roC_rV, roC_rS, roC_rD, mapC_rows, mapC_gone, pushC_rows, pushC_gone, pullP, pullV, pullSS, pullD, pullT, pullF, pushP, pushV, pushSS, pushD, pushT, pushF, pullD16, pushD16]) rfl rfl (by decide) (by simp [cP, cV, cS, cD, cT, cF]) (by simp [pullI, pullS, ix, rowS]) ?_; rintro r Hn ⟨rfl, rfl⟩ -; clear hcP)
          | (with_reducible refine And.intro ?_ ?_; · omega)
        have hcP := True.intro
        repeat' first
          | with_reducible rfl
          | simp only [hcP, oRow_len, oRow_pull, oRow_push, rowS, rowA, hi1, hpo, g1, g5, g6, g7, g8, mapC_rows, mapC_gone, pushC_rows, pushC_gone, pullP, pullV, pullSS, pullD, pullT, pullF, pushP, pushV, pushSS, pushD, pushT, pushF, pullD16, pushD16, encX, hwh, w1, w2, RS_, FB_, segR, ST_, seval, ne_eq, bne, forall_const, implies_true, TY_, WLS]
          | (with_reducible refine drawK_id ?_); refine drawK_auto hmix (by kernel_rfl) ?_
          | (with_reducible refine draw_fin ?_ ?_); · kernel_rfl
          | (with_reducible refine draw_id ?_); kernel_rfl
          | ((with_reducible refine callK_id (f := 21) ?_); refine callK_funW [] [8, 9, 10, 11, 12, 13, 14] (cB) (by simp [pullHW, AH, AHo, HrS, rowA, rowS, pullS, ix, roC_rows, roP, roV, roSS, roD, roT, roF, roC_rP, roC_rV, roC_rS, roC_rD, mapC_rows, mapC_gone, pushC_rows, pushC_gone, pullP, pullV, pullSS, pullD, pullT, pullF, pushP, pushV, pushSS, pushD, pushT, pushF, pullD16, pushD16, ht, hf]) rfl rfl (by decide) (by simp [cP, cV, cS, cD, cT, cF]) (by simp [pullI, pullS, ix, rowS, ht, hf]) ?_; rintro r Hn ⟨rfl, rfl⟩ -; clear hcP)
          | (with_reducible refine And.intro ?_ ?_; · omega)
        have hcP := True.intro
        repeat' first
          | with_reducible rfl
          | simp only [hcP, oRow_len, oRow_pull, oRow_push, rowS, rowA, hi1, hpo, g1, g5, g6, g7, g8, mapC_rows, mapC_gone, pushC_rows, pushC_gone, pullP, pullV, pullSS, pullD, pullT, pullF, pushP, pushV, pushSS, pushD, pushT, pushF, pullD16, pushD16, AH2, noT, RS_, FB_, segR, ST_, seval, ne_eq, bne, forall_const, implies_true, TY_, WLS]
          | (with_reducible refine drawK_id ?_); refine drawK_auto hmix (by kernel_rfl) ?_
          | (with_reducible refine draw_fin ?_ ?_); · kernel_rfl
          | (with_reducible refine draw_id ?_); kernel_rfl
          | ((with_reducible refine callK_id (f := 24) ?_); refine callK_funR [3, 4, 5, 6, 16, 17, 18, 19] (r := .s (.raw (.bool true))) (by simpa [pullH, rowS, pullI, pullS, ix, roC_rows, roP, roV, roSS, roD, roT, roF, roC_rP, roC_rV, roC_rS, roC_rD] using cSm) rfl ?_)
          | ((with_reducible refine callK_id (f := 20) ?_); refine callK_funW [22, 23, 24, 25, 26, 27] [8, 9, 10, 11, 12, 28, 29] (c5) (by simp [pullHW, AH, AHo, HrS, rowA, rowS, pullS, ix, roC_rows, roP, roV, roSS, roD, roT, roF, roC_rP, roC_rV, roC_rS, roC_rD, mapC_rows, mapC_gone, pushC_rows, pushC_gone, pullP, pullV, pullSS, pullD, pullT, pullF, pushP, pushV, pushSS, pushD, pushT, pushF, pullD16, pushD16]) rfl rfl (by decide) (by simp [cP, cV, cS, cD, cT, cF]) (by simp [pullI, pullS, ix, rowS]) ?_; rintro r Hn ⟨rfl, rfl⟩ -; clear hcP)
          | (with_reducible refine And.intro ?_ ?_; · omega)
        repeat' first
          | with_reducible rfl
          | simp only [noT, oRow_len, oRow_pull, oRow_push, rowS, rowA, hi1, hpo, g1, g5, g6, g7, g8, mapC_rows, mapC_gone, pushC_rows, pushC_gone, pullP, pullV, pullSS, pullD, pullT, pullF, pushP, pushV, pushSS, pushD, pushT, pushF, pullD16, pushD16, RS_, FB_, segR, ST_, seval, ne_eq, bne, forall_const, implies_true, TY_, WLS]
          | (with_reducible refine drawK_id ?_); refine drawK_auto hmix (by kernel_rfl) ?_
          | (with_reducible refine draw_fin ?_ ?_); · kernel_rfl
          | (with_reducible refine draw_id ?_); kernel_rfl
          | (with_reducible refine And.intro ?_ ?_; · omega)
        refine ⟨l.length - (i + 1), _, _, by omega, Wk.gc [0, 1, 2, 22, 23, 24, 25, 7, 8, 9, 10, 11, 12, 30, 31] rfl (by decide), i + 1, noT b, true, rfl, by omega, hg2, ?_, ?_, ?_, ?_, ?_, ?_⟩ <;> simp [Function.comp_def, get_gcT, get, put, gcI, pullI, push1, pushI, pullS, pushS, gcH, patL, canL, canH, canTL, canT, segR, ix, upd, up1, mapC_rows, mapC_gone, pushC_rows, pushC_gone, pullP, pullV, pullSS, pullD, pullT, pullF, pushP, pushV, pushSS, pushD, pushT, pushF, pullD16, pushD16, oRow_t, oRow_f, L18, AHo, noT, rowA, rowS, pull_X, pull_SP, prP, prV, prSS, prD, g1, g5, g6, g7, hi1]
      | false =>
        cases w3 : (wh == 2) with
        | true =>
          have cA := c_SwitchT a hg.ok po y.f0 y.f3
          rw [hg.noT] at cA
          have cB := c_tswitches a po y.f0 y.f3 (by omega) hg.nn (by omega)
          have f4 := fr_switch (n := 6) a po y.f0 y.f3 hg.len
          have k4 := kp_switchT a po y.f0 y.f3
          have n4 := nn_switchT po y.f0 y.f3 hg.nn
          unfold PostS at cA
          generalize switchT a po y.f0 y.f3 = b at *
          have hg2 := hg.next f4 k4 n4
          have c5 := c_same b (by rw [f4.len]; omega) (hg.bare.kp k4) (by have := f4.sz; omega)
          have hcP := True.intro
          repeat' first
            | with_reducible rfl
            | simp only [hcP, oRow_len, oRow_pull, oRow_push, rowS, rowA, hi1, hpo, g1, g5, g6, g7, g8, mapC_rows, mapC_gone, pushC_rows, pushC_gone, pullP, pullV, pullSS, pullD, pullT, pullF, pushP, pushV, pushSS, pushD, pushT, pushF, pullD16, pushD16, encX, hwh, w1, w2, w3, RS_, FB_, segR, ST_, seval, ne_eq, bne, forall_const, implies_true, TY_, WLS]
            | (with_reducible refine drawK_id ?_); refine drawK_auto hmix (by kernel_rfl) ?_
            | (with_reducible refine draw_fin ?_ ?_); · kernel_rfl
            | (with_reducible refine draw_id ?_); kernel_rfl
            | ((with_reducible refine callK_id (f := 12) ?_); refine callK_funW [3, 4, 5, 6] [] (cA) (by simp [pullHW, AH, AHo, HrS, rowA, rowS, pullS, ix, roC_rows, roP, roV, roSS, roD, roT, roF, roC_rP, roC_rV, roC_rS, roC_rD, mapC_rows, mapC_gone, pushC_rows, pushC_gone, pullP, pullV, pullSS, pullD, pullT, pullF, pushP, pushV, pushSS, pushD, pushT, pushF, pullD16, pushD16]) rfl rfl (by decide) (by simp [cP, cV, cS, cD, cT, cF]) (by simp [pullI, pullS, ix, rowS]) ?_; rintro r Hn ⟨rfl, rfl⟩ -; clear hcP)
            | (with_reducible refine And.intro ?_ ?_; · omega)
          have hcP := True.intro
          repeat' first
            | with_reducible rfl
            | simp only [hcP, oRow_len, oRow_pull, oRow_push, rowS, rowA, hi1, hpo, g1, g5, g6, g7, g8, mapC_rows, mapC_gone, pushC_rows, pushC_gone, pullP, pullV, pullSS, pullD, pullT, pullF, pushP, pushV, pushSS, pushD, pushT, pushF, pullD16, pushD16, encX, hwh, w1, w2, w3, RS_, FB_, segR, ST_, seval, ne_eq, bne, forall_const, implies_true, TY_, WLS]
            | (with_reducible refine drawK_id ?_); refine drawK_auto hmix (by kernel_rfl) ?_
            | (with_reducible refine draw_fin ?_ ?_); · kernel_rfl
            | (with_reducible refine draw_id ?_); kernel_rfl
            | ((with_reducible refine callK_id (f := 22) ?_); refine callK_funW [] [8, 9, 10, 11, 12, 13, 14] (cB) (by simp [pullHW, AH, AHo, HrS, rowA, rowS, pullS, ix, roC_rows, roP, roV, roSS, roD, roT, roF, roC_rP, roC_rV, roC_rS, roC_rD, mapC_rows, mapC_gone, pushC_rows, pushC_gone, pullP, pullV, pullSS, pullD, pullT, pullF, pushP, pushV, pushSS, pushD, pushT, pushF, pullD16, pushD16, ht, hf]) rfl rfl (by decide) (by simp [cP, cV, cS, cD, cT, cF]) (by simp [pullI, pullS, ix, rowS, ht, hf]) ?_; rintro r Hn ⟨rfl, rfl⟩ -; clear hcP)
            | (with_reducible refine And.intro ?_ ?_; · omega)
          have hcP := True.intro
          repeat' first
            | with_reducible rfl
            | simp only [hcP, oRow_len, oRow_pull, oRow_push, rowS, rowA, hi1, hpo, g1, g5, g6, g7, g8, mapC_rows, mapC_gone, pushC_rows, pushC_gone, pullP, pullV, pullSS, pullD, pullT, pullF, pushP, pushV, pushSS, pushD, pushT, pushF, pullD16, pushD16, AH2, noT, RS_, FB_, segR, ST_, seval, ne_eq, bne, forall_const, implies_true, TY_, WLS]
            | (with_reducible refine drawK_id ?_); refine drawK_auto hmix (by kernel_rfl) ?_
            | (with_reducible refine draw_fin ?_ ?_); · kernel_rfl
            | (with_reducible refine draw_id ?_); kernel_rfl
            | ((with_reducible refine callK_id (f := 24) ?_); refine callK_funR [3, 4, 5, 6, 16, 17, 18, 19] (r := .s (.raw (.bool true))) (by simpa [pullH, rowS, pullI, pullS, ix, roC_rows, roP, roV, roSS, roD, roT, roF, roC_rP, roC_rV, roC_rS, roC_rD] using cSm) rfl ?_)
            | ((with_reducible refine callK_id (f := 20) ?_); refine callK_funW [22, 23, 24, 25, 26, 27] [8, 9, 10, 11, 12, 28, 29] (c5) (by simp [pullHW, AH, AHo, HrS, rowA, rowS, pullS, ix, roC_rows, roP, roV, roSS, roD, roT, roF, roC_rP, roC_rV, roC_rS, roC_rD, mapC_rows, mapC_gone, pushC_rows, pushC_gone, pullP, pullV, pullSS, pullD, pullT, pullF, pushP, pushV, pushSS, pushD, pushT, pushF, pullD16, pushD16]) rfl rfl (by decide) (by simp [cP, cV, cS, cD, cT, cF]) (by simp [pullI, pullS, ix, rowS]) ?_; rintro r Hn ⟨rfl, rfl⟩ -; clear hcP)
            | (with_reducible refine And.intro ?_ ?_; · omega)
          repeat' first
            | with_reducible rfl
            | simp only [noT, oRow_len, oRow_pull, oRow_push, rowS, rowA, hi1, hpo, g1, g5, g6, g7, g8, mapC_rows, mapC_gone, pushC_rows, pushC_gone, pullP, pullV, pullSS, pullD, pullT, pullF, pushP, pushV, pushSS, pushD, pushT, pushF, pullD16, pushD16, RS_, FB_, segR, ST_, seval, ne_eq, bne, forall_const, implies_true, TY_, WLS]
            | (with_reducible refine drawK_id ?_); refine drawK_auto hmix (by kernel_rfl) ?_
            | (with_reducible refine draw_fin ?_ ?_); · kernel_rfl
            | (with_reducible refine draw_id ?_); kernel_rfl
            | (with_reducible refine And.intro ?_ ?_; · omega)
          refine ⟨l.length - (i + 1), _, _, by omega, Wk.gc [0, 1, 2, 22, 23, 24, 25, 7, 8, 9, 10, 11, 12, 30, 31] rfl (by decide), i + 1, noT b, true, rfl, by omega, hg2, ?_, ?_, ?_, ?_, ?_, ?_⟩ <;> simp [Function.comp_def, get_gcT, get, put, gcI, pullI, push1, pushI, pullS, pushS, gcH, patL, canL, canH, canTL, canT, segR, ix, upd, up1, mapC_rows, mapC_gone, pushC_rows, pushC_gone, pullP, pullV, pullSS, pullD, pullT, pullF, pushP, pushV, pushSS, pushD, pushT, pushF, pullD16, pushD16, oRow_t, oRow_f, L18, AHo, noT, rowA, rowS, pull_X, pull_SP, prP, prV, prSS, prD, g1, g5, g6, g7, hi1]
        | false =>
          cases w4 : (wh == 9) with
          | true =>
            cases w5 : (Int.tmod y.v0 4 == 0) with
            | true =>
              have cA := c_Start a hg.ok
              rw [hg.noT] at cA
              have cB := c_tstart a (by omega) hg.nn (by omega)
              have f4 := fr_start (n := 6) a hg.len
              have k4 := kp_start a
              have n4 := nn_start hg.nn
              unfold PostS at cA
              generalize startA a = b at *
              have hg2 := hg.next f4 k4 n4
              have c5 := c_same b (by rw [f4.len]; omega) (hg.bare.kp k4) (by have := f4.sz; omega)
              have hcP := True.intro
              repeat' first
                | with_reducible rfl
                | simp only [hcP, oRow_len, oRow_pull, oRow_push, rowS, rowA, hi1, hpo, g1, g5, g6, g7, g8, mapC_rows, mapC_gone, pushC_rows, pushC_gone, pullP, pullV, pullSS, pullD, pullT, pullF, pushP, pushV, pushSS, pushD, pushT, pushF, pullD16, pushD16, encX, hwh, w1, w2, w3, w4, w5, RS_, FB_, segR, ST_, seval, ne_eq, bne, forall_const, implies_true, TY_, WLS]
                | (with_reducible refine drawK_id ?_); refine drawK_auto hmix (by kernel_rfl) ?_
                | (with_reducible refine draw_fin ?_ ?_); · kernel_rfl
                | (with_reducible refine draw_id ?_); kernel_rfl
                | ((with_reducible refine callK_id (f := 7) ?_); refine callK_funW [3, 4, 5, 6] [] (cA) (by simp [pullHW, AH, AHo, HrS, rowA, rowS, pullS, ix, roC_rows, roP, roV, roSS, roD, roT, roF, roC_rP, roC_rV, roC_rS, roC_rD, mapC_rows, mapC_gone, pushC_rows, pushC_gone, pullP, pullV, pullSS, pullD, pullT, pullF, pushP, pushV, pushSS, pushD, pushT, pushF, pullD16, pushD16]) rfl rfl (by decide) (by simp [cP, cV, cS, cD, cT, cF]) (by simp [pullI, pullS, ix, rowS]) ?_; rintro r Hn ⟨rfl, rfl⟩ -; clear hcP)
                | (with_reducible refine And.intro ?_ ?_; · omega)
              have hcP := True.intro
              repeat' first
                | with_reducible rfl
                | simp only [hcP, oRow_len, oRow_pull, oRow_push, rowS, rowA, hi1, hpo, g1, g5, g6, g7, g8, mapC_rows, mapC_gone, pushC_rows, pushC_gone, pullP, pullV, pullSS, pullD, pullT, pullF, pushP, pushV, pushSS, pushD, pushT, pushF, pullD16, pushD16, encX, hwh, w1, w2, w3, w4, w5, RS_, FB_, segR, ST_, seval, ne_eq, bne, forall_const, implies_true, TY_, WLS]
                | (with_reducible refine drawK_id ?_); refine drawK_auto hmix (by kernel_rfl) ?_
                | (with_reducible refine draw_fin ?_ ?_); · kernel_rfl
                | (with_reducible refine draw_id ?_); kernel_rfl
                | ((with_reducible refine callK_id (f := 19) ?_); refine callK_funW [] [8, 9, 10, 11, 12, 13, 14] (cB) (by simp [pullHW, AH, AHo, HrS, rowA, rowS, pullS, ix, roC_rows, roP, roV, roSS, roD, roT, roF, roC_rP, roC_rV, roC_rS, roC_rD, mapC_rows, mapC_gone, pushC_rows, pushC_gone, pullP, pullV, pullSS, pullD, pullT, pullF, pushP, pushV, pushSS, pushD, pushT, pushF, pullD16, pushD16, ht, hf]) rfl rfl (by decide) (by simp [cP, cV, cS, cD, cT, cF]) (by simp [pullI, pullS, ix, rowS, ht, hf]) ?_; rintro r Hn ⟨rfl, rfl⟩ -; clear hcP)
                | (with_reducible refine And.intro ?_ ?_; · omega)
              have hcP := True.intro
              repeat' first
                | with_reducible rfl
                | simp only [hcP, oRow_len, oRow_pull, oRow_push, rowS, rowA, hi1, hpo, g1, g5, g6, g7, g8, mapC_rows, mapC_gone, pushC_rows, pushC_gone, pullP, pullV, pullSS, pullD, pullT, pullF, pushP, pushV, pushSS, pushD, pushT, pushF, pullD16, pushD16, AH2, noT, RS_, FB_, segR, ST_, seval, ne_eq, bne, forall_const, implies_true, TY_, WLS]
                | (with_reducible refine drawK_id ?_); refine drawK_auto hmix (by kernel_rfl) ?_
                | (with_reducible refine draw_fin ?_ ?_); · kernel_rfl
                | (with_reducible refine draw_id ?_); kernel_rfl
                | ((with_reducible refine callK_id (f := 24) ?_); refine callK_funR [3, 4, 5, 6, 16, 17, 18, 19] (r := .s (.raw (.bool true))) (by simpa [pullH, rowS, pullI, pullS, ix, roC_rows, roP, roV, roSS, roD, roT, roF, roC_rP, roC_rV, roC_rS, roC_rD] using cSm) rfl ?_)
                | ((with_reducible refine callK_id (f := 20) ?_); refine callK_funW [22, 23, 24, 25, 26, 27] [8, 9, 10, 11, 12, 28, 29] (c5) (by simp [pullHW, AH, AHo, HrS, rowA, rowS, pullS, ix, roC_rows, roP, roV, roSS, roD, roT, roF, roC_rP, roC_rV, roC_rS, roC_rD, mapC_rows, mapC_gone, pushC_rows, pushC_gone, pullP, pullV, pullSS, pullD, pullT, pullF, pushP, pushV, pushSS, pushD, pushT, pushF, pullD16, pushD16]) rfl rfl (by decide) (by simp [cP, cV, cS, cD, cT, cF]) (by simp [pullI, pullS, ix, rowS]) ?_; rintro r Hn ⟨rfl, rfl⟩ -; clear hcP)
                | (with_reducible refine And.intro ?_ ?_; · omega)
              repeat' first
                | with_reducible rfl
                | simp only [noT, oRow_len, oRow_pull, oRow_push, rowS, rowA, hi1, hpo, g1, g5, g6, g7, g8, mapC_rows, mapC_gone, pushC_rows, pushC_gone, pullP, pullV, pullSS, pullD, pullT, pullF, pushP, pushV, pushSS, pushD, pushT, pushF, pullD16, pushD16, RS_, FB_, segR, ST_, seval, ne_eq, bne, forall_const, implies_true, TY_, WLS]
                | (with_reducible refine drawK_id ?_); refine drawK_auto hmix (by kernel_rfl) ?_
                | (with_reducible refine draw_fin ?_ ?_); · kernel_rfl
                | (with_reducible refine draw_id ?_); kernel_rfl
                | (with_reducible refine And.intro ?_ ?_; · omega)
              refine ⟨l.length - (i + 1), _, _, by omega, Wk.gc [0, 1, 2, 22, 23, 24, 25, 7, 8, 9, 10, 11, 12, 30, 31] rfl (by decide), i + 1, noT b, true, rfl, by omega, hg2, ?_, ?_, ?_, ?_, ?_, ?_⟩ <;> simp [Function.comp_def, get_gcT, get, put, gcI, pullI, push1, pushI, pullS, pushS, gcH, patL, canL, canH, canTL, canT, segR, ix, upd, up1, mapC_rows, mapC_gone, pushC_rows, pushC_gone, pullP, pullV, pullSS, pullD, pullT, pullF, pushP, pushV, pushSS, pushD, pushT, pushF, pullD16, pushD16, oRow_t, oRow_f, L18, AHo, noT, rowA, rowS, pull_X, pull_SP, prP, prV, prSS, prD, g1, g5, g6, g7, hi1]
            | false =>
              have c6 := c_same0 a hg
              have hcP := True.intro
              repeat' first
                | with_reducible rfl
                | simp only [hcP, oRow_len, oRow_pull, oRow_push, rowS, rowA, hi1, hpo, g1, g5, g6, g7, g8, mapC_rows, mapC_gone, pushC_rows, pushC_gone, pullP, pullV, pullSS, pullD, pullT, pullF, pushP, pushV, pushSS, pushD, pushT, pushF, pullD16, pushD16, AH2, noT, encX, hwh, w1, w2, w3, w4, w5, RS_, FB_, segR, ST_, seval, ne_eq, bne, forall_const, implies_true, TY_, WLS]
                | (with_reducible refine drawK_id ?_); refine drawK_auto hmix (by kernel_rfl) ?_
                | (with_reducible refine draw_fin ?_ ?_); · kernel_rfl
                | (with_reducible refine draw_id ?_); kernel_rfl
                | ((with_reducible refine callK_id (f := 24) ?_); refine callK_funR [3, 4, 5, 6, 16, 17, 18, 19] (r := .s (.raw (.bool true))) (by simpa [pullH, rowS, pullI, pullS, ix, roC_rows, roP, roV, roSS, roD, roT, roF, roC_rP, roC_rV, roC_rS, roC_rD] using cSm) rfl ?_)
                | ((with_reducible refine callK_id (f := 20) ?_); refine callK_funW [3, 4, 5, 6] [8, 9, 10, 11, 12, 13, 14] (c6) (by simp [pullHW, AH, AHo, HrS, rowA, rowS, pullS, ix, roC_rows, roP, roV, roSS, roD, roT, roF, roC_rP, roC_rV, roC_rS, roC_rD, mapC_rows, mapC_gone, pushC_rows, pushC_gone, pullP, pullV, pullSS, pullD, pullT, pullF, pushP, pushV, pushSS, pushD, pushT, pushF, pullD16, pushD16, ht, hf, e0, e1]) rfl rfl (by decide) (by simp [cP, cV, cS, cD, cT, cF]) (by simp [pullI, pullS, ix, rowS, ht, hf, e0, e1]) ?_; rintro r Hn ⟨rfl, rfl⟩ -; clear hcP)
                | (with_reducible refine And.intro ?_ ?_; · omega)
              repeat' first
                | with_reducible rfl
                | simp only [noT, oRow_len, oRow_pull, oRow_push, rowS, rowA, hi1, hpo, g1, g5, g6, g7, g8, mapC_rows, mapC_gone, pushC_rows, pushC_gone, pullP, pullV, pullSS, pullD, pullT, pullF, pushP, pushV, pushSS, pushD, pushT, pushF, pullD16, pushD16, RS_, FB_, segR, ST_, seval, ne_eq, bne, forall_const, implies_true, TY_, WLS]
                | (with_reducible refine drawK_id ?_); refine drawK_auto hmix (by kernel_rfl) ?_
                | (with_reducible refine draw_fin ?_ ?_); · kernel_rfl
                | (with_reducible refine draw_id ?_); kernel_rfl
                | (with_reducible refine And.intro ?_ ?_; · omega)
              refine ⟨l.length - (i + 1), _, _, by omega, Wk.gc [0, 1, 2, 3, 4, 5, 6, 7, 8, 9, 10, 11, 12, 22, 23] rfl (by decide), i + 1, a, false, rfl, by omega, hg, ?_, ?_, ?_, ?_, ?_, ?_⟩ <;> simp [Function.comp_def, get_gcT, get, put, gcI, pullI, push1, pushI, pullS, pushS, gcH, patL, canL, canH, canTL, canT, segR, ix, upd, up1, mapC_rows, mapC_gone, pushC_rows, pushC_gone, pullP, pullV, pullSS, pullD, pullT, pullF, pushP, pushV, pushSS, pushD, pushT, pushF, pullD16, pushD16, oRow_t, oRow_f, L18, AHo, noT, rowA, rowS, pull_X, pull_SP, prP, prV, prSS, prD, g1, g5, g6, g7, hi1, ht, hf]
          | false =>
                have cX := c_pduOf y hyk a (by omega) po hpo2
                have hage := pduX_age y a.ps po
                obtain ⟨d, hd⟩ : ∃ d, pduX y a.ps po = d := ⟨_, rfl⟩
                rw [hd] at cX hage
                have cA := c_HearT a hg.ok po (by omega) d hage
                rw [hg.noT] at cA
                have cB := c_thear a po (by omega) d hage (by omega) hg.nn (by omega)
                have f4 := fr_hear (n := 6) a po d hg.len
                have k4 := kp_hear a po d
                have n4 := nn_hear po d hg.nn
                unfold PostS at cA
                generalize hearT a po d = b at *
                have hg2 := hg.next f4 k4 n4
                have c5 := c_same b (by rw [f4.len]; omega) (hg.bare.kp k4) (by have := f4.sz; omega)
                have hcP := True.intro
                repeat' first
                  | with_reducible rfl
                  | simp only [hcP, oRow_len, oRow_pull, oRow_push, rowS, rowA, hi1, hpo, g1, g5, g6, g7, g8, mapC_rows, mapC_gone, pushC_rows, pushC_gone, pullP, pullV, pullSS, pullD, pullT, pullF, pushP, pushV, pushSS, pushD, pushT, pushF, pullD16, pushD16, encX, hwh, w1, w2, w3, w4, encPD, RS_, FB_, segR, ST_, seval, ne_eq, bne, forall_const, implies_true, TY_, WLS]
                  | (with_reducible refine drawK_id ?_); refine drawK_auto hmix (by kernel_rfl) ?_
                  | (with_reducible refine draw_fin ?_ ?_); · kernel_rfl
                  | (with_reducible refine draw_id ?_); kernel_rfl
                  | ((with_reducible refine callK_id (f := 13) ?_); refine callK_funR [3, 4, 5, 6] (r := .a (encPD d)) (by simpa [pullH, rowS, encX, pullI, pullS, ix, roC_rows, roP, roV, roSS, roD, roT, roF, roC_rP, roC_rV, roC_rS, roC_rD] using cX) rfl ?_)
                  | ((with_reducible refine callK_id (f := 10) ?_); refine callK_funW [3, 4, 5, 6] [] (cA) (by simp [pullHW, AH, AHo, HrS, rowA, rowS, pullS, ix, roC_rows, roP, roV, roSS, roD, roT, roF, roC_rP, roC_rV, roC_rS, roC_rD, mapC_rows, mapC_gone, pushC_rows, pushC_gone, pullP, pullV, pullSS, pullD, pullT, pullF, pushP, pushV, pushSS, pushD, pushT, pushF, pullD16, pushD16, encPD]) rfl rfl (by decide) (by simp [cP, cV, cS, cD, cT, cF]) (by simp [pullI, pullS, ix, rowS, encPD]) ?_; rintro r Hn ⟨rfl, rfl⟩ -; clear hcP)
                  | (with_reducible refine And.intro ?_ ?_; · omega)
                have hcP := True.intro
                repeat' first
                  | with_reducible rfl
                  | simp only [hcP, oRow_len, oRow_pull, oRow_push, rowS, rowA, hi1, hpo, g1, g5, g6, g7, g8, mapC_rows, mapC_gone, pushC_rows, pushC_gone, pullP, pullV, pullSS, pullD, pullT, pullF, pushP, pushV, pushSS, pushD, pushT, pushF, pullD16, pushD16, encX, hwh, w1, w2, w3, w4, encPD, RS_, FB_, segR, ST_, seval, ne_eq, bne, forall_const, implies_true, TY_, WLS]
                  | (with_reducible refine drawK_id ?_); refine drawK_auto hmix (by kernel_rfl) ?_
                  | (with_reducible refine draw_fin ?_ ?_); · kernel_rfl
                  | (with_reducible refine draw_id ?_); kernel_rfl
                  | ((with_reducible refine callK_id (f := 23) ?_); refine callK_funW [] [8, 9, 10, 11, 12, 13, 14] (cB) (by simp [pullHW, AH, AHo, HrS, rowA, rowS, pullS, ix, roC_rows, roP, roV, roSS, roD, roT, roF, roC_rP, roC_rV, roC_rS, roC_rD, mapC_rows, mapC_gone, pushC_rows, pushC_gone, pullP, pullV, pullSS, pullD, pullT, pullF, pushP, pushV, pushSS, pushD, pushT, pushF, pullD16, pushD16, ht, hf, encPD]) rfl rfl (by decide) (by simp [cP, cV, cS, cD, cT, cF]) (by simp [pullI, pullS, ix, rowS, ht, hf, encPD]) ?_; rintro r Hn ⟨rfl, rfl⟩ -; clear hcP)
                  | (with_reducible refine And.intro ?_ ?_; · omega)
                have hcP := True.intro
                repeat' first
                  | with_reducible rfl
                  | simp only [hcP, oRow_len, oRow_pull, oRow_push, rowS, rowA, hi1, hpo, g1, g5, g6, g7, g8, mapC_rows, mapC_gone, pushC_rows, pushC_gone, pullP, pullV, pullSS, pullD, pullT, pullF, pushP, pushV, pushSS, pushD, pushT, pushF, pullD16, pushD16, AH2, noT, RS_, FB_, segR, ST_, seval, ne_eq, bne, forall_const, implies_true, TY_, WLS]
                  | (with_reducible refine drawK_id ?_); refine drawK_auto hmix (by kernel_rfl) ?_
                  | (with_reducible refine draw_fin ?_ ?_); · kernel_rfl
                  | (with_reducible refine draw_id ?_); kernel_rfl
                  | ((with_reducible refine callK_id (f := 24) ?_); refine callK_funR [3, 4, 5, 6, 16, 17, 18, 19] (r := .s (.raw (.bool true))) (by simpa [pullH, rowS, pullI, pullS, ix, roC_rows, roP, roV, roSS, roD, roT, roF, roC_rP, roC_rV, roC_rS, roC_rD] using cSm) rfl ?_)
                  | ((with_reducible refine callK_id (f := 20) ?_); refine callK_funW [23, 24, 25, 26, 27, 28] [8, 9, 10, 11, 12, 29, 30] (c5) (by simp [pullHW, AH, AHo, HrS, rowA, rowS, pullS, ix, roC_rows, roP, roV, roSS, roD, roT, roF, roC_rP, roC_rV, roC_rS, roC_rD, mapC_rows, mapC_gone, pushC_rows, pushC_gone, pullP, pullV, pullSS, pullD, pullT, pullF, pushP, pushV, pushSS, pushD, pushT, pushF, pullD16, pushD16]) rfl rfl (by decide) (by simp [cP, cV, cS, cD, cT, cF]) (by simp [pullI, pullS, ix, rowS]) ?_; rintro r Hn ⟨rfl, rfl⟩ -; clear hcP)
                  | (with_reducible refine And.intro ?_ ?_; · omega)
                repeat' first
                  | with_reducible rfl
                  | simp only [noT, oRow_len, oRow_pull, oRow_push, rowS, rowA, hi1, hpo, g1, g5, g6, g7, g8, mapC_rows, mapC_gone, pushC_rows, pushC_gone, pullP, pullV, pullSS, pullD, pullT, pullF, pushP, pushV, pushSS, pushD, pushT, pushF, pullD16, pushD16, RS_, FB_, segR, ST_, seval, ne_eq, bne, forall_const, implies_true, TY_, WLS]
                  | (with_reducible refine drawK_id ?_); refine drawK_auto hmix (by kernel_rfl) ?_
                  | (with_reducible refine draw_fin ?_ ?_); · kernel_rfl
                  | (with_reducible refine draw_id ?_); kernel_rfl
                  | (with_reducible refine And.intro ?_ ?_; · omega)
                refine ⟨l.length - (i + 1), _, _, by omega, Wk.gc [0, 1, 2, 23, 24, 25, 26, 7, 8, 9, 10, 11, 12, 31, 32] rfl (by decide), i + 1, noT b, true, rfl, by omega, hg2, ?_, ?_, ?_, ?_, ?_, ?_⟩ <;> simp [Function.comp_def, get_gcT, get, put, gcI, pullI, push1, pushI, pullS, pushS, gcH, patL, canL, canH, canTL, canT, segR, ix, upd, up1, mapC_rows, mapC_gone, pushC_rows, pushC_gone, pullP, pullV, pullSS, pullD, pullT, pullF, pushP, pushV, pushSS, pushD, pushT, pushF, pullD16, pushD16, oRow_t, oRow_f, L18, AHo, noT, rowA, rowS, pull_X, pull_SP, prP, prV, prSS, prD, g1, g5, g6, g7, hi1]
end Go.Ev
