/- A part of the proof: contracts of the functions that the statement reaches. -/
import Derived.Test.YtadikegdadnahaaT33
namespace Go.Ev
open Go.Proofs
set_option maxRecDepth 100000
set_option linter.unusedSimpArgs false
set_option linter.unusedVariables false
set_option maxHeartbeats 4000000
theorem relA_pre2 {ρ ρ' : Ren} (p : Le ρ ρ') : ∀ {l : List IV} {vs : List Value}, relA ρ l vs → relA ρ' l vs
  | [], [], _ => trivial
  | _ :: _, _ :: _, h => ⟨h.1.pre p, relA_pre2 p h.2⟩
  | [], _ :: _, h => h.elim
  | _ :: _, [], h => h.elim
theorem callK_nilD {P : Program} {X : Ctx} {f : FuncId} {args : List IV} {k : IV → Heap → Prop} {H H1 : Heap} (c i o sz : Nat) (hn : isNilAt c i o H = true) (e : nilH c i o sz H = H1) (h : callK P X f args k H1) : callK P X f args k H := by
  subst e
  refine ⟨h.1, fun ρ vs w hargs hi => (h.2 _ vs w (relA_pre2 (Le.app ρ [.nowhere]) hargs) (inv_nilH hi c i o sz hn)).mono ?_⟩
  rintro e w' ⟨v, r, H', ρ', rfl, hk, hr, hle, hi'⟩
  exact ⟨v, r, H', ρ', rfl, hk, hr, (Le.app ρ [.nowhere]).trans hle, hi'⟩
def sU (x : Int) : List SV := [.raw (.int .u8 x)]
theorem pull_U (σ : List Nat) (x : Int) : (sU x).map (pullS σ) = sU x := rfl
theorem push_U (σ : List Nat) (x : Int) : (sU x).map (pushS σ) = sU x := rfl
theorem push_SP (σ : List Nat) (p : SPt) : (encSP p).map (pushS σ) = encSP p := rfl
def encSPs (l : List SPt) : List (List SV) := l.map encSP
theorem encSPs_len (l : List SPt) : (encSPs l).length = l.length := List.length_map _
theorem encSPs_pull (σ : List Nat) (l : List SPt) : (encSPs l).map (fun r => r.map (pullS σ)) = encSPs l := by unfold encSPs; rw [List.map_map]; rfl
theorem encSPs_push (σ : List Nat) (l : List SPt) : (encSPs l).map (fun r => r.map (pushS σ)) = encSPs l := by unfold encSPs; rw [List.map_map]; rfl
theorem setPL_len (cs : List Int) (i : Nat) : (setPL cs i).length = i := by simp [setPL]
theorem setPL_next (cs : List Int) (i : Nat) : setPL cs (i + 1) = setPL cs i ++ [⟨cs.getD i 1, 0, false, true, true⟩] := by simp [setPL, List.range_succ]
def sX : SET := ⟨1, 3, 1, 2⟩
def sY : SET := ⟨2, 3, 1, 2⟩
def H0 (cs acts : List Int) : Heap := [.rows false 1 (cs.map sU), .rows false 1 (acts.map sU)]
def I_p0 (cs acts : List Int) (m : Nat) (tm : TM) (H : Heap) : Prop := ∃ i : Nat, m = linksN cs - i ∧ i ≤ linksN cs ∧ get tm 0 = .s (.slice 0 0 cs.length) ∧ get tm 1 = .s (.slice 1 0 acts.length) ∧ get tm 5 = .s (.raw (.int .i64 (linksN cs : Int))) ∧ get tm 6 = .s (.ptr 2 0 0) ∧ get tm 7 = .s (.ptr 3 0 0) ∧ get tm 8 = .s (.raw (.int .i64 (i : Int))) ∧
  H = [.rows false 1 (cs.map sU), .rows false 1 (acts.map sU), .rows true 5 [encSET sX 4 i], .rows true 5 [encSET sY 5 i], .rows true 5 (encSPs (setPL cs i)), .rows true 5 (encSPs (setPL cs i))]
def LJ (cs acts : List Int) (s : JN) : Heap := [.rows false 1 (cs.map sU), .rows false 1 (acts.map sU), .rows true 50 [rowS 3 4 5 6 s.a ++ rowS 7 8 9 10 s.b], cP s.a.ps, cV s.a.vs, cS s.a.ss, cD s.a.ds, cP s.b.ps, cV s.b.vs, cS s.b.ss, cD s.b.ds, .rows true 1 [[.slice 12 0 s.q.length]], cL s.q, .clo (.func 9) [] [.s (.ptr 11 0 0)]]
def G_o (cs acts : List Int) (n i : Nat) (tm : TM) : Prop := get tm 0 = .s (.slice 0 0 cs.length) ∧ get tm 1 = .s (.slice 1 0 acts.length) ∧ get tm 5 = .s (.raw (.int .i64 (n : Int))) ∧ get tm 10 = .s (.ptr 2 0 0) ∧ get tm 12 = .s (.ptr 11 0 0) ∧ get tm 13 = .s (.ref 13) ∧ get tm 14 = .s (.raw (.int .i64 (i : Int)))
def I_o (cs acts : List Int) (n : Nat) (s0 : JN) (m : Nat) (tm : TM) (H : Heap) : Prop := ∃ i : Nat, m = 60 - i ∧ i ≤ 60 ∧ G_o cs acts n i tm ∧ H = LJ cs acts (roundsJ acts s0 i)
def I_d (cs acts : List Int) (n i : Nat) (s : JN) (m : Nat) (tm : TM) (H : Heap) : Prop := ∃ k : Nat, m = 5000 - k ∧ k ≤ 5000 ∧ G_o cs acts n i tm ∧ get tm 15 = .s (.raw (.int .i64 (k : Int))) ∧ H = LJ cs acts (drainJ s k)
def I_t (cs acts : List Int) (n i : Nat) (s : JN) (m : Nat) (tm : TM) (H : Heap) : Prop := ∃ j : Nat, m = 2 - j ∧ j ≤ 2 ∧ G_o cs acts n i tm ∧ get tm 19 = .s (.raw (.int .i64 (j : Int))) ∧ H = LJ cs acts (tickJ acts i s j)
def KeyK (X : Ctx) (cs acts : List Int) (n r : Nat) (t : JN) (c : Code) (Q : Exit → TM → Heap → Prop) : Prop := ∀ tm : TM, G_o cs acts n r tm → get tm 19 = .s (.raw (.int .i64 0)) → loopK Try.prog 210 (X.at 2) c Q tm (LJ cs acts t)
def I_f (cs acts : List Int) (n : Nat) (s : JN) (m : Nat) (tm : TM) (H : Heap) : Prop := ∃ k : Nat, m = n - k ∧ k ≤ n ∧ get tm 5 = .s (.raw (.int .i64 (n : Int))) ∧ get tm 10 = .s (.ptr 2 0 0) ∧ get tm 22 = .s (.raw (.int .i64 ((s.b.ps.take k).countP fun q => q.ro == 3 : Nat))) ∧ get tm 23 = .s (.raw (.int .i64 (k : Int))) ∧ H = LJ cs acts s
theorem drain_fix (s : JN) (k : Nat) (h : (drainJ s k).q = []) : ∀ j, k ≤ j → drainJ s k = drainJ s j := fun j hj => by
  induction hj with
  | refl => rfl
  | step _ ih => rw [drainJ, ← ih]; unfold popJ; rw [h]
theorem law3 (cs acts : List Int) (hok : pairJ cs acts = true) : FunR Try.prog 3 (H0 cs acts) [.s (.slice 0 0 cs.length), .s (.slice 1 0 acts.length)] (.s (.raw (.bool true))) := by
  refine funR_of rfl fun X => ?_
  refine callK_inline (rs := [.tmp 4]) (n := 210) Try.func3 rfl rfl rfl (by kernel_rfl) (by kernel_rfl) (by simp only [List.length_cons, List.length_nil]; decide) ?_
  unfold H0
  have hn' : IntKind.i64.wrap (1 + Int.tmod (cs.length : Int) 4) = ((linksN cs : Nat) : Int) := by
    have h1 : Int.tmod (cs.length : Int) 4 = ((cs.length % 4 : Nat) : Int) := by rw [Int.tmod_eq_emod_of_nonneg (by omega)]; omega
    rw [h1, wr_i64 (by omega) (by omega)]
    unfold linksN; omega
  have hnk : linksN cs ≤ 4 := by unfold linksN; omega
  obtain ⟨n, hnn⟩ : ∃ n, linksN cs = n := ⟨_, rfl⟩
  rw [hnn] at hn' hnk
  repeat' first
    | with_reducible rfl
    | simp only [hn', List.length_map, RS_, FB_, segR, ST_, seval, ne_eq, bne, forall_const, implies_true, TY_, WLS]
    | (with_reducible refine drawK_id ?_); refine drawK_auto hmix (by kernel_rfl) ?_
    | (with_reducible refine draw_fin ?_ ?_); · kernel_rfl
    | (with_reducible refine draw_id ?_); kernel_rfl
    | (with_reducible refine callK_id (f := 6) ?_); refine callK_fun (c_speaks) rfl rfl ?_
    | (with_reducible refine And.intro ?_ ?_; · omega)
  refine loopK_wk (by kernel_rfl) (I_p0 cs acts) n ⟨_, _, Wk.can [(5, 2, 0, 4), (5, 3, 0, 4)] [.inl 0, .inl 1, .inl 2, .inl 3, .inr 0, .inr 1] rfl (by simp [patL]), 0, by omega, by omega, ?_, ?_, ?_, ?_, ?_, ?_, ?_⟩ ?_
  · simp [Function.comp_def, get_gcT, get, put, gcI, pullI, push1, pushI, pullS, pushS, gcH, patL, canL, canH, canTL, canT, segR, ix, upd, up1, mapC_rows, mapC_gone, pushC_rows, pushC_gone, pullP, pullV, pullSS, pullD, pullT, pullF, pushP, pushV, pushSS, pushD, pushT, pushF, pullD16, pushD16, encSET, sX, sY, encSPs_pull, encSPs_push, encSPs_len, setPL_len, pull_U, push_U, pull_SP, push_SP, hnn, setPL, encSPs]
  · simp [Function.comp_def, get_gcT, get, put, gcI, pullI, push1, pushI, pullS, pushS, gcH, patL, canL, canH, canTL, canT, segR, ix, upd, up1, mapC_rows, mapC_gone, pushC_rows, pushC_gone, pullP, pullV, pullSS, pullD, pullT, pullF, pushP, pushV, pushSS, pushD, pushT, pushF, pullD16, pushD16, encSET, sX, sY, encSPs_pull, encSPs_push, encSPs_len, setPL_len, pull_U, push_U, pull_SP, push_SP, hnn, setPL, encSPs]
  · simp [Function.comp_def, get_gcT, get, put, gcI, pullI, push1, pushI, pullS, pushS, gcH, patL, canL, canH, canTL, canT, segR, ix, upd, up1, mapC_rows, mapC_gone, pushC_rows, pushC_gone, pullP, pullV, pullSS, pullD, pullT, pullF, pushP, pushV, pushSS, pushD, pushT, pushF, pullD16, pushD16, encSET, sX, sY, encSPs_pull, encSPs_push, encSPs_len, setPL_len, pull_U, push_U, pull_SP, push_SP, hnn, setPL, encSPs]
  · simp [Function.comp_def, get_gcT, get, put, gcI, pullI, push1, pushI, pullS, pushS, gcH, patL, canL, canH, canTL, canT, segR, ix, upd, up1, mapC_rows, mapC_gone, pushC_rows, pushC_gone, pullP, pullV, pullSS, pullD, pullT, pullF, pushP, pushV, pushSS, pushD, pushT, pushF, pullD16, pushD16, encSET, sX, sY, encSPs_pull, encSPs_push, encSPs_len, setPL_len, pull_U, push_U, pull_SP, push_SP, hnn, setPL, encSPs]
  · simp [Function.comp_def, get_gcT, get, put, gcI, pullI, push1, pushI, pullS, pushS, gcH, patL, canL, canH, canTL, canT, segR, ix, upd, up1, mapC_rows, mapC_gone, pushC_rows, pushC_gone, pullP, pullV, pullSS, pullD, pullT, pullF, pushP, pushV, pushSS, pushD, pushT, pushF, pullD16, pushD16, encSET, sX, sY, encSPs_pull, encSPs_push, encSPs_len, setPL_len, pull_U, push_U, pull_SP, push_SP, hnn, setPL, encSPs]
  · simp [Function.comp_def, get_gcT, get, put, gcI, pullI, push1, pushI, pullS, pushS, gcH, patL, canL, canH, canTL, canT, segR, ix, upd, up1, mapC_rows, mapC_gone, pushC_rows, pushC_gone, pullP, pullV, pullSS, pullD, pullT, pullF, pushP, pushV, pushSS, pushD, pushT, pushF, pullD16, pushD16, encSET, sX, sY, encSPs_pull, encSPs_push, encSPs_len, setPL_len, pull_U, push_U, pull_SP, push_SP, hnn, setPL, encSPs]
  · simp [Function.comp_def, get_gcT, get, put, gcI, pullI, push1, pushI, pullS, pushS, gcH, patL, canL, canH, canTL, canT, segR, ix, upd, up1, mapC_rows, mapC_gone, pushC_rows, pushC_gone, pullP, pullV, pullSS, pullD, pullT, pullF, pushP, pushV, pushSS, pushD, pushT, pushF, pullD16, pushD16, encSET, sX, sY, encSPs_pull, encSPs_push, encSPs_len, setPL_len, pull_U, push_U, pull_SP, push_SP, hnn, setPL, encSPs]
  rintro m tm H ⟨i, rfl, hi, g0, g1, g5, g6, g7, g8, rfl⟩
  rw [hnn] at hi g5 ⊢
  by_cases hq : i < n
  · have q : decide ((i : Int) < (n : Int)) = true := decide_eq_true (by omega)
    have hb0 : (0 : Int) ≤ (i : Int) := by omega
    have hi1 : IntKind.i64.wrap ((i : Int) + 1) = ((i + 1 : Nat) : Int) := by rw [wr_i64 (by omega) (by omega)]; rfl
    have hel : (encSPs (setPL cs i)).length = i := by rw [encSPs_len, setPL_len]
    have hel2 : (setPL cs i).length = i := setPL_len cs i
    have hbig : (i + 1) * 5 ≤ 140737488355328 := by omega
    have hnx := setPL_next cs i
    generalize setPL cs i = L at *
    cases q2 : decide ((i : Int) < (cs.length : Int)) with
    | true =>
      have hbN : (i : Int) < (cs.length : Int) := of_decide_eq_true q2
      obtain ⟨c, hc⟩ : ∃ c, cs[i]? = some c := ⟨_, List.getElem?_eq_getElem (by omega)⟩
      have hcr : (cs.map sU)[i]? = some (sU c) := by rw [List.getElem?_map, hc]; rfl
      have hgd : cs.getD i 1 = c := by rw [List.getD_eq_getElem?_getD, hc]; rfl
      rw [hgd] at hnx
      repeat' first
        | with_reducible rfl
        | simp only [encSET, sX, sY, sU, q, q2, hb0, hel, hbig, g0, g1, g5, g6, g7, g8, List.length_map, Int.toNat_natCast, hbN, hcr, RS_, FB_, segR, ST_, seval, ne_eq, bne, forall_const, implies_true, TY_, WLS]
        | (with_reducible refine drawK_id ?_); refine drawK_auto hmix (by kernel_rfl) ?_
        | (with_reducible refine draw_fin ?_ ?_); · kernel_rfl
        | (with_reducible refine draw_id ?_); kernel_rfl
        | (with_reducible refine And.intro ?_ ?_; · omega)
      refine ⟨n - (i + 1), _, _, by omega, Wk.can [(5, 2, 0, 4), (5, 3, 0, 4)] [.inl 0, .inl 1, .inl 2, .inl 3, .inr 0, .inr 1] rfl (by simp [patL]), i + 1, by rw [hnn], by omega, ?_, ?_, ?_, ?_, ?_, ?_, ?_⟩ <;> first | (simp [Function.comp_def, get_gcT, get, put, gcI, pullI, push1, pushI, pullS, pushS, gcH, patL, canL, canH, canTL, canT, segR, ix, upd, up1, mapC_rows, mapC_gone, pushC_rows, pushC_gone, pullP, pullV, pullSS, pullD, pullT, pullF, pushP, pushV, pushSS, pushD, pushT, pushF, pullD16, pushD16, encSET, sX, sY, encSPs_pull, encSPs_push, encSPs_len, setPL_len, pull_U, push_U, pull_SP, push_SP, g0, g1, g5, g6, g7, g8, hi1, hnn, hel]; done) | (rw [hnx]; simp [Function.comp_def, get_gcT, get, put, gcI, pullI, push1, pushI, pullS, pushS, gcH, patL, canL, canH, canTL, canT, segR, ix, upd, up1, mapC_rows, mapC_gone, pushC_rows, pushC_gone, pullP, pullV, pullSS, pullD, pullT, pullF, pushP, pushV, pushSS, pushD, pushT, pushF, pullD16, pushD16, encSET, sX, sY, encSPs_pull, encSPs_push, encSPs_len, setPL_len, pull_U, push_U, pull_SP, push_SP, hnn, hel, hel2, hi1, encSPs, encSP, List.map_append])
    | false =>
      have hgd : cs.getD i 1 = 1 := by
        have := of_decide_eq_false q2
        rw [List.getD_eq_getElem?_getD, List.getElem?_eq_none (by omega)]; rfl
      rw [hgd] at hnx
      repeat' first
        | with_reducible rfl
        | simp only [encSET, sX, sY, sU, q, q2, hb0, hel, hbig, g0, g1, g5, g6, g7, g8, List.length_map, Int.toNat_natCast, RS_, FB_, segR, ST_, seval, ne_eq, bne, forall_const, implies_true, TY_, WLS]
        | (with_reducible refine drawK_id ?_); refine drawK_auto hmix (by kernel_rfl) ?_
        | (with_reducible refine draw_fin ?_ ?_); · kernel_rfl
        | (with_reducible refine draw_id ?_); kernel_rfl
        | (with_reducible refine And.intro ?_ ?_; · omega)
      refine ⟨n - (i + 1), _, _, by omega, Wk.can [(5, 2, 0, 4), (5, 3, 0, 4)] [.inl 0, .inl 1, .inl 2, .inl 3, .inr 0, .inr 1] rfl (by simp [patL]), i + 1, by rw [hnn], by omega, ?_, ?_, ?_, ?_, ?_, ?_, ?_⟩ <;> first | (simp [Function.comp_def, get_gcT, get, put, gcI, pullI, push1, pushI, pullS, pushS, gcH, patL, canL, canH, canTL, canT, segR, ix, upd, up1, mapC_rows, mapC_gone, pushC_rows, pushC_gone, pullP, pullV, pullSS, pullD, pullT, pullF, pushP, pushV, pushSS, pushD, pushT, pushF, pullD16, pushD16, encSET, sX, sY, encSPs_pull, encSPs_push, encSPs_len, setPL_len, pull_U, push_U, pull_SP, push_SP, g0, g1, g5, g6, g7, g8, hi1, hnn, hel]; done) | (rw [hnx]; simp [Function.comp_def, get_gcT, get, put, gcI, pullI, push1, pushI, pullS, pushS, gcH, patL, canL, canH, canTL, canT, segR, ix, upd, up1, mapC_rows, mapC_gone, pushC_rows, pushC_gone, pullP, pullV, pullSS, pullD, pullT, pullF, pushP, pushV, pushSS, pushD, pushT, pushF, pullD16, pushD16, encSET, sX, sY, encSPs_pull, encSPs_push, encSPs_len, setPL_len, pull_U, push_U, pull_SP, push_SP, hnn, hel, hel2, hi1, encSPs, encSP, List.map_append])
  · have q : decide ((i : Int) < (n : Int)) = false := decide_eq_false (by omega)
    have hin : i = n := by omega
    subst hin
    have hst : startJ cs = ⟨noT (startA (madeA sX (setPL cs i))), noT (startA (madeA sY (setPL cs i))), outL 0 (startA (madeA sX (setPL cs i))).told ++ outL 1 (startA (madeA sY (setPL cs i))).told⟩ := by unfold startJ; rw [hnn]; rfl
    have hG := good_startJ cs
    rw [hst] at hG
    have hlen := setPL_len cs i
    have ca := c_Made sX (setPL cs i)
    have cb := c_Made sY (setPL cs i)
    have hga := made_good sX (setPL cs i)
    have hgb := made_good sY (setPL cs i)
    have ta := tk_start (madeA sX (setPL cs i))
    have tb := tk_start (madeA sY (setPL cs i))
    rw [hlen] at ca cb
    rw [show cV [] = cV (madeA sX (setPL cs i)).vs by rw [hga.bare.vs], show cS [] = cS (madeA sX (setPL cs i)).ss by rw [hga.bare.ss], show cD [] = cD (madeA sX (setPL cs i)).ds by rw [hga.bare.ds]] at ca
    rw [show cV [] = cV (madeA sY (setPL cs i)).vs by rw [hgb.bare.vs], show cS [] = cS (madeA sY (setPL cs i)).ss by rw [hgb.bare.ss], show cD [] = cD (madeA sY (setPL cs i)).ds by rw [hgb.bare.ds]] at cb
    have da := c_Start _ hga.ok
    have db := c_Start _ hgb.ok
    rw [hga.noT] at da
    rw [hgb.noT] at db
    unfold PostS at da db
    have la := out_len 0 hga (fr_start (n := 6) _ hga.len)
    have sa := (fr_start (n := 6) _ hga.len).sz
    have sb := (fr_start (n := 6) _ hgb.len).sz
    rw [hga.sz] at sa
    rw [hgb.sz] at sb
    have lb := out_len 1 hgb (fr_start (n := 6) _ hgb.len)
    generalize madeA sX (setPL cs i) = a0 at *
    generalize madeA sY (setPL cs i) = b0 at *
    generalize startA a0 = a at *
    generalize startA b0 = b at *
    have hcP := True.intro
    repeat' first
      | with_reducible rfl
      | simp only [encSET, sX, sY, q, g0, g1, g5, g6, g7, g8, hcP, RS_, FB_, segR, ST_, seval, ne_eq, bne, forall_const, implies_true, TY_, WLS]
      | (with_reducible refine drawK_id ?_); refine drawK_auto hmix (by kernel_rfl) ?_
      | (with_reducible refine draw_fin ?_ ?_); · kernel_rfl
      | (with_reducible refine draw_id ?_); kernel_rfl
      | ((with_reducible refine callK_id (f := 8) ?_); refine callK_funW [4] [] ca (by simp [pullHW, roC_rows, pull_SP, encSPs, Function.comp_def]) rfl rfl (by decide) (by simp) (by simp [pullI, pullS, ix, encSET, sX, sY]) ?_; rintro r Hn ⟨rfl, rfl⟩ -; clear hcP)
      | (with_reducible refine And.intro ?_ ?_; · omega)
    have hcP := True.intro
    repeat' first
      | with_reducible rfl
      | simp only [hcP, rowS, mapC_rows, mapC_gone, pushC_rows, pushC_gone, pullP, pullV, pullSS, pullD, pullT, pullF, pushP, pushV, pushSS, pushD, pushT, pushF, pullD16, pushD16, g0, g1, g5, g6, g7, g8, RS_, FB_, segR, ST_, seval, ne_eq, bne, forall_const, implies_true, TY_, WLS]
      | (with_reducible refine drawK_id ?_); refine drawK_auto hmix (by kernel_rfl) ?_
      | (with_reducible refine draw_fin ?_ ?_); · kernel_rfl
      | (with_reducible refine draw_id ?_); kernel_rfl
      | ((with_reducible refine callK_id (f := 7) ?_); refine callK_funW [8, 9, 10, 11] [] (da) (by simp [pullHW, AH, AHo, HrS, rowA, rowS, pullS, ix, roC_rows, roP, roV, roSS, roD, roT, roF, roC_rP, roC_rV, roC_rS, roC_rD, mapC_rows, mapC_gone, pushC_rows, pushC_gone, pullP, pullV, pullSS, pullD, pullT, pullF, pushP, pushV, pushSS, pushD, pushT, pushF, pullD16, pushD16]) rfl rfl (by decide) (by simp [cP, cV, cS, cD, cT, cF]) (by simp [pullI, pullS, ix, rowS]) ?_; rintro r Hn ⟨rfl, rfl⟩ -; clear hcP)
      | (with_reducible refine And.intro ?_ ?_; · omega)
    have hcP := True.intro
    repeat' first
      | with_reducible rfl
      | simp only [hcP, rowS, encSET, sX, sY, mapC_rows, mapC_gone, pushC_rows, pushC_gone, pullP, pullV, pullSS, pullD, pullT, pullF, pushP, pushV, pushSS, pushD, pushT, pushF, pullD16, pushD16, g0, g1, g5, g6, g7, g8, RS_, FB_, segR, ST_, seval, ne_eq, bne, forall_const, implies_true, TY_, WLS]
      | (with_reducible refine drawK_id ?_); refine drawK_auto hmix (by kernel_rfl) ?_
      | (with_reducible refine draw_fin ?_ ?_); · kernel_rfl
      | (with_reducible refine draw_id ?_); kernel_rfl
      | ((with_reducible refine callK_id (f := 8) ?_); refine callK_funW [5] [] cb (by simp [pullHW, roC_rows, pull_SP, encSPs, Function.comp_def]) rfl rfl (by decide) (by simp) (by simp [pullI, pullS, ix, encSET, sX, sY]) ?_; rintro r Hn ⟨rfl, rfl⟩ -; clear hcP)
      | (with_reducible refine And.intro ?_ ?_; · omega)
    have hcP := True.intro
    repeat' first
      | with_reducible rfl
      | simp only [hcP, rowS, mapC_rows, mapC_gone, pushC_rows, pushC_gone, pullP, pullV, pullSS, pullD, pullT, pullF, pushP, pushV, pushSS, pushD, pushT, pushF, pullD16, pushD16, g0, g1, g5, g6, g7, g8, RS_, FB_, segR, ST_, seval, ne_eq, bne, forall_const, implies_true, TY_, WLS]
      | (with_reducible refine drawK_id ?_); refine drawK_auto hmix (by kernel_rfl) ?_
      | (with_reducible refine draw_fin ?_ ?_); · kernel_rfl
      | (with_reducible refine draw_id ?_); kernel_rfl
      | ((with_reducible refine callK_id (f := 7) ?_); refine callK_funW [18, 19, 20, 21] [] (db) (by simp [pullHW, AH, AHo, HrS, rowA, rowS, pullS, ix, roC_rows, roP, roV, roSS, roD, roT, roF, roC_rP, roC_rV, roC_rS, roC_rD, mapC_rows, mapC_gone, pushC_rows, pushC_gone, pullP, pullV, pullSS, pullD, pullT, pullF, pushP, pushV, pushSS, pushD, pushT, pushF, pullD16, pushD16]) rfl rfl (by decide) (by simp [cP, cV, cS, cD, cT, cF]) (by simp [pullI, pullS, ix, rowS]) ?_; rintro r Hn ⟨rfl, rfl⟩ -; clear hcP)
      | (with_reducible refine And.intro ?_ ?_; · omega)
    have hcP := True.intro
    repeat' first
      | with_reducible rfl
      | simp only [hcP, rowS, mapC_rows, mapC_gone, pushC_rows, pushC_gone, pullP, pullV, pullSS, pullD, pullT, pullF, pushP, pushV, pushSS, pushD, pushT, pushF, pullD16, pushD16, g0, g1, g5, g6, g7, g8, RS_, FB_, segR, ST_, seval, ne_eq, bne, forall_const, implies_true, TY_, WLS]
      | (with_reducible refine drawK_id ?_); refine drawK_auto hmix (by kernel_rfl) ?_
      | (with_reducible refine draw_fin ?_ ?_); · kernel_rfl
      | (with_reducible refine draw_id ?_); kernel_rfl
      | (with_reducible refine And.intro ?_ ?_; · omega)
    repeat' first
      | with_reducible rfl
      | simp only [hcP, rowS, mapC_rows, mapC_gone, pushC_rows, pushC_gone, pullP, pullV, pullSS, pullD, pullT, pullF, pushP, pushV, pushSS, pushD, pushT, pushF, pullD16, pushD16, g0, g1, g5, g6, g7, g8, RS_, FB_, segR, ST_, seval, ne_eq, bne, forall_const, implies_true, TY_, WLS]
      | (with_reducible refine drawK_id ?_); refine drawK_auto hmix (by kernel_rfl) ?_
      | (with_reducible refine draw_fin ?_ ?_); · kernel_rfl
      | (with_reducible refine draw_id ?_); kernel_rfl
      | ((with_reducible refine genK_id ?_); refine makeFunc_gen (by simp [rd, put, get, flat, isT]) rfl ?_)
      | (with_reducible refine And.intro ?_ ?_; · omega)
    refine callK_nilD 28 0 0 18 rfl rfl ?_
    have e1 := c_sendF 0 a.told a.fl [] (by have := szA_t a; omega) (by simp)
    have e2 := c_sendF 1 b.told b.fl (outL 0 a.told) (by have := szA_t b; omega) (by omega)
    rw [List.nil_append] at e1
    repeat' first
      | with_reducible rfl
      | simp only [hcP, nilH, g0, g1, g5, g6, g7, g8, RS_, FB_, segR, ST_, seval, ne_eq, bne, forall_const, implies_true, TY_, WLS]
      | (with_reducible refine drawK_id ?_); refine drawK_auto hmix (by kernel_rfl) ?_
      | (with_reducible refine draw_fin ?_ ?_); · kernel_rfl
      | (with_reducible refine draw_id ?_); kernel_rfl
      | ((with_reducible refine callK_id (f := 9) ?_); refine callK_funW [16, 17] [28, 30] e1 (by simp [pullHW, pullS, ix, pullI, encTEs, encLTs, pull_LT, push_LT, cL, rT, rF, roC_rows, roP, roV, roSS, roD, roT, roF, roC_rP, roC_rV, roC_rS, roC_rD, mapC_rows, mapC_gone, pushC_rows, pushC_gone, pullP, pullV, pullSS, pullD, pullT, pullF, pushP, pushV, pushSS, pushD, pushT, pushF, pullD16, pushD16]) rfl rfl (by decide) (by simp [cT, cF, cL]) (by simp [pullI, pullS, ix]) ?_; rintro r Hn ⟨rfl, rfl⟩ -; clear hcP)
      | (with_reducible refine And.intro ?_ ?_; · omega)
    have hcP := True.intro
    repeat' first
      | with_reducible rfl
      | simp only [hcP, pullL, pushL, mapC_clo, pushC_clo, mapC_rows, mapC_gone, pushC_rows, pushC_gone, pullP, pullV, pullSS, pullD, pullT, pullF, pushP, pushV, pushSS, pushD, pushT, pushF, pullD16, pushD16, g0, g1, g5, g6, g7, g8, RS_, FB_, segR, ST_, seval, ne_eq, bne, forall_const, implies_true, TY_, WLS]
      | (with_reducible refine drawK_id ?_); refine drawK_auto hmix (by kernel_rfl) ?_
      | (with_reducible refine draw_fin ?_ ?_); · kernel_rfl
      | (with_reducible refine draw_id ?_); kernel_rfl
      | ((with_reducible refine callK_id (f := 9) ?_); refine callK_funW [26, 27] [28, 31] e2 (by simp [pullHW, pullS, ix, pullI, encTEs, encLTs, pull_LT, push_LT, cL, rT, rF, roC_rows, roP, roV, roSS, roD, roT, roF, roC_rP, roC_rV, roC_rS, roC_rD, mapC_rows, mapC_gone, pushC_rows, pushC_gone, pullP, pullV, pullSS, pullD, pullT, pullF, pushP, pushV, pushSS, pushD, pushT, pushF, pullD16, pushD16]) rfl rfl (by decide) (by simp [cT, cF, cL]) (by simp [pullI, pullS, ix]) ?_; rintro r Hn ⟨rfl, rfl⟩ -; clear hcP)
      | (with_reducible refine And.intro ?_ ?_; · omega)
    have hcP := True.intro
    repeat' first
      | with_reducible rfl
      | simp only [hcP, pullL, pushL, mapC_clo, pushC_clo, mapC_rows, mapC_gone, pushC_rows, pushC_gone, pullP, pullV, pullSS, pullD, pullT, pullF, pushP, pushV, pushSS, pushD, pushT, pushF, pullD16, pushD16, g0, g1, g5, g6, g7, g8, RS_, FB_, segR, ST_, seval, ne_eq, bne, forall_const, implies_true, TY_, WLS]
      | (with_reducible refine drawK_id ?_); refine drawK_auto hmix (by kernel_rfl) ?_
      | (with_reducible refine draw_fin ?_ ?_); · kernel_rfl
      | (with_reducible refine draw_id ?_); kernel_rfl
      | (with_reducible refine And.intro ?_ ?_; · omega)
    refine loopK_wk (by kernel_rfl) (I_o cs acts i (startJ cs)) 60 ⟨_, _, Wk.gc [0, 1, 6, 12, 13, 14, 15, 22, 23, 24, 25, 28, 32, 29] rfl (by decide), 0, by omega, by omega, ⟨?_, ?_, ?_, ?_, ?_, ?_, ?_⟩, ?_⟩ ?_
    · simp [Function.comp_def, get_gcT, get, put, gcI, pullI, push1, pushI, pullS, pushS, gcH, patL, canL, canH, canTL, canT, segR, ix, upd, up1, mapC_rows, mapC_gone, pushC_rows, pushC_gone, pullP, pullV, pullSS, pullD, pullT, pullF, pushP, pushV, pushSS, pushD, pushT, pushF, pullD16, pushD16, LJ, noT, rowS, cL, encLTs_pull, encLTs_push, encLTs_len, mapC_clo, pushC_clo, pull_U, push_U, prP, prV, prSS, prD, hst, roundsJ, g0, g1, g5, g6, g7, g8]
    · simp [Function.comp_def, get_gcT, get, put, gcI, pullI, push1, pushI, pullS, pushS, gcH, patL, canL, canH, canTL, canT, segR, ix, upd, up1, mapC_rows, mapC_gone, pushC_rows, pushC_gone, pullP, pullV, pullSS, pullD, pullT, pullF, pushP, pushV, pushSS, pushD, pushT, pushF, pullD16, pushD16, LJ, noT, rowS, cL, encLTs_pull, encLTs_push, encLTs_len, mapC_clo, pushC_clo, pull_U, push_U, prP, prV, prSS, prD, hst, roundsJ, g0, g1, g5, g6, g7, g8]
    · simp [Function.comp_def, get_gcT, get, put, gcI, pullI, push1, pushI, pullS, pushS, gcH, patL, canL, canH, canTL, canT, segR, ix, upd, up1, mapC_rows, mapC_gone, pushC_rows, pushC_gone, pullP, pullV, pullSS, pullD, pullT, pullF, pushP, pushV, pushSS, pushD, pushT, pushF, pullD16, pushD16, LJ, noT, rowS, cL, encLTs_pull, encLTs_push, encLTs_len, mapC_clo, pushC_clo, pull_U, push_U, prP, prV, prSS, prD, hst, roundsJ, g0, g1, g5, g6, g7, g8]
    · simp [Function.comp_def, get_gcT, get, put, gcI, pullI, push1, pushI, pullS, pushS, gcH, patL, canL, canH, canTL, canT, segR, ix, upd, up1, mapC_rows, mapC_gone, pushC_rows, pushC_gone, pullP, pullV, pullSS, pullD, pullT, pullF, pushP, pushV, pushSS, pushD, pushT, pushF, pullD16, pushD16, LJ, noT, rowS, cL, encLTs_pull, encLTs_push, encLTs_len, mapC_clo, pushC_clo, pull_U, push_U, prP, prV, prSS, prD, hst, roundsJ, g0, g1, g5, g6, g7, g8]
    · simp [Function.comp_def, get_gcT, get, put, gcI, pullI, push1, pushI, pullS, pushS, gcH, patL, canL, canH, canTL, canT, segR, ix, upd, up1, mapC_rows, mapC_gone, pushC_rows, pushC_gone, pullP, pullV, pullSS, pullD, pullT, pullF, pushP, pushV, pushSS, pushD, pushT, pushF, pullD16, pushD16, LJ, noT, rowS, cL, encLTs_pull, encLTs_push, encLTs_len, mapC_clo, pushC_clo, pull_U, push_U, prP, prV, prSS, prD, hst, roundsJ, g0, g1, g5, g6, g7, g8]
    · simp [Function.comp_def, get_gcT, get, put, gcI, pullI, push1, pushI, pullS, pushS, gcH, patL, canL, canH, canTL, canT, segR, ix, upd, up1, mapC_rows, mapC_gone, pushC_rows, pushC_gone, pullP, pullV, pullSS, pullD, pullT, pullF, pushP, pushV, pushSS, pushD, pushT, pushF, pullD16, pushD16, LJ, noT, rowS, cL, encLTs_pull, encLTs_push, encLTs_len, mapC_clo, pushC_clo, pull_U, push_U, prP, prV, prSS, prD, hst, roundsJ, g0, g1, g5, g6, g7, g8]
    · simp [Function.comp_def, get_gcT, get, put, gcI, pullI, push1, pushI, pullS, pushS, gcH, patL, canL, canH, canTL, canT, segR, ix, upd, up1, mapC_rows, mapC_gone, pushC_rows, pushC_gone, pullP, pullV, pullSS, pullD, pullT, pullF, pushP, pushV, pushSS, pushD, pushT, pushF, pullD16, pushD16, LJ, noT, rowS, cL, encLTs_pull, encLTs_push, encLTs_len, mapC_clo, pushC_clo, pull_U, push_U, prP, prV, prSS, prD, hst, roundsJ, g0, g1, g5, g6, g7, g8]
    · simp [Function.comp_def, get_gcT, get, put, gcI, pullI, push1, pushI, pullS, pushS, gcH, patL, canL, canH, canTL, canT, segR, ix, upd, up1, mapC_rows, mapC_gone, pushC_rows, pushC_gone, pullP, pullV, pullSS, pullD, pullT, pullF, pushP, pushV, pushSS, pushD, pushT, pushF, pullD16, pushD16, LJ, noT, rowS, cL, encLTs_pull, encLTs_push, encLTs_len, mapC_clo, pushC_clo, pull_U, push_U, prP, prV, prSS, prD, hst, roundsJ, g0, g1, g5, g6, g7, g8]
    rw [← hst] at hG
    clear hst hlen ca cb hga hgb ta tb da db la lb sa sb e1 e2
    clear a b a0 b0
    obtain ⟨s0, hs0⟩ : ∃ s0, startJ cs = s0 := ⟨_, rfl⟩
    rw [hs0] at hG ⊢
    rintro m tm H ⟨r, rfl, hr, ⟨h0, h1, h5, h10, h12, h13, h14⟩, rfl⟩
    have hGr := good_rounds acts hG r
    have hr1 : IntKind.i64.wrap ((r : Int) + 1) = ((r + 1 : Nat) : Int) := by rw [wr_i64 (by omega) (by omega)]; rfl
    have hnx : roundsJ acts s0 (r + 1) = tickJ acts r (drainJ (roundsJ acts s0 r) 5000) 2 := rfl
    clear g0 g1 g5 g6 g7 g8 q hq
    by_cases hq : r < 60
    · have q : decide ((r : Int) < 60) = true := decide_eq_true (by omega)
      generalize roundsJ acts s0 r = s at *
      unfold LJ
      repeat' first
        | with_reducible rfl
        | simp only [rowS, q, encLTs_len, h0, h1, h5, h10, h12, h13, h14, RS_, FB_, segR, ST_, seval, ne_eq, bne, forall_const, implies_true, TY_, WLS]
        | (with_reducible refine drawK_id ?_); refine drawK_auto hmix (by kernel_rfl) ?_
        | (with_reducible refine draw_fin ?_ ?_); · kernel_rfl
        | (with_reducible refine draw_id ?_); kernel_rfl
        | (with_reducible refine And.intro ?_ ?_; · omega)
      refine loopK_wk (by kernel_rfl) (I_d cs acts i r s) 5000 ⟨_, _, Wk.gc [0, 1, 2, 3, 4, 5, 6, 7, 8, 9, 10, 11, 12, 13] rfl (by decide), 0, by omega, by omega, ⟨?_, ?_, ?_, ?_, ?_, ?_, ?_⟩, ?_, ?_⟩ ?_
      · simp [Function.comp_def, get_gcT, get, put, gcI, pullI, push1, pushI, pullS, pushS, gcH, patL, canL, canH, canTL, canT, segR, ix, upd, up1, mapC_rows, mapC_gone, pushC_rows, pushC_gone, pullP, pullV, pullSS, pullD, pullT, pullF, pushP, pushV, pushSS, pushD, pushT, pushF, pullD16, pushD16, LJ, noT, rowS, cL, encLTs_pull, encLTs_push, encLTs_len, mapC_clo, pushC_clo, pull_U, push_U, prP, prV, prSS, prD, drainJ, h0, h1, h5, h10, h12, h13, h14]
      · simp [Function.comp_def, get_gcT, get, put, gcI, pullI, push1, pushI, pullS, pushS, gcH, patL, canL, canH, canTL, canT, segR, ix, upd, up1, mapC_rows, mapC_gone, pushC_rows, pushC_gone, pullP, pullV, pullSS, pullD, pullT, pullF, pushP, pushV, pushSS, pushD, pushT, pushF, pullD16, pushD16, LJ, noT, rowS, cL, encLTs_pull, encLTs_push, encLTs_len, mapC_clo, pushC_clo, pull_U, push_U, prP, prV, prSS, prD, drainJ, h0, h1, h5, h10, h12, h13, h14]
      · simp [Function.comp_def, get_gcT, get, put, gcI, pullI, push1, pushI, pullS, pushS, gcH, patL, canL, canH, canTL, canT, segR, ix, upd, up1, mapC_rows, mapC_gone, pushC_rows, pushC_gone, pullP, pullV, pullSS, pullD, pullT, pullF, pushP, pushV, pushSS, pushD, pushT, pushF, pullD16, pushD16, LJ, noT, rowS, cL, encLTs_pull, encLTs_push, encLTs_len, mapC_clo, pushC_clo, pull_U, push_U, prP, prV, prSS, prD, drainJ, h0, h1, h5, h10, h12, h13, h14]
      · simp [Function.comp_def, get_gcT, get, put, gcI, pullI, push1, pushI, pullS, pushS, gcH, patL, canL, canH, canTL, canT, segR, ix, upd, up1, mapC_rows, mapC_gone, pushC_rows, pushC_gone, pullP, pullV, pullSS, pullD, pullT, pullF, pushP, pushV, pushSS, pushD, pushT, pushF, pullD16, pushD16, LJ, noT, rowS, cL, encLTs_pull, encLTs_push, encLTs_len, mapC_clo, pushC_clo, pull_U, push_U, prP, prV, prSS, prD, drainJ, h0, h1, h5, h10, h12, h13, h14]
      · simp [Function.comp_def, get_gcT, get, put, gcI, pullI, push1, pushI, pullS, pushS, gcH, patL, canL, canH, canTL, canT, segR, ix, upd, up1, mapC_rows, mapC_gone, pushC_rows, pushC_gone, pullP, pullV, pullSS, pullD, pullT, pullF, pushP, pushV, pushSS, pushD, pushT, pushF, pullD16, pushD16, LJ, noT, rowS, cL, encLTs_pull, encLTs_push, encLTs_len, mapC_clo, pushC_clo, pull_U, push_U, prP, prV, prSS, prD, drainJ, h0, h1, h5, h10, h12, h13, h14]
      · simp [Function.comp_def, get_gcT, get, put, gcI, pullI, push1, pushI, pullS, pushS, gcH, patL, canL, canH, canTL, canT, segR, ix, upd, up1, mapC_rows, mapC_gone, pushC_rows, pushC_gone, pullP, pullV, pullSS, pullD, pullT, pullF, pushP, pushV, pushSS, pushD, pushT, pushF, pullD16, pushD16, LJ, noT, rowS, cL, encLTs_pull, encLTs_push, encLTs_len, mapC_clo, pushC_clo, pull_U, push_U, prP, prV, prSS, prD, drainJ, h0, h1, h5, h10, h12, h13, h14]
      · simp [Function.comp_def, get_gcT, get, put, gcI, pullI, push1, pushI, pullS, pushS, gcH, patL, canL, canH, canTL, canT, segR, ix, upd, up1, mapC_rows, mapC_gone, pushC_rows, pushC_gone, pullP, pullV, pullSS, pullD, pullT, pullF, pushP, pushV, pushSS, pushD, pushT, pushF, pullD16, pushD16, LJ, noT, rowS, cL, encLTs_pull, encLTs_push, encLTs_len, mapC_clo, pushC_clo, pull_U, push_U, prP, prV, prSS, prD, drainJ, h0, h1, h5, h10, h12, h13, h14]
      · simp [Function.comp_def, get_gcT, get, put, gcI, pullI, push1, pushI, pullS, pushS, gcH, patL, canL, canH, canTL, canT, segR, ix, upd, up1, mapC_rows, mapC_gone, pushC_rows, pushC_gone, pullP, pullV, pullSS, pullD, pullT, pullF, pushP, pushV, pushSS, pushD, pushT, pushF, pullD16, pushD16, LJ, noT, rowS, cL, encLTs_pull, encLTs_push, encLTs_len, mapC_clo, pushC_clo, pull_U, push_U, prP, prV, prSS, prD, drainJ, h0, h1, h5, h10, h12, h13, h14]
      · simp [Function.comp_def, get_gcT, get, put, gcI, pullI, push1, pushI, pullS, pushS, gcH, patL, canL, canH, canTL, canT, segR, ix, upd, up1, mapC_rows, mapC_gone, pushC_rows, pushC_gone, pullP, pullV, pullSS, pullD, pullT, pullF, pushP, pushV, pushSS, pushD, pushT, pushF, pullD16, pushD16, LJ, noT, rowS, cL, encLTs_pull, encLTs_push, encLTs_len, mapC_clo, pushC_clo, pull_U, push_U, prP, prV, prSS, prD, drainJ, h0, h1, h5, h10, h12, h13, h14]
      clear h0 h1 h5 h10 h12 h13 h14
      refine' (fun (key : KeyK X cs acts i r (drainJ s 5000) _ _) => ?main) ?key
      case main =>
        rintro m tm H ⟨k, rfl, hk, ⟨h0, h1, h5, h10, h12, h13, h14⟩, h15, rfl⟩
        have hGk := good_drain hGr k
        have hk1 : IntKind.i64.wrap ((k : Int) + 1) = ((k + 1 : Nat) : Int) := by rw [wr_i64 (by omega) (by omega)]; rfl
        have hkx : drainJ s (k + 1) = popJ (drainJ s k) := rfl
        have hfix := drain_fix s k
        by_cases hk5 : k < 5000
        · have q5 : decide ((k : Int) < 5000) = true := decide_eq_true (by omega)
          generalize drainJ s k = t at *
          cases hq' : t.q with
          | nil =>
            rw [← hfix hq' 5000 (by omega)] at key
            unfold LJ
            rw [hq']
            repeat' first
              | with_reducible rfl
              | simp only [rowS, encLTs_len, List.length_nil, q5, h0, h1, h5, h10, h12, h13, h14, h15, RS_, FB_, segR, ST_, seval, ne_eq, bne, forall_const, implies_true, TY_, WLS]
              | (with_reducible refine drawK_id ?_); refine drawK_auto hmix (by kernel_rfl) ?_
              | (with_reducible refine draw_fin ?_ ?_); · kernel_rfl
              | (with_reducible refine draw_id ?_); kernel_rfl
              | (with_reducible refine And.intro ?_ ?_; · omega)
            refine loopK_key (H2 := LJ cs acts t) (Wk.gc [0, 1, 2, 3, 4, 5, 6, 7, 8, 9, 10, 11, 12, 13] rfl (by decide)) ?_ ?_
            · simp [Function.comp_def, get_gcT, get, put, gcI, pullI, push1, pushI, pullS, pushS, gcH, patL, canL, canH, canTL, canT, segR, ix, upd, up1, mapC_rows, mapC_gone, pushC_rows, pushC_gone, pullP, pullV, pullSS, pullD, pullT, pullF, pushP, pushV, pushSS, pushD, pushT, pushF, pullD16, pushD16, LJ, noT, rowS, cL, encLTs_pull, encLTs_push, encLTs_len, mapC_clo, pushC_clo, pull_U, push_U, prP, prV, prSS, prD, hq', h0, h1, h5, h10, h12, h13, h14]
            · refine key _ ⟨?_, ?_, ?_, ?_, ?_, ?_, ?_⟩ ?_ <;> simp [Function.comp_def, get_gcT, get, put, gcI, pullI, push1, pushI, pullS, pushS, gcH, patL, canL, canH, canTL, canT, segR, ix, upd, up1, mapC_rows, mapC_gone, pushC_rows, pushC_gone, pullP, pullV, pullSS, pullD, pullT, pullF, pushP, pushV, pushSS, pushD, pushT, pushF, pullD16, pushD16, LJ, noT, rowS, cL, encLTs_pull, encLTs_push, encLTs_len, mapC_clo, pushC_clo, pull_U, push_U, prP, prV, prSS, prD, h0, h1, h5, h10, h12, h13, h14]
          | cons m q' =>
            obtain ⟨hto, hp0, hp6, ha0, ha1⟩ := hGk.q m (by rw [hq']; exact List.mem_cons_self ..)
            have hlq : q'.length + 1 ≤ 100000000 := by have h := hGk.n; rw [hq'] at h; simp at h; omega
            have hpos : decide ((0 : Int) < ((q'.length + 1 : Nat) : Int)) = true := decide_eq_true (by omega)
            have hpos2 : decide ((0 : Int) < (q'.length : Int) + 1) = true := decide_eq_true (by omega)
            have hle : 1 + q'.length ≤ q'.length + 1 := by omega
            have htk : List.take q'.length (encLTs q') = encLTs q' := List.take_of_length_le (by rw [encLTs_len]; exact Nat.le_refl _)
            have hbg : q'.length * 64 ≤ 140737488355328 := by omega
            have hcons : encLTs (m :: q') = encLT m :: encLTs q' := rfl
            unfold LJ
            rw [hq']
            rcases hto with hto | hto
            · have hx : popJ t = toA t (hearT t.a m.port m.d) q' := by unfold popJ; rw [hq']; simp only [hto, if_true]
              have cA := c_HearT t.a hGk.a.ok m.port (by omega) m.d ⟨ha0, ha1⟩
              rw [hGk.a.noT] at cA
              have sz := (fr_hear (n := 6) t.a m.port m.d hGk.a.len).sz
              rw [hGk.a.sz] at sz
              unfold PostS at cA
              generalize hearT t.a m.port m.d = b at *
              have e1 := c_sendF 0 b.told b.fl q' (by have := szA_t b; omega) (by omega)
              have hcL : ∀ l, cL l = .rows true 18 (encLTs l) := fun _ => rfl
              have hcP := True.intro
              repeat' first
                | with_reducible rfl
                | simp only [hcP, rowS, hcL, hcons, encLT, encPD, encLTs_len, hpos, hpos2, hle, htk, hbg, hto, q5, List.length_cons, h0, h1, h5, h10, h12, h13, h14, h15, mapC_rows, mapC_gone, pushC_rows, pushC_gone, pullP, pullV, pullSS, pullD, pullT, pullF, pushP, pushV, pushSS, pushD, pushT, pushF, pullD16, pushD16, RS_, FB_, segR, ST_, seval, ne_eq, bne, forall_const, implies_true, TY_, WLS]
                | (with_reducible refine drawK_id (id := 28) ?_); refine drawK_of 8 hmix (by kernel_rfl) ?_
                | (with_reducible refine drawK_id ?_); refine drawK_auto hmix (by kernel_rfl) ?_
                | (with_reducible refine draw_fin ?_ ?_); · kernel_rfl
                | (with_reducible refine draw_id ?_); kernel_rfl
                | ((with_reducible refine callD_id (f := 10) ?_); refine callD_new (Hw' := []) (Nw := [cP b.ps, cV b.vs, cS b.ss, cD b.ds, cT b.told, cF b.fl]) [3, 4, 5, 6] [] (FunW_eq cA) (by simp [pullHW, roC_rows, roP, roV, roSS, roD, roT, roF, roC_rP, roC_rV, roC_rS, roC_rD]) rfl rfl (by decide) (by simp [cP, cV, cS, cD]) (by simp [pullI, pullS, ix, rowS, encPD]) (by simp) ?_)
                | ((with_reducible refine callK_id (f := 9) ?_); refine callK_funW [21, 22] [11, 16] e1 (by simp [pullHW, pullS, ix, pullI, encTEs, encLTs, pull_LT, push_LT, cL, rT, rF, roC_rows, roP, roV, roSS, roD, roT, roF, roC_rP, roC_rV, roC_rS, roC_rD, mapC_rows, mapC_gone, pushC_rows, pushC_gone, pullP, pullV, pullSS, pullD, pullT, pullF, pushP, pushV, pushSS, pushD, pushT, pushF, pullD16, pushD16]) rfl rfl (by decide) (by simp [cT, cF, cL]) (by simp [pullI, pullS, ix]) ?_; rintro r Hn ⟨rfl, rfl⟩ -; clear hcP)
                | (with_reducible refine And.intro ?_ ?_; · omega)
              repeat' first
                | with_reducible rfl
                | simp only [rowS, hto, pullL, pushL, mapC_clo, pushC_clo, mapC_rows, mapC_gone, pushC_rows, pushC_gone, pullP, pullV, pullSS, pullD, pullT, pullF, pushP, pushV, pushSS, pushD, pushT, pushF, pullD16, pushD16, h0, h1, h5, h10, h12, h13, h14, h15, RS_, FB_, segR, ST_, seval, ne_eq, bne, forall_const, implies_true, TY_, WLS]
                | (with_reducible refine drawK_id ?_); refine drawK_auto hmix (by kernel_rfl) ?_
                | (with_reducible refine draw_fin ?_ ?_); · kernel_rfl
                | (with_reducible refine draw_id ?_); kernel_rfl
                | (with_reducible refine And.intro ?_ ?_; · omega)
              refine ⟨5000 - (k + 1), _, _, by omega, Wk.gc [0, 1, 2, 17, 18, 19, 20, 7, 8, 9, 10, 11, 25, 13] rfl (by decide), k + 1, rfl, by omega, ⟨?_, ?_, ?_, ?_, ?_, ?_, ?_⟩, ?_, ?_⟩ <;> simp [Function.comp_def, get_gcT, get, put, gcI, pullI, push1, pushI, pullS, pushS, gcH, patL, canL, canH, canTL, canT, segR, ix, upd, up1, mapC_rows, mapC_gone, pushC_rows, pushC_gone, pullP, pullV, pullSS, pullD, pullT, pullF, pushP, pushV, pushSS, pushD, pushT, pushF, pullD16, pushD16, LJ, noT, rowS, cL, encLTs_pull, encLTs_push, encLTs_len, mapC_clo, pushC_clo, pull_U, push_U, prP, prV, prSS, prD, hkx, hx, toA, hk1, h0, h1, h5, h10, h12, h13, h14, h15]
            · have hx : popJ t = toB t (hearT t.b m.port m.d) q' := by unfold popJ; rw [hq']; simp only [hto, show (1 : Int) ≠ 0 by decide, if_false]
              have cA := c_HearT t.b hGk.b.ok m.port (by omega) m.d ⟨ha0, ha1⟩
              rw [hGk.b.noT] at cA
              have sz := (fr_hear (n := 6) t.b m.port m.d hGk.b.len).sz
              rw [hGk.b.sz] at sz
              unfold PostS at cA
              generalize hearT t.b m.port m.d = b at *
              have e1 := c_sendF 1 b.told b.fl q' (by have := szA_t b; omega) (by omega)
              have hcL : ∀ l, cL l = .rows true 18 (encLTs l) := fun _ => rfl
              have hcP := True.intro
              repeat' first
                | with_reducible rfl
                | simp only [hcP, rowS, hcL, hcons, encLT, encPD, encLTs_len, hpos, hpos2, hle, htk, hbg, hto, q5, List.length_cons, h0, h1, h5, h10, h12, h13, h14, h15, mapC_rows, mapC_gone, pushC_rows, pushC_gone, pullP, pullV, pullSS, pullD, pullT, pullF, pushP, pushV, pushSS, pushD, pushT, pushF, pullD16, pushD16, RS_, FB_, segR, ST_, seval, ne_eq, bne, forall_const, implies_true, TY_, WLS]
                | (with_reducible refine drawK_id (id := 28) ?_); refine drawK_of 8 hmix (by kernel_rfl) ?_
                | (with_reducible refine drawK_id ?_); refine drawK_auto hmix (by kernel_rfl) ?_
                | (with_reducible refine draw_fin ?_ ?_); · kernel_rfl
                | (with_reducible refine draw_id ?_); kernel_rfl
                | ((with_reducible refine callD_id (f := 10) ?_); refine callD_new (Hw' := []) (Nw := [cP b.ps, cV b.vs, cS b.ss, cD b.ds, cT b.told, cF b.fl]) [7, 8, 9, 10] [] (FunW_eq cA) (by simp [pullHW, roC_rows, roP, roV, roSS, roD, roT, roF, roC_rP, roC_rV, roC_rS, roC_rD]) rfl rfl (by decide) (by simp [cP, cV, cS, cD]) (by simp [pullI, pullS, ix, rowS, encPD]) (by simp) ?_)
                | ((with_reducible refine callK_id (f := 9) ?_); refine callK_funW [21, 22] [11, 16] e1 (by simp [pullHW, pullS, ix, pullI, encTEs, encLTs, pull_LT, push_LT, cL, rT, rF, roC_rows, roP, roV, roSS, roD, roT, roF, roC_rP, roC_rV, roC_rS, roC_rD, mapC_rows, mapC_gone, pushC_rows, pushC_gone, pullP, pullV, pullSS, pullD, pullT, pullF, pushP, pushV, pushSS, pushD, pushT, pushF, pullD16, pushD16]) rfl rfl (by decide) (by simp [cT, cF, cL]) (by simp [pullI, pullS, ix]) ?_; rintro r Hn ⟨rfl, rfl⟩ -; clear hcP)
                | (with_reducible refine And.intro ?_ ?_; · omega)
              repeat' first
                | with_reducible rfl
                | simp only [rowS, hto, pullL, pushL, mapC_clo, pushC_clo, mapC_rows, mapC_gone, pushC_rows, pushC_gone, pullP, pullV, pullSS, pullD, pullT, pullF, pushP, pushV, pushSS, pushD, pushT, pushF, pullD16, pushD16, h0, h1, h5, h10, h12, h13, h14, h15, RS_, FB_, segR, ST_, seval, ne_eq, bne, forall_const, implies_true, TY_, WLS]
                | (with_reducible refine drawK_id ?_); refine drawK_auto hmix (by kernel_rfl) ?_
                | (with_reducible refine draw_fin ?_ ?_); · kernel_rfl
                | (with_reducible refine draw_id ?_); kernel_rfl
                | (with_reducible refine And.intro ?_ ?_; · omega)
              refine ⟨5000 - (k + 1), _, _, by omega, Wk.gc [0, 1, 2, 3, 4, 5, 6, 17, 18, 19, 20, 11, 25, 13] rfl (by decide), k + 1, rfl, by omega, ⟨?_, ?_, ?_, ?_, ?_, ?_, ?_⟩, ?_, ?_⟩ <;> simp [Function.comp_def, get_gcT, get, put, gcI, pullI, push1, pushI, pullS, pushS, gcH, patL, canL, canH, canTL, canT, segR, ix, upd, up1, mapC_rows, mapC_gone, pushC_rows, pushC_gone, pullP, pullV, pullSS, pullD, pullT, pullF, pushP, pushV, pushSS, pushD, pushT, pushF, pullD16, pushD16, LJ, noT, rowS, cL, encLTs_pull, encLTs_push, encLTs_len, mapC_clo, pushC_clo, pull_U, push_U, prP, prV, prSS, prD, hkx, hx, toB, hk1, h0, h1, h5, h10, h12, h13, h14, h15]
        · have q5 : decide ((k : Int) < 5000) = false := decide_eq_false (by omega)
          have hk6 : k = 5000 := by omega
          subst hk6
          generalize drainJ s 5000 = t at *
          unfold LJ
          repeat' first
            | with_reducible rfl
            | simp only [rowS, encLTs_len, List.length_nil, q5, h0, h1, h5, h10, h12, h13, h14, h15, RS_, FB_, segR, ST_, seval, ne_eq, bne, forall_const, implies_true, TY_, WLS]
            | (with_reducible refine drawK_id ?_); refine drawK_auto hmix (by kernel_rfl) ?_
            | (with_reducible refine draw_fin ?_ ?_); · kernel_rfl
            | (with_reducible refine draw_id ?_); kernel_rfl
            | (with_reducible refine And.intro ?_ ?_; · omega)
          refine loopK_key (H2 := LJ cs acts t) (Wk.gc [0, 1, 2, 3, 4, 5, 6, 7, 8, 9, 10, 11, 12, 13] rfl (by decide)) ?_ ?_
          · simp [Function.comp_def, get_gcT, get, put, gcI, pullI, push1, pushI, pullS, pushS, gcH, patL, canL, canH, canTL, canT, segR, ix, upd, up1, mapC_rows, mapC_gone, pushC_rows, pushC_gone, pullP, pullV, pullSS, pullD, pullT, pullF, pushP, pushV, pushSS, pushD, pushT, pushF, pullD16, pushD16, LJ, noT, rowS, cL, encLTs_pull, encLTs_push, encLTs_len, mapC_clo, pushC_clo, pull_U, push_U, prP, prV, prSS, prD, h0, h1, h5, h10, h12, h13, h14]
          · refine key _ ⟨?_, ?_, ?_, ?_, ?_, ?_, ?_⟩ ?_ <;> simp [Function.comp_def, get_gcT, get, put, gcI, pullI, push1, pushI, pullS, pushS, gcH, patL, canL, canH, canTL, canT, segR, ix, upd, up1, mapC_rows, mapC_gone, pushC_rows, pushC_gone, pullP, pullV, pullSS, pullD, pullT, pullF, pushP, pushV, pushSS, pushD, pushT, pushF, pullD16, pushD16, LJ, noT, rowS, cL, encLTs_pull, encLTs_push, encLTs_len, mapC_clo, pushC_clo, pull_U, push_U, prP, prV, prSS, prD, h0, h1, h5, h10, h12, h13, h14]
      case key =>
        intro tm hG7 h19
        obtain ⟨h0, h1, h5, h10, h12, h13, h14⟩ := hG7
        have hGd := good_drain hGr 5000
        generalize drainJ s 5000 = t at *
        refine loopK_wk (by kernel_rfl) (I_t cs acts i r t) 2 ⟨_, _, Wk.gc [0, 1, 2, 3, 4, 5, 6, 7, 8, 9, 10, 11, 12, 13] rfl (by decide), 0, by omega, by omega, ⟨?_, ?_, ?_, ?_, ?_, ?_, ?_⟩, ?_, ?_⟩ ?_
        · simp [Function.comp_def, get_gcT, get, put, gcI, pullI, push1, pushI, pullS, pushS, gcH, patL, canL, canH, canTL, canT, segR, ix, upd, up1, mapC_rows, mapC_gone, pushC_rows, pushC_gone, pullP, pullV, pullSS, pullD, pullT, pullF, pushP, pushV, pushSS, pushD, pushT, pushF, pullD16, pushD16, LJ, noT, rowS, cL, encLTs_pull, encLTs_push, encLTs_len, mapC_clo, pushC_clo, pull_U, push_U, prP, prV, prSS, prD, tickJ, h19, h0, h1, h5, h10, h12, h13, h14]
        · simp [Function.comp_def, get_gcT, get, put, gcI, pullI, push1, pushI, pullS, pushS, gcH, patL, canL, canH, canTL, canT, segR, ix, upd, up1, mapC_rows, mapC_gone, pushC_rows, pushC_gone, pullP, pullV, pullSS, pullD, pullT, pullF, pushP, pushV, pushSS, pushD, pushT, pushF, pullD16, pushD16, LJ, noT, rowS, cL, encLTs_pull, encLTs_push, encLTs_len, mapC_clo, pushC_clo, pull_U, push_U, prP, prV, prSS, prD, tickJ, h19, h0, h1, h5, h10, h12, h13, h14]
        · simp [Function.comp_def, get_gcT, get, put, gcI, pullI, push1, pushI, pullS, pushS, gcH, patL, canL, canH, canTL, canT, segR, ix, upd, up1, mapC_rows, mapC_gone, pushC_rows, pushC_gone, pullP, pullV, pullSS, pullD, pullT, pullF, pushP, pushV, pushSS, pushD, pushT, pushF, pullD16, pushD16, LJ, noT, rowS, cL, encLTs_pull, encLTs_push, encLTs_len, mapC_clo, pushC_clo, pull_U, push_U, prP, prV, prSS, prD, tickJ, h19, h0, h1, h5, h10, h12, h13, h14]
        · simp [Function.comp_def, get_gcT, get, put, gcI, pullI, push1, pushI, pullS, pushS, gcH, patL, canL, canH, canTL, canT, segR, ix, upd, up1, mapC_rows, mapC_gone, pushC_rows, pushC_gone, pullP, pullV, pullSS, pullD, pullT, pullF, pushP, pushV, pushSS, pushD, pushT, pushF, pullD16, pushD16, LJ, noT, rowS, cL, encLTs_pull, encLTs_push, encLTs_len, mapC_clo, pushC_clo, pull_U, push_U, prP, prV, prSS, prD, tickJ, h19, h0, h1, h5, h10, h12, h13, h14]
        · simp [Function.comp_def, get_gcT, get, put, gcI, pullI, push1, pushI, pullS, pushS, gcH, patL, canL, canH, canTL, canT, segR, ix, upd, up1, mapC_rows, mapC_gone, pushC_rows, pushC_gone, pullP, pullV, pullSS, pullD, pullT, pullF, pushP, pushV, pushSS, pushD, pushT, pushF, pullD16, pushD16, LJ, noT, rowS, cL, encLTs_pull, encLTs_push, encLTs_len, mapC_clo, pushC_clo, pull_U, push_U, prP, prV, prSS, prD, tickJ, h19, h0, h1, h5, h10, h12, h13, h14]
        · simp [Function.comp_def, get_gcT, get, put, gcI, pullI, push1, pushI, pullS, pushS, gcH, patL, canL, canH, canTL, canT, segR, ix, upd, up1, mapC_rows, mapC_gone, pushC_rows, pushC_gone, pullP, pullV, pullSS, pullD, pullT, pullF, pushP, pushV, pushSS, pushD, pushT, pushF, pullD16, pushD16, LJ, noT, rowS, cL, encLTs_pull, encLTs_push, encLTs_len, mapC_clo, pushC_clo, pull_U, push_U, prP, prV, prSS, prD, tickJ, h19, h0, h1, h5, h10, h12, h13, h14]
        · simp [Function.comp_def, get_gcT, get, put, gcI, pullI, push1, pushI, pullS, pushS, gcH, patL, canL, canH, canTL, canT, segR, ix, upd, up1, mapC_rows, mapC_gone, pushC_rows, pushC_gone, pullP, pullV, pullSS, pullD, pullT, pullF, pushP, pushV, pushSS, pushD, pushT, pushF, pullD16, pushD16, LJ, noT, rowS, cL, encLTs_pull, encLTs_push, encLTs_len, mapC_clo, pushC_clo, pull_U, push_U, prP, prV, prSS, prD, tickJ, h19, h0, h1, h5, h10, h12, h13, h14]
        · simp [Function.comp_def, get_gcT, get, put, gcI, pullI, push1, pushI, pullS, pushS, gcH, patL, canL, canH, canTL, canT, segR, ix, upd, up1, mapC_rows, mapC_gone, pushC_rows, pushC_gone, pullP, pullV, pullSS, pullD, pullT, pullF, pushP, pushV, pushSS, pushD, pushT, pushF, pullD16, pushD16, LJ, noT, rowS, cL, encLTs_pull, encLTs_push, encLTs_len, mapC_clo, pushC_clo, pull_U, push_U, prP, prV, prSS, prD, tickJ, h19, h0, h1, h5, h10, h12, h13, h14]
        · simp [Function.comp_def, get_gcT, get, put, gcI, pullI, push1, pushI, pullS, pushS, gcH, patL, canL, canH, canTL, canT, segR, ix, upd, up1, mapC_rows, mapC_gone, pushC_rows, pushC_gone, pullP, pullV, pullSS, pullD, pullT, pullF, pushP, pushV, pushSS, pushD, pushT, pushF, pullD16, pushD16, LJ, noT, rowS, cL, encLTs_pull, encLTs_push, encLTs_len, mapC_clo, pushC_clo, pull_U, push_U, prP, prV, prSS, prD, tickJ, h19, h0, h1, h5, h10, h12, h13, h14]
        clear h0 h1 h5 h10 h12 h13 h14 h19
        rintro m tm H ⟨j, rfl, hj, ⟨h0, h1, h5, h10, h12, h13, h14⟩, h19, rfl⟩
        have hj3 : j = 0 ∨ j = 1 ∨ j = 2 := by omega
        rcases hj3 with rfl | rfl | rfl
        · have hz : tickJ acts r t 0 = t := by simp [tickJ]
          have hstep : tickJ acts r t 1 = if standN acts r 0 then t else toA t (tickA t.a) t.q := by simp [tickJ]
          have hGu := hGd
          rw [hz]
          have h19' : get tm 19 = .s (.raw (.int .i64 0)) := h19
          clear h19
          have hlq : t.q.length ≤ 100000000 := by have h := hGu.n; omega
          have cA := c_TickT t.a hGu.a.ok
          rw [hGu.a.noT] at cA
          have sz := (fr_tick (n := 6) t.a hGu.a.len).sz
          rw [hGu.a.sz] at sz
          unfold PostS at cA
          generalize tickA t.a = b at *
          have e1 := c_sendF 0 b.told b.fl t.q (by have := szA_t b; omega) (by omega)
          unfold LJ
          cases p1 : decide ((r : Int) < 20) with
          | false =>
            have hS : standN acts r 0 = false := by have := of_decide_eq_false p1; unfold standN; rw [decide_eq_false (by omega)]; rfl
            have hcP := True.intro
            repeat' first
              | with_reducible rfl
              | simp only [hcP, rowS, sU, List.length_map, p1, h0, h1, h5, h10, h12, h13, h14, h19', RS_, FB_, segR, ST_, seval, ne_eq, bne, forall_const, implies_true, TY_, WLS]
              | (with_reducible refine drawK_id ?_); refine drawK_auto hmix (by kernel_rfl) ?_
              | (with_reducible refine draw_fin ?_ ?_); · kernel_rfl
              | (with_reducible refine draw_id ?_); kernel_rfl
              | ((with_reducible refine callK_id (f := 11) ?_); refine callK_funW [3, 4, 5, 6] [] (cA) (by simp [pullHW, AH, AHo, HrS, rowA, rowS, pullS, ix, roC_rows, roP, roV, roSS, roD, roT, roF, roC_rP, roC_rV, roC_rS, roC_rD, mapC_rows, mapC_gone, pushC_rows, pushC_gone, pullP, pullV, pullSS, pullD, pullT, pullF, pushP, pushV, pushSS, pushD, pushT, pushF, pullD16, pushD16]) rfl rfl (by decide) (by simp [cP, cV, cS, cD, cT, cF]) (by simp [pullI, pullS, ix, rowS]) ?_; rintro r Hn ⟨rfl, rfl⟩ -; clear hcP)
              | (with_reducible refine And.intro ?_ ?_; · omega)
            have hcP := True.intro
            repeat' first
              | with_reducible rfl
              | simp only [hcP, rowS, pullL, pushL, mapC_clo, pushC_clo, mapC_rows, mapC_gone, pushC_rows, pushC_gone, pullP, pullV, pullSS, pullD, pullT, pullF, pushP, pushV, pushSS, pushD, pushT, pushF, pullD16, pushD16, h0, h1, h5, h10, h12, h13, h14, h19', RS_, FB_, segR, ST_, seval, ne_eq, bne, forall_const, implies_true, TY_, WLS]
              | (with_reducible refine drawK_id ?_); refine drawK_auto hmix (by kernel_rfl) ?_
              | (with_reducible refine draw_fin ?_ ?_); · kernel_rfl
              | (with_reducible refine draw_id ?_); kernel_rfl
              | ((with_reducible refine callK_id (f := 9) ?_); refine callK_funW [18, 19] [11, 12] e1 (by simp [pullHW, pullS, ix, pullI, encTEs, encLTs, pull_LT, push_LT, cL, rT, rF, roC_rows, roP, roV, roSS, roD, roT, roF, roC_rP, roC_rV, roC_rS, roC_rD, mapC_rows, mapC_gone, pushC_rows, pushC_gone, pullP, pullV, pullSS, pullD, pullT, pullF, pushP, pushV, pushSS, pushD, pushT, pushF, pullD16, pushD16]) rfl rfl (by decide) (by simp [cT, cF, cL]) (by simp [pullI, pullS, ix]) ?_; rintro r Hn ⟨rfl, rfl⟩ -; clear hcP)
              | (with_reducible refine And.intro ?_ ?_; · omega)
            repeat' first
              | with_reducible rfl
              | simp only [rowS, pullL, pushL, mapC_clo, pushC_clo, mapC_rows, mapC_gone, pushC_rows, pushC_gone, pullP, pullV, pullSS, pullD, pullT, pullF, pushP, pushV, pushSS, pushD, pushT, pushF, pullD16, pushD16, h0, h1, h5, h10, h12, h13, h14, h19', RS_, FB_, segR, ST_, seval, ne_eq, bne, forall_const, implies_true, TY_, WLS]
              | (with_reducible refine drawK_id ?_); refine drawK_auto hmix (by kernel_rfl) ?_
              | (with_reducible refine draw_fin ?_ ?_); · kernel_rfl
              | (with_reducible refine draw_id ?_); kernel_rfl
              | (with_reducible refine And.intro ?_ ?_; · omega)
            refine ⟨2 - (0 + 1), _, _, by omega, Wk.gc [0, 1, 2, 14, 15, 16, 17, 7, 8, 9, 10, 11, 22, 13] rfl (by decide), 0 + 1, rfl, by omega, ⟨?_, ?_, ?_, ?_, ?_, ?_, ?_⟩, ?_, ?_⟩ <;> simp [Function.comp_def, get_gcT, get, put, gcI, pullI, push1, pushI, pullS, pushS, gcH, patL, canL, canH, canTL, canT, segR, ix, upd, up1, mapC_rows, mapC_gone, pushC_rows, pushC_gone, pullP, pullV, pullSS, pullD, pullT, pullF, pushP, pushV, pushSS, pushD, pushT, pushF, pullD16, pushD16, LJ, noT, rowS, cL, encLTs_pull, encLTs_push, encLTs_len, mapC_clo, pushC_clo, pull_U, push_U, prP, prV, prSS, prD, hstep, hS, toA, h0, h1, h5, h10, h12, h13, h14, h19']
          | true =>
          cases p2 : decide ((r : Int) < (acts.length : Int)) with
          | false =>
            have hS : standN acts r 0 = false := by have := of_decide_eq_false p2; unfold standN; rw [List.getElem?_eq_none (by omega)]; simp
            have hcP := True.intro
            repeat' first
              | with_reducible rfl
              | simp only [hcP, rowS, sU, List.length_map, p1, p2, h0, h1, h5, h10, h12, h13, h14, h19', RS_, FB_, segR, ST_, seval, ne_eq, bne, forall_const, implies_true, TY_, WLS]
              | (with_reducible refine drawK_id ?_); refine drawK_auto hmix (by kernel_rfl) ?_
              | (with_reducible refine draw_fin ?_ ?_); · kernel_rfl
              | (with_reducible refine draw_id ?_); kernel_rfl
              | ((with_reducible refine callK_id (f := 11) ?_); refine callK_funW [3, 4, 5, 6] [] (cA) (by simp [pullHW, AH, AHo, HrS, rowA, rowS, pullS, ix, roC_rows, roP, roV, roSS, roD, roT, roF, roC_rP, roC_rV, roC_rS, roC_rD, mapC_rows, mapC_gone, pushC_rows, pushC_gone, pullP, pullV, pullSS, pullD, pullT, pullF, pushP, pushV, pushSS, pushD, pushT, pushF, pullD16, pushD16]) rfl rfl (by decide) (by simp [cP, cV, cS, cD, cT, cF]) (by simp [pullI, pullS, ix, rowS]) ?_; rintro r Hn ⟨rfl, rfl⟩ -; clear hcP)
              | (with_reducible refine And.intro ?_ ?_; · omega)
            have hcP := True.intro
            repeat' first
              | with_reducible rfl
              | simp only [hcP, rowS, pullL, pushL, mapC_clo, pushC_clo, mapC_rows, mapC_gone, pushC_rows, pushC_gone, pullP, pullV, pullSS, pullD, pullT, pullF, pushP, pushV, pushSS, pushD, pushT, pushF, pullD16, pushD16, h0, h1, h5, h10, h12, h13, h14, h19', RS_, FB_, segR, ST_, seval, ne_eq, bne, forall_const, implies_true, TY_, WLS]
              | (with_reducible refine drawK_id ?_); refine drawK_auto hmix (by kernel_rfl) ?_
              | (with_reducible refine draw_fin ?_ ?_); · kernel_rfl
              | (with_reducible refine draw_id ?_); kernel_rfl
              | ((with_reducible refine callK_id (f := 9) ?_); refine callK_funW [18, 19] [11, 12] e1 (by simp [pullHW, pullS, ix, pullI, encTEs, encLTs, pull_LT, push_LT, cL, rT, rF, roC_rows, roP, roV, roSS, roD, roT, roF, roC_rP, roC_rV, roC_rS, roC_rD, mapC_rows, mapC_gone, pushC_rows, pushC_gone, pullP, pullV, pullSS, pullD, pullT, pullF, pushP, pushV, pushSS, pushD, pushT, pushF, pullD16, pushD16]) rfl rfl (by decide) (by simp [cT, cF, cL]) (by simp [pullI, pullS, ix]) ?_; rintro r Hn ⟨rfl, rfl⟩ -; clear hcP)
              | (with_reducible refine And.intro ?_ ?_; · omega)
            repeat' first
              | with_reducible rfl
              | simp only [rowS, pullL, pushL, mapC_clo, pushC_clo, mapC_rows, mapC_gone, pushC_rows, pushC_gone, pullP, pullV, pullSS, pullD, pullT, pullF, pushP, pushV, pushSS, pushD, pushT, pushF, pullD16, pushD16, h0, h1, h5, h10, h12, h13, h14, h19', RS_, FB_, segR, ST_, seval, ne_eq, bne, forall_const, implies_true, TY_, WLS]
              | (with_reducible refine drawK_id ?_); refine drawK_auto hmix (by kernel_rfl) ?_
              | (with_reducible refine draw_fin ?_ ?_); · kernel_rfl
              | (with_reducible refine draw_id ?_); kernel_rfl
              | (with_reducible refine And.intro ?_ ?_; · omega)
            refine ⟨2 - (0 + 1), _, _, by omega, Wk.gc [0, 1, 2, 14, 15, 16, 17, 7, 8, 9, 10, 11, 22, 13] rfl (by decide), 0 + 1, rfl, by omega, ⟨?_, ?_, ?_, ?_, ?_, ?_, ?_⟩, ?_, ?_⟩ <;> simp [Function.comp_def, get_gcT, get, put, gcI, pullI, push1, pushI, pullS, pushS, gcH, patL, canL, canH, canTL, canT, segR, ix, upd, up1, mapC_rows, mapC_gone, pushC_rows, pushC_gone, pullP, pullV, pullSS, pullD, pullT, pullF, pushP, pushV, pushSS, pushD, pushT, pushF, pullD16, pushD16, LJ, noT, rowS, cL, encLTs_pull, encLTs_push, encLTs_len, mapC_clo, pushC_clo, pull_U, push_U, prP, prV, prSS, prD, hstep, hS, toA, h0, h1, h5, h10, h12, h13, h14, h19']
          | true =>
          have hr0 : (0 : Int) ≤ (r : Int) := by omega
          have hrN : (r : Int) < (acts.length : Int) := of_decide_eq_true p2
          obtain ⟨v, hv⟩ : ∃ v, acts[r]? = some v := ⟨_, List.getElem?_eq_getElem (by omega)⟩
          have hvr : (acts.map sU)[r]? = some (sU v) := by rw [List.getElem?_map, hv]; rfl
          have hd20 : decide (r < 20) = true := by have := of_decide_eq_true p1; exact decide_eq_true (by omega)
          cases p3 : (IntKind.i64.wrap (Int.tmod v 3) == 0) with
          | false =>
            have hS : standN acts r 0 = false := by unfold standN; rw [hd20, hv]; exact p3
            have hcP := True.intro
            repeat' first
              | with_reducible rfl
              | simp only [hcP, rowS, sU, List.length_map, p1, p2, p3, hvr, hr0, hrN, Int.toNat_natCast, h0, h1, h5, h10, h12, h13, h14, h19', RS_, FB_, segR, ST_, seval, ne_eq, bne, forall_const, implies_true, TY_, WLS]
              | (with_reducible refine drawK_id ?_); refine drawK_auto hmix (by kernel_rfl) ?_
              | (with_reducible refine draw_fin ?_ ?_); · kernel_rfl
              | (with_reducible refine draw_id ?_); kernel_rfl
              | ((with_reducible refine callK_id (f := 11) ?_); refine callK_funW [3, 4, 5, 6] [] (cA) (by simp [pullHW, AH, AHo, HrS, rowA, rowS, pullS, ix, roC_rows, roP, roV, roSS, roD, roT, roF, roC_rP, roC_rV, roC_rS, roC_rD, mapC_rows, mapC_gone, pushC_rows, pushC_gone, pullP, pullV, pullSS, pullD, pullT, pullF, pushP, pushV, pushSS, pushD, pushT, pushF, pullD16, pushD16]) rfl rfl (by decide) (by simp [cP, cV, cS, cD, cT, cF]) (by simp [pullI, pullS, ix, rowS]) ?_; rintro r Hn ⟨rfl, rfl⟩ -; clear hcP)
              | (with_reducible refine And.intro ?_ ?_; · omega)
            have hcP := True.intro
            repeat' first
              | with_reducible rfl
              | simp only [hcP, rowS, pullL, pushL, mapC_clo, pushC_clo, mapC_rows, mapC_gone, pushC_rows, pushC_gone, pullP, pullV, pullSS, pullD, pullT, pullF, pushP, pushV, pushSS, pushD, pushT, pushF, pullD16, pushD16, h0, h1, h5, h10, h12, h13, h14, h19', RS_, FB_, segR, ST_, seval, ne_eq, bne, forall_const, implies_true, TY_, WLS]
              | (with_reducible refine drawK_id ?_); refine drawK_auto hmix (by kernel_rfl) ?_
              | (with_reducible refine draw_fin ?_ ?_); · kernel_rfl
              | (with_reducible refine draw_id ?_); kernel_rfl
              | ((with_reducible refine callK_id (f := 9) ?_); refine callK_funW [18, 19] [11, 12] e1 (by simp [pullHW, pullS, ix, pullI, encTEs, encLTs, pull_LT, push_LT, cL, rT, rF, roC_rows, roP, roV, roSS, roD, roT, roF, roC_rP, roC_rV, roC_rS, roC_rD, mapC_rows, mapC_gone, pushC_rows, pushC_gone, pullP, pullV, pullSS, pullD, pullT, pullF, pushP, pushV, pushSS, pushD, pushT, pushF, pullD16, pushD16]) rfl rfl (by decide) (by simp [cT, cF, cL]) (by simp [pullI, pullS, ix]) ?_; rintro r Hn ⟨rfl, rfl⟩ -; clear hcP)
              | (with_reducible refine And.intro ?_ ?_; · omega)
            repeat' first
              | with_reducible rfl
              | simp only [rowS, pullL, pushL, mapC_clo, pushC_clo, mapC_rows, mapC_gone, pushC_rows, pushC_gone, pullP, pullV, pullSS, pullD, pullT, pullF, pushP, pushV, pushSS, pushD, pushT, pushF, pullD16, pushD16, h0, h1, h5, h10, h12, h13, h14, h19', RS_, FB_, segR, ST_, seval, ne_eq, bne, forall_const, implies_true, TY_, WLS]
              | (with_reducible refine drawK_id ?_); refine drawK_auto hmix (by kernel_rfl) ?_
              | (with_reducible refine draw_fin ?_ ?_); · kernel_rfl
              | (with_reducible refine draw_id ?_); kernel_rfl
              | (with_reducible refine And.intro ?_ ?_; · omega)
            refine ⟨2 - (0 + 1), _, _, by omega, Wk.gc [0, 1, 2, 14, 15, 16, 17, 7, 8, 9, 10, 11, 22, 13] rfl (by decide), 0 + 1, rfl, by omega, ⟨?_, ?_, ?_, ?_, ?_, ?_, ?_⟩, ?_, ?_⟩ <;> simp [Function.comp_def, get_gcT, get, put, gcI, pullI, push1, pushI, pullS, pushS, gcH, patL, canL, canH, canTL, canT, segR, ix, upd, up1, mapC_rows, mapC_gone, pushC_rows, pushC_gone, pullP, pullV, pullSS, pullD, pullT, pullF, pushP, pushV, pushSS, pushD, pushT, pushF, pullD16, pushD16, LJ, noT, rowS, cL, encLTs_pull, encLTs_push, encLTs_len, mapC_clo, pushC_clo, pull_U, push_U, prP, prV, prSS, prD, hstep, hS, toA, h0, h1, h5, h10, h12, h13, h14, h19']
          | true =>
            have hS : standN acts r 0 = true := by unfold standN; rw [hd20, hv]; exact p3
            repeat' first
              | with_reducible rfl
              | simp only [rowS, sU, List.length_map, p1, p2, p3, hvr, hr0, hrN, Int.toNat_natCast, h0, h1, h5, h10, h12, h13, h14, h19', RS_, FB_, segR, ST_, seval, ne_eq, bne, forall_const, implies_true, TY_, WLS]
              | (with_reducible refine drawK_id ?_); refine drawK_auto hmix (by kernel_rfl) ?_
              | (with_reducible refine draw_fin ?_ ?_); · kernel_rfl
              | (with_reducible refine draw_id ?_); kernel_rfl
              | (with_reducible refine And.intro ?_ ?_; · omega)
            refine ⟨2 - (0 + 1), _, _, by omega, Wk.gc [0, 1, 2, 3, 4, 5, 6, 7, 8, 9, 10, 11, 12, 13] rfl (by decide), 0 + 1, rfl, by omega, ⟨?_, ?_, ?_, ?_, ?_, ?_, ?_⟩, ?_, ?_⟩ <;> simp [Function.comp_def, get_gcT, get, put, gcI, pullI, push1, pushI, pullS, pushS, gcH, patL, canL, canH, canTL, canT, segR, ix, upd, up1, mapC_rows, mapC_gone, pushC_rows, pushC_gone, pullP, pullV, pullSS, pullD, pullT, pullF, pushP, pushV, pushSS, pushD, pushT, pushF, pullD16, pushD16, LJ, noT, rowS, cL, encLTs_pull, encLTs_push, encLTs_len, mapC_clo, pushC_clo, pull_U, push_U, prP, prV, prSS, prD, hstep, hS, hr0, h0, h1, h5, h10, h12, h13, h14, h19']
        · have hstep : tickJ acts r t 2 = if standN acts r 1 then tickJ acts r t 1 else toB (tickJ acts r t 1) (tickA (tickJ acts r t 1).b) (tickJ acts r t 1).q := by simp [tickJ]
          have hGu := good_tick acts r hGd 1
          generalize tickJ acts r t 1 = u at *
          have h19' : get tm 19 = .s (.raw (.int .i64 1)) := h19
          clear h19
          have hlq : u.q.length ≤ 100000000 := by have h := hGu.n; omega
          have cA := c_TickT u.b hGu.b.ok
          rw [hGu.b.noT] at cA
          have sz := (fr_tick (n := 6) u.b hGu.b.len).sz
          rw [hGu.b.sz] at sz
          unfold PostS at cA
          generalize tickA u.b = b at *
          have e1 := c_sendF 1 b.told b.fl u.q (by have := szA_t b; omega) (by omega)
          unfold LJ
          cases p1 : decide ((r : Int) < 20) with
          | false =>
            have hS : standN acts r 1 = false := by have := of_decide_eq_false p1; unfold standN; rw [decide_eq_false (by omega)]; rfl
            have hcP := True.intro
            repeat' first
              | with_reducible rfl
              | simp only [hcP, rowS, sU, List.length_map, p1, h0, h1, h5, h10, h12, h13, h14, h19', RS_, FB_, segR, ST_, seval, ne_eq, bne, forall_const, implies_true, TY_, WLS]
              | (with_reducible refine drawK_id ?_); refine drawK_auto hmix (by kernel_rfl) ?_
              | (with_reducible refine draw_fin ?_ ?_); · kernel_rfl
              | (with_reducible refine draw_id ?_); kernel_rfl
              | ((with_reducible refine callK_id (f := 11) ?_); refine callK_funW [7, 8, 9, 10] [] (cA) (by simp [pullHW, AH, AHo, HrS, rowA, rowS, pullS, ix, roC_rows, roP, roV, roSS, roD, roT, roF, roC_rP, roC_rV, roC_rS, roC_rD, mapC_rows, mapC_gone, pushC_rows, pushC_gone, pullP, pullV, pullSS, pullD, pullT, pullF, pushP, pushV, pushSS, pushD, pushT, pushF, pullD16, pushD16]) rfl rfl (by decide) (by simp [cP, cV, cS, cD, cT, cF]) (by simp [pullI, pullS, ix, rowS]) ?_; rintro r Hn ⟨rfl, rfl⟩ -; clear hcP)
              | (with_reducible refine And.intro ?_ ?_; · omega)
            have hcP := True.intro
            repeat' first
              | with_reducible rfl
              | simp only [hcP, rowS, pullL, pushL, mapC_clo, pushC_clo, mapC_rows, mapC_gone, pushC_rows, pushC_gone, pullP, pullV, pullSS, pullD, pullT, pullF, pushP, pushV, pushSS, pushD, pushT, pushF, pullD16, pushD16, h0, h1, h5, h10, h12, h13, h14, h19', RS_, FB_, segR, ST_, seval, ne_eq, bne, forall_const, implies_true, TY_, WLS]
              | (with_reducible refine drawK_id ?_); refine drawK_auto hmix (by kernel_rfl) ?_
              | (with_reducible refine draw_fin ?_ ?_); · kernel_rfl
              | (with_reducible refine draw_id ?_); kernel_rfl
              | ((with_reducible refine callK_id (f := 9) ?_); refine callK_funW [18, 19] [11, 12] e1 (by simp [pullHW, pullS, ix, pullI, encTEs, encLTs, pull_LT, push_LT, cL, rT, rF, roC_rows, roP, roV, roSS, roD, roT, roF, roC_rP, roC_rV, roC_rS, roC_rD, mapC_rows, mapC_gone, pushC_rows, pushC_gone, pullP, pullV, pullSS, pullD, pullT, pullF, pushP, pushV, pushSS, pushD, pushT, pushF, pullD16, pushD16]) rfl rfl (by decide) (by simp [cT, cF, cL]) (by simp [pullI, pullS, ix]) ?_; rintro r Hn ⟨rfl, rfl⟩ -; clear hcP)
              | (with_reducible refine And.intro ?_ ?_; · omega)
            repeat' first
              | with_reducible rfl
              | simp only [rowS, pullL, pushL, mapC_clo, pushC_clo, mapC_rows, mapC_gone, pushC_rows, pushC_gone, pullP, pullV, pullSS, pullD, pullT, pullF, pushP, pushV, pushSS, pushD, pushT, pushF, pullD16, pushD16, h0, h1, h5, h10, h12, h13, h14, h19', RS_, FB_, segR, ST_, seval, ne_eq, bne, forall_const, implies_true, TY_, WLS]
              | (with_reducible refine drawK_id ?_); refine drawK_auto hmix (by kernel_rfl) ?_
              | (with_reducible refine draw_fin ?_ ?_); · kernel_rfl
              | (with_reducible refine draw_id ?_); kernel_rfl
              | (with_reducible refine And.intro ?_ ?_; · omega)
            refine ⟨2 - (1 + 1), _, _, by omega, Wk.gc [0, 1, 2, 3, 4, 5, 6, 14, 15, 16, 17, 11, 22, 13] rfl (by decide), 1 + 1, rfl, by omega, ⟨?_, ?_, ?_, ?_, ?_, ?_, ?_⟩, ?_, ?_⟩ <;> simp [Function.comp_def, get_gcT, get, put, gcI, pullI, push1, pushI, pullS, pushS, gcH, patL, canL, canH, canTL, canT, segR, ix, upd, up1, mapC_rows, mapC_gone, pushC_rows, pushC_gone, pullP, pullV, pullSS, pullD, pullT, pullF, pushP, pushV, pushSS, pushD, pushT, pushF, pullD16, pushD16, LJ, noT, rowS, cL, encLTs_pull, encLTs_push, encLTs_len, mapC_clo, pushC_clo, pull_U, push_U, prP, prV, prSS, prD, hstep, hS, toB, h0, h1, h5, h10, h12, h13, h14, h19']
          | true =>
          cases p2 : decide ((r : Int) < (acts.length : Int)) with
          | false =>
            have hS : standN acts r 1 = false := by have := of_decide_eq_false p2; unfold standN; rw [List.getElem?_eq_none (by omega)]; simp
            have hcP := True.intro
            repeat' first
              | with_reducible rfl
              | simp only [hcP, rowS, sU, List.length_map, p1, p2, h0, h1, h5, h10, h12, h13, h14, h19', RS_, FB_, segR, ST_, seval, ne_eq, bne, forall_const, implies_true, TY_, WLS]
              | (with_reducible refine drawK_id ?_); refine drawK_auto hmix (by kernel_rfl) ?_
              | (with_reducible refine draw_fin ?_ ?_); · kernel_rfl
              | (with_reducible refine draw_id ?_); kernel_rfl
              | ((with_reducible refine callK_id (f := 11) ?_); refine callK_funW [7, 8, 9, 10] [] (cA) (by simp [pullHW, AH, AHo, HrS, rowA, rowS, pullS, ix, roC_rows, roP, roV, roSS, roD, roT, roF, roC_rP, roC_rV, roC_rS, roC_rD, mapC_rows, mapC_gone, pushC_rows, pushC_gone, pullP, pullV, pullSS, pullD, pullT, pullF, pushP, pushV, pushSS, pushD, pushT, pushF, pullD16, pushD16]) rfl rfl (by decide) (by simp [cP, cV, cS, cD, cT, cF]) (by simp [pullI, pullS, ix, rowS]) ?_; rintro r Hn ⟨rfl, rfl⟩ -; clear hcP)
              | (with_reducible refine And.intro ?_ ?_; · omega)
            have hcP := True.intro
            repeat' first
              | with_reducible rfl
              | simp only [hcP, rowS, pullL, pushL, mapC_clo, pushC_clo, mapC_rows, mapC_gone, pushC_rows, pushC_gone, pullP, pullV, pullSS, pullD, pullT, pullF, pushP, pushV, pushSS, pushD, pushT, pushF, pullD16, pushD16, h0, h1, h5, h10, h12, h13, h14, h19', RS_, FB_, segR, ST_, seval, ne_eq, bne, forall_const, implies_true, TY_, WLS]
              | (with_reducible refine drawK_id ?_); refine drawK_auto hmix (by kernel_rfl) ?_
              | (with_reducible refine draw_fin ?_ ?_); · kernel_rfl
              | (with_reducible refine draw_id ?_); kernel_rfl
              | ((with_reducible refine callK_id (f := 9) ?_); refine callK_funW [18, 19] [11, 12] e1 (by simp [pullHW, pullS, ix, pullI, encTEs, encLTs, pull_LT, push_LT, cL, rT, rF, roC_rows, roP, roV, roSS, roD, roT, roF, roC_rP, roC_rV, roC_rS, roC_rD, mapC_rows, mapC_gone, pushC_rows, pushC_gone, pullP, pullV, pullSS, pullD, pullT, pullF, pushP, pushV, pushSS, pushD, pushT, pushF, pullD16, pushD16]) rfl rfl (by decide) (by simp [cT, cF, cL]) (by simp [pullI, pullS, ix]) ?_; rintro r Hn ⟨rfl, rfl⟩ -; clear hcP)
              | (with_reducible refine And.intro ?_ ?_; · omega)
            repeat' first
              | with_reducible rfl
              | simp only [rowS, pullL, pushL, mapC_clo, pushC_clo, mapC_rows, mapC_gone, pushC_rows, pushC_gone, pullP, pullV, pullSS, pullD, pullT, pullF, pushP, pushV, pushSS, pushD, pushT, pushF, pullD16, pushD16, h0, h1, h5, h10, h12, h13, h14, h19', RS_, FB_, segR, ST_, seval, ne_eq, bne, forall_const, implies_true, TY_, WLS]
              | (with_reducible refine drawK_id ?_); refine drawK_auto hmix (by kernel_rfl) ?_
              | (with_reducible refine draw_fin ?_ ?_); · kernel_rfl
              | (with_reducible refine draw_id ?_); kernel_rfl
              | (with_reducible refine And.intro ?_ ?_; · omega)
            refine ⟨2 - (1 + 1), _, _, by omega, Wk.gc [0, 1, 2, 3, 4, 5, 6, 14, 15, 16, 17, 11, 22, 13] rfl (by decide), 1 + 1, rfl, by omega, ⟨?_, ?_, ?_, ?_, ?_, ?_, ?_⟩, ?_, ?_⟩ <;> simp [Function.comp_def, get_gcT, get, put, gcI, pullI, push1, pushI, pullS, pushS, gcH, patL, canL, canH, canTL, canT, segR, ix, upd, up1, mapC_rows, mapC_gone, pushC_rows, pushC_gone, pullP, pullV, pullSS, pullD, pullT, pullF, pushP, pushV, pushSS, pushD, pushT, pushF, pullD16, pushD16, LJ, noT, rowS, cL, encLTs_pull, encLTs_push, encLTs_len, mapC_clo, pushC_clo, pull_U, push_U, prP, prV, prSS, prD, hstep, hS, toB, h0, h1, h5, h10, h12, h13, h14, h19']
          | true =>
          have hr0 : (0 : Int) ≤ (r : Int) := by omega
          have hrN : (r : Int) < (acts.length : Int) := of_decide_eq_true p2
          obtain ⟨v, hv⟩ : ∃ v, acts[r]? = some v := ⟨_, List.getElem?_eq_getElem (by omega)⟩
          have hvr : (acts.map sU)[r]? = some (sU v) := by rw [List.getElem?_map, hv]; rfl
          have hd20 : decide (r < 20) = true := by have := of_decide_eq_true p1; exact decide_eq_true (by omega)
          cases p3 : (IntKind.i64.wrap (Int.tmod v 3) == 1) with
          | false =>
            have hS : standN acts r 1 = false := by unfold standN; rw [hd20, hv]; exact p3
            have hcP := True.intro
            repeat' first
              | with_reducible rfl
              | simp only [hcP, rowS, sU, List.length_map, p1, p2, p3, hvr, hr0, hrN, Int.toNat_natCast, h0, h1, h5, h10, h12, h13, h14, h19', RS_, FB_, segR, ST_, seval, ne_eq, bne, forall_const, implies_true, TY_, WLS]
              | (with_reducible refine drawK_id ?_); refine drawK_auto hmix (by kernel_rfl) ?_
              | (with_reducible refine draw_fin ?_ ?_); · kernel_rfl
              | (with_reducible refine draw_id ?_); kernel_rfl
              | ((with_reducible refine callK_id (f := 11) ?_); refine callK_funW [7, 8, 9, 10] [] (cA) (by simp [pullHW, AH, AHo, HrS, rowA, rowS, pullS, ix, roC_rows, roP, roV, roSS, roD, roT, roF, roC_rP, roC_rV, roC_rS, roC_rD, mapC_rows, mapC_gone, pushC_rows, pushC_gone, pullP, pullV, pullSS, pullD, pullT, pullF, pushP, pushV, pushSS, pushD, pushT, pushF, pullD16, pushD16]) rfl rfl (by decide) (by simp [cP, cV, cS, cD, cT, cF]) (by simp [pullI, pullS, ix, rowS]) ?_; rintro r Hn ⟨rfl, rfl⟩ -; clear hcP)
              | (with_reducible refine And.intro ?_ ?_; · omega)
            have hcP := True.intro
            repeat' first
              | with_reducible rfl
              | simp only [hcP, rowS, pullL, pushL, mapC_clo, pushC_clo, mapC_rows, mapC_gone, pushC_rows, pushC_gone, pullP, pullV, pullSS, pullD, pullT, pullF, pushP, pushV, pushSS, pushD, pushT, pushF, pullD16, pushD16, h0, h1, h5, h10, h12, h13, h14, h19', RS_, FB_, segR, ST_, seval, ne_eq, bne, forall_const, implies_true, TY_, WLS]
              | (with_reducible refine drawK_id ?_); refine drawK_auto hmix (by kernel_rfl) ?_
              | (with_reducible refine draw_fin ?_ ?_); · kernel_rfl
              | (with_reducible refine draw_id ?_); kernel_rfl
              | ((with_reducible refine callK_id (f := 9) ?_); refine callK_funW [18, 19] [11, 12] e1 (by simp [pullHW, pullS, ix, pullI, encTEs, encLTs, pull_LT, push_LT, cL, rT, rF, roC_rows, roP, roV, roSS, roD, roT, roF, roC_rP, roC_rV, roC_rS, roC_rD, mapC_rows, mapC_gone, pushC_rows, pushC_gone, pullP, pullV, pullSS, pullD, pullT, pullF, pushP, pushV, pushSS, pushD, pushT, pushF, pullD16, pushD16]) rfl rfl (by decide) (by simp [cT, cF, cL]) (by simp [pullI, pullS, ix]) ?_; rintro r Hn ⟨rfl, rfl⟩ -; clear hcP)
              | (with_reducible refine And.intro ?_ ?_; · omega)
            repeat' first
              | with_reducible rfl
              | simp only [rowS, pullL, pushL, mapC_clo, pushC_clo, mapC_rows, mapC_gone, pushC_rows, pushC_gone, pullP, pullV, pullSS, pullD, pullT, pullF, pushP, pushV, pushSS, pushD, pushT, pushF, pullD16, pushD16, h0, h1, h5, h10, h12, h13, h14, h19', RS_, FB_, segR, ST_, seval, ne_eq, bne, forall_const, implies_true, TY_, WLS]
              | (with_reducible refine drawK_id ?_); refine drawK_auto hmix (by kernel_rfl) ?_
              | (with_reducible refine draw_fin ?_ ?_); · kernel_rfl
              | (with_reducible refine draw_id ?_); kernel_rfl
              | (with_reducible refine And.intro ?_ ?_; · omega)
            refine ⟨2 - (1 + 1), _, _, by omega, Wk.gc [0, 1, 2, 3, 4, 5, 6, 14, 15, 16, 17, 11, 22, 13] rfl (by decide), 1 + 1, rfl, by omega, ⟨?_, ?_, ?_, ?_, ?_, ?_, ?_⟩, ?_, ?_⟩ <;> simp [Function.comp_def, get_gcT, get, put, gcI, pullI, push1, pushI, pullS, pushS, gcH, patL, canL, canH, canTL, canT, segR, ix, upd, up1, mapC_rows, mapC_gone, pushC_rows, pushC_gone, pullP, pullV, pullSS, pullD, pullT, pullF, pushP, pushV, pushSS, pushD, pushT, pushF, pullD16, pushD16, LJ, noT, rowS, cL, encLTs_pull, encLTs_push, encLTs_len, mapC_clo, pushC_clo, pull_U, push_U, prP, prV, prSS, prD, hstep, hS, toB, h0, h1, h5, h10, h12, h13, h14, h19']
          | true =>
            have hS : standN acts r 1 = true := by unfold standN; rw [hd20, hv]; exact p3
            repeat' first
              | with_reducible rfl
              | simp only [rowS, sU, List.length_map, p1, p2, p3, hvr, hr0, hrN, Int.toNat_natCast, h0, h1, h5, h10, h12, h13, h14, h19', RS_, FB_, segR, ST_, seval, ne_eq, bne, forall_const, implies_true, TY_, WLS]
              | (with_reducible refine drawK_id ?_); refine drawK_auto hmix (by kernel_rfl) ?_
              | (with_reducible refine draw_fin ?_ ?_); · kernel_rfl
              | (with_reducible refine draw_id ?_); kernel_rfl
              | (with_reducible refine And.intro ?_ ?_; · omega)
            refine ⟨2 - (1 + 1), _, _, by omega, Wk.gc [0, 1, 2, 3, 4, 5, 6, 7, 8, 9, 10, 11, 12, 13] rfl (by decide), 1 + 1, rfl, by omega, ⟨?_, ?_, ?_, ?_, ?_, ?_, ?_⟩, ?_, ?_⟩ <;> simp [Function.comp_def, get_gcT, get, put, gcI, pullI, push1, pushI, pullS, pushS, gcH, patL, canL, canH, canTL, canT, segR, ix, upd, up1, mapC_rows, mapC_gone, pushC_rows, pushC_gone, pullP, pullV, pullSS, pullD, pullT, pullF, pushP, pushV, pushSS, pushD, pushT, pushF, pullD16, pushD16, LJ, noT, rowS, cL, encLTs_pull, encLTs_push, encLTs_len, mapC_clo, pushC_clo, pull_U, push_U, prP, prV, prSS, prD, hstep, hS, hr0, h0, h1, h5, h10, h12, h13, h14, h19']
        · have h19' : get tm 19 = .s (.raw (.int .i64 2)) := h19
          have hz := good_tick acts r hGd 2
          rw [← hnx] at hz ⊢
          generalize tickJ acts r t 2 = u at *
          unfold LJ
          repeat' first
            | with_reducible rfl
            | simp only [rowS, h19', h0, h1, h5, h10, h12, h13, h14, RS_, FB_, segR, ST_, seval, ne_eq, bne, forall_const, implies_true, TY_, WLS]
            | (with_reducible refine drawK_id ?_); refine drawK_auto hmix (by kernel_rfl) ?_
            | (with_reducible refine draw_fin ?_ ?_); · kernel_rfl
            | (with_reducible refine draw_id ?_); kernel_rfl
            | (with_reducible refine And.intro ?_ ?_; · omega)
          refine ⟨60 - (r + 1), _, _, by omega, Wk.gc [0, 1, 2, 3, 4, 5, 6, 7, 8, 9, 10, 11, 12, 13] rfl (by decide), r + 1, rfl, by omega, ⟨?_, ?_, ?_, ?_, ?_, ?_, ?_⟩, ?_⟩ <;> simp [Function.comp_def, get_gcT, get, put, gcI, pullI, push1, pushI, pullS, pushS, gcH, patL, canL, canH, canTL, canT, segR, ix, upd, up1, mapC_rows, mapC_gone, pushC_rows, pushC_gone, pullP, pullV, pullSS, pullD, pullT, pullF, pushP, pushV, pushSS, pushD, pushT, pushF, pullD16, pushD16, LJ, noT, rowS, cL, encLTs_pull, encLTs_push, encLTs_len, mapC_clo, pushC_clo, pull_U, push_U, prP, prV, prSS, prD, hnx, hr1, h19', h0, h1, h5, h10, h12, h13, h14]
    · have q : decide ((r : Int) < 60) = false := decide_eq_false (by omega)
      have hr60 : r = 60 := by omega
      subst hr60
      have hL0 := len_startJ cs
      rw [hs0, hnn] at hL0
      obtain ⟨hL1, hL2⟩ := len_rounds acts hL0 60
      have hok2 : lastJ (roundsJ acts s0 60) i = true := by unfold pairJ at hok; rw [hnn, hs0] at hok; exact hok
      clear hnx hok
      generalize roundsJ acts s0 60 = s at *
      simp only [lastJ, Bool.and_eq_true, List.all_eq_true, beq_iff_eq] at hok2
      obtain ⟨hall, hcnt⟩ := hok2
      unfold LJ
      repeat' first
        | with_reducible rfl
        | simp only [rowS, q, h0, h1, h5, h10, h12, h13, h14, RS_, FB_, segR, ST_, seval, ne_eq, bne, forall_const, implies_true, TY_, WLS]
        | (with_reducible refine drawK_id ?_); refine drawK_auto hmix (by kernel_rfl) ?_
        | (with_reducible refine draw_fin ?_ ?_); · kernel_rfl
        | (with_reducible refine draw_id ?_); kernel_rfl
        | (with_reducible refine And.intro ?_ ?_; · omega)
      refine loopK_wk (by kernel_rfl) (I_f cs acts i s) i ⟨_, _, Wk.gc [0, 1, 2, 3, 4, 5, 6, 7, 8, 9, 10, 11, 12, 13] rfl (by decide), 0, by omega, by omega, ?_, ?_, ?_, ?_, ?_⟩ ?_
      · simp [Function.comp_def, get_gcT, get, put, gcI, pullI, push1, pushI, pullS, pushS, gcH, patL, canL, canH, canTL, canT, segR, ix, upd, up1, mapC_rows, mapC_gone, pushC_rows, pushC_gone, pullP, pullV, pullSS, pullD, pullT, pullF, pushP, pushV, pushSS, pushD, pushT, pushF, pullD16, pushD16, LJ, noT, rowS, cL, encLTs_pull, encLTs_push, encLTs_len, mapC_clo, pushC_clo, pull_U, push_U, prP, prV, prSS, prD, List.take_zero, List.countP_nil, h0, h1, h5, h10, h12, h13, h14]
      · simp [Function.comp_def, get_gcT, get, put, gcI, pullI, push1, pushI, pullS, pushS, gcH, patL, canL, canH, canTL, canT, segR, ix, upd, up1, mapC_rows, mapC_gone, pushC_rows, pushC_gone, pullP, pullV, pullSS, pullD, pullT, pullF, pushP, pushV, pushSS, pushD, pushT, pushF, pullD16, pushD16, LJ, noT, rowS, cL, encLTs_pull, encLTs_push, encLTs_len, mapC_clo, pushC_clo, pull_U, push_U, prP, prV, prSS, prD, List.take_zero, List.countP_nil, h0, h1, h5, h10, h12, h13, h14]
      · simp [Function.comp_def, get_gcT, get, put, gcI, pullI, push1, pushI, pullS, pushS, gcH, patL, canL, canH, canTL, canT, segR, ix, upd, up1, mapC_rows, mapC_gone, pushC_rows, pushC_gone, pullP, pullV, pullSS, pullD, pullT, pullF, pushP, pushV, pushSS, pushD, pushT, pushF, pullD16, pushD16, LJ, noT, rowS, cL, encLTs_pull, encLTs_push, encLTs_len, mapC_clo, pushC_clo, pull_U, push_U, prP, prV, prSS, prD, List.take_zero, List.countP_nil, h0, h1, h5, h10, h12, h13, h14]
      · simp [Function.comp_def, get_gcT, get, put, gcI, pullI, push1, pushI, pullS, pushS, gcH, patL, canL, canH, canTL, canT, segR, ix, upd, up1, mapC_rows, mapC_gone, pushC_rows, pushC_gone, pullP, pullV, pullSS, pullD, pullT, pullF, pushP, pushV, pushSS, pushD, pushT, pushF, pullD16, pushD16, LJ, noT, rowS, cL, encLTs_pull, encLTs_push, encLTs_len, mapC_clo, pushC_clo, pull_U, push_U, prP, prV, prSS, prD, List.take_zero, List.countP_nil, h0, h1, h5, h10, h12, h13, h14]
      · simp [Function.comp_def, get_gcT, get, put, gcI, pullI, push1, pushI, pullS, pushS, gcH, patL, canL, canH, canTL, canT, segR, ix, upd, up1, mapC_rows, mapC_gone, pushC_rows, pushC_gone, pullP, pullV, pullSS, pullD, pullT, pullF, pushP, pushV, pushSS, pushD, pushT, pushF, pullD16, pushD16, LJ, noT, rowS, cL, encLTs_pull, encLTs_push, encLTs_len, mapC_clo, pushC_clo, pull_U, push_U, prP, prV, prSS, prD, List.take_zero, List.countP_nil, h0, h1, h5, h10, h12, h13, h14]
      clear h0 h1 h5 h10 h12 h13 h14
      rintro m tm H ⟨k, rfl, hk, h5, h10, h22, h23, rfl⟩
      have hk1 : IntKind.i64.wrap ((k : Int) + 1) = ((k + 1 : Nat) : Int) := by rw [wr_i64 (by omega) (by omega)]; rfl
      by_cases hq : k < i
      · have q7 : decide ((k : Int) < (i : Int)) = true := decide_eq_true (by omega)
        obtain ⟨p, hp⟩ : ∃ p, s.a.ps[k]? = some p := ⟨_, List.getElem?_eq_getElem (by omega)⟩
        obtain ⟨w, hw⟩ : ∃ w, s.b.ps[k]? = some w := ⟨_, List.getElem?_eq_getElem (by omega)⟩
        have hpr : (s.a.ps.map encPE)[k]? = some (encPE p) := by rw [List.getElem?_map, hp]; rfl
        have hwr : (s.b.ps.map encPE)[k]? = some (encPE w) := by rw [List.getElem?_map, hw]; rfl
        have hh := hall k (List.mem_range.2 hq)
        rw [hp, hw] at hh
        simp only [okJ, Bool.and_eq_true, Bool.or_eq_true, beq_iff_eq] at hh
        obtain ⟨⟨hp4, hp2⟩, hh⟩ := hh
        have hb0 : (0 : Int) ≤ (k : Int) := by omega
        have hbA : (k : Int) < (s.a.ps.length : Int) := by omega
        have hbB : (k : Int) < (s.b.ps.length : Int) := by omega
        have hcP : ∀ l, cP l = .rows true 21 (l.map encPE) := fun _ => rfl
        have htk : (s.b.ps.take (k + 1)).countP (fun q => q.ro == 3) = (s.b.ps.take k).countP (fun q => q.ro == 3) + if w.ro == 3 then 1 else 0 := by
          rw [List.take_add_one, hw]; simp [List.countP_append, List.countP_cons]
        have hcl : (s.b.ps.take k).countP (fun q => q.ro == 3) ≤ k := Nat.le_trans List.countP_le_length (by rw [List.length_take]; omega)
        generalize hC : (s.b.ps.take k).countP (fun q => q.ro == 3) = C at *
        have hC1 : IntKind.i64.wrap ((C : Int) + 1) = ((C + 1 : Nat) : Int) := by rw [wr_i64 (by omega) (by omega)]; rfl
        unfold LJ
        rcases hh with ⟨hw3, hw2⟩ | hw1
        · have hw0 : True := trivial
          repeat' first
            | with_reducible rfl
            | simp only [rowS, hcP, encPE, q7, hb0, hbA, hbB, hpr, hwr, hp4, hp2, hk1, hC1, h5, h10, h22, h23, List.length_map, Int.toNat_natCast, hw3, hw2, RS_, FB_, segR, ST_, seval, ne_eq, bne, forall_const, implies_true, TY_, WLS]
            | (with_reducible refine drawK_id ?_); refine drawK_auto hmix (by kernel_rfl) ?_
            | (with_reducible refine draw_fin ?_ ?_); · kernel_rfl
            | (with_reducible refine draw_id ?_); kernel_rfl
            | (with_reducible refine And.intro ?_ ?_; · omega)
          refine ⟨i - (k + 1), _, _, by omega, Wk.gc [0, 1, 2, 3, 4, 5, 6, 7, 8, 9, 10, 11, 12, 13] rfl (by decide), k + 1, rfl, by omega, ?_, ?_, ?_, ?_, ?_⟩ <;> simp [Function.comp_def, get_gcT, get, put, gcI, pullI, push1, pushI, pullS, pushS, gcH, patL, canL, canH, canTL, canT, segR, ix, upd, up1, mapC_rows, mapC_gone, pushC_rows, pushC_gone, pullP, pullV, pullSS, pullD, pullT, pullF, pushP, pushV, pushSS, pushD, pushT, pushF, pullD16, pushD16, LJ, noT, rowS, cL, encLTs_pull, encLTs_push, encLTs_len, mapC_clo, pushC_clo, pull_U, push_U, prP, prV, prSS, prD, pull_PE, push_PE, cP, htk, hk1, hC1, h5, h10, h22, h23, hw3, hw2]
        · have hw0 : True := trivial
          repeat' first
            | with_reducible rfl
            | simp only [rowS, hcP, encPE, q7, hb0, hbA, hbB, hpr, hwr, hp4, hp2, hk1, hC1, h5, h10, h22, h23, List.length_map, Int.toNat_natCast, hw1, RS_, FB_, segR, ST_, seval, ne_eq, bne, forall_const, implies_true, TY_, WLS]
            | (with_reducible refine drawK_id ?_); refine drawK_auto hmix (by kernel_rfl) ?_
            | (with_reducible refine draw_fin ?_ ?_); · kernel_rfl
            | (with_reducible refine draw_id ?_); kernel_rfl
            | (with_reducible refine And.intro ?_ ?_; · omega)
          refine ⟨i - (k + 1), _, _, by omega, Wk.gc [0, 1, 2, 3, 4, 5, 6, 7, 8, 9, 10, 11, 12, 13] rfl (by decide), k + 1, rfl, by omega, ?_, ?_, ?_, ?_, ?_⟩ <;> simp [Function.comp_def, get_gcT, get, put, gcI, pullI, push1, pushI, pullS, pushS, gcH, patL, canL, canH, canTL, canT, segR, ix, upd, up1, mapC_rows, mapC_gone, pushC_rows, pushC_gone, pullP, pullV, pullSS, pullD, pullT, pullF, pushP, pushV, pushSS, pushD, pushT, pushF, pullD16, pushD16, LJ, noT, rowS, cL, encLTs_pull, encLTs_push, encLTs_len, mapC_clo, pushC_clo, pull_U, push_U, prP, prV, prSS, prD, pull_PE, push_PE, cP, htk, hk1, hC1, h5, h10, h22, h23, hw1]
      · have q7 : decide ((k : Int) < (i : Int)) = false := decide_eq_false (by omega)
        have hin : k = i := by omega
        subst hin
        rw [hcnt] at h22
        unfold LJ
        repeat' first
          | with_reducible rfl
          | simp only [rowS, q7, h5, h10, h22, h23, RS_, FB_, segR, ST_, seval, ne_eq, bne, forall_const, implies_true, TY_, WLS]
          | (with_reducible refine drawK_id ?_); refine drawK_auto hmix (by kernel_rfl) ?_
          | (with_reducible refine draw_fin ?_ ?_); · kernel_rfl
          | (with_reducible refine draw_id ?_); kernel_rfl
          | (with_reducible refine And.intro ?_ ?_; · omega)
end Go.Ev
