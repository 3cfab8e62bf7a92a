/- A part of the proof: contracts of the functions that the statement reaches. -/
import Derived.Test.YtadikegdadnahaaT25
namespace Go.Ev
open Go.Proofs
set_option maxRecDepth 100000
set_option linter.unusedSimpArgs false
set_option linter.unusedVariables false
set_option maxHeartbeats 4000000
def seenP (p : PE) (s : Int) : Bool := if onP p then decide (s ≤ p.st) else false
def openB (ps : List PE) (s : Int) : Nat → Int
  | 0 => 0
  | i + 1 => match ps[i]? with
    | some p => if seenP p s then bOr IntKind.u32 (openB ps s i) (shL IntKind.u32 1 i) else openB ps s i
    | none => openB ps s i
def I_op (a : AS) (s : Int) (m : Nat) (tm : TM) (H : Heap) : Prop := ∃ i : Nat, m = a.ps.length - i ∧ i ≤ a.ps.length ∧ get tm 1 = .s (.raw (.int .i64 s)) ∧ get tm 5 = .s (.raw (.int .u32 (openB a.ps s i))) ∧ get tm 9 = .s (.slice 0 0 a.ps.length) ∧ get tm 10 = .s (.raw (.int .i64 a.ps.length)) ∧ get tm 11 = .s (.raw (.int .i64 (i : Int))) ∧ H = [rP a.ps, rV a.vs, rS a.ss, rD a.ds]
theorem c_Open (a : AS) (hn : a.ps.length ≤ 100) (s : Int) : FunR Try.prog 17 [rP a.ps, rV a.vs, rS a.ss, rD a.ds] [.a (rowS 0 1 2 3 a), .s (.raw (.int .i64 s))] (.s (.raw (.int .u32 (openB a.ps s a.ps.length)))) := by
  refine funR_of rfl fun X => ?_
  refine callK_inline (rs := [.tmp 4]) (n := 30) Try.func17 rfl rfl rfl (by kernel_rfl) (by kernel_rfl) (by simp only [List.length_cons, List.length_nil]; decide) ?_
  repeat' first
    | with_reducible rfl
    | simp only [rowS, RS_, FB_, segR, ST_, seval, ne_eq, bne, forall_const, implies_true, TY_, WLS]
    | (with_reducible refine drawK_id ?_); refine drawK_auto hmix (by kernel_rfl) ?_
    | (with_reducible refine draw_fin ?_ ?_); · kernel_rfl
    | (with_reducible refine draw_id ?_); kernel_rfl
    | (with_reducible refine And.intro ?_ ?_; · omega)
  refine loopK_wk (by kernel_rfl) (I_op a s) a.ps.length ⟨_, _, Wk.gc [0, 1, 2, 3] rfl (by decide), 0, rfl, by omega, ?_, ?_, ?_, ?_, ?_, ?_⟩ ?_
  · simp [Function.comp_def, get_gcT, get, put, gcI, pullI, push1, pushI, pullS, pushS, gcH, patL, canL, canH, canTL, canT, segR, ix, upd, up1, mapC_rows, mapC_gone, pushC_rows, pushC_gone, pullP, pullV, pullSS, pullD, pullT, pullF, pushP, pushV, pushSS, pushD, pushT, pushF, pullD16, pushD16, prP, prV, prSS, prD, openB]
  · simp [Function.comp_def, get_gcT, get, put, gcI, pullI, push1, pushI, pullS, pushS, gcH, patL, canL, canH, canTL, canT, segR, ix, upd, up1, mapC_rows, mapC_gone, pushC_rows, pushC_gone, pullP, pullV, pullSS, pullD, pullT, pullF, pushP, pushV, pushSS, pushD, pushT, pushF, pullD16, pushD16, prP, prV, prSS, prD, openB]
  · simp [Function.comp_def, get_gcT, get, put, gcI, pullI, push1, pushI, pullS, pushS, gcH, patL, canL, canH, canTL, canT, segR, ix, upd, up1, mapC_rows, mapC_gone, pushC_rows, pushC_gone, pullP, pullV, pullSS, pullD, pullT, pullF, pushP, pushV, pushSS, pushD, pushT, pushF, pullD16, pushD16, prP, prV, prSS, prD, openB]
  · simp [Function.comp_def, get_gcT, get, put, gcI, pullI, push1, pushI, pullS, pushS, gcH, patL, canL, canH, canTL, canT, segR, ix, upd, up1, mapC_rows, mapC_gone, pushC_rows, pushC_gone, pullP, pullV, pullSS, pullD, pullT, pullF, pushP, pushV, pushSS, pushD, pushT, pushF, pullD16, pushD16, prP, prV, prSS, prD, openB]
  · simp [Function.comp_def, get_gcT, get, put, gcI, pullI, push1, pushI, pullS, pushS, gcH, patL, canL, canH, canTL, canT, segR, ix, upd, up1, mapC_rows, mapC_gone, pushC_rows, pushC_gone, pullP, pullV, pullSS, pullD, pullT, pullF, pushP, pushV, pushSS, pushD, pushT, pushF, pullD16, pushD16, prP, prV, prSS, prD, openB]
  · simp [Function.comp_def, get_gcT, get, put, gcI, pullI, push1, pushI, pullS, pushS, gcH, patL, canL, canH, canTL, canT, segR, ix, upd, up1, mapC_rows, mapC_gone, pushC_rows, pushC_gone, pullP, pullV, pullSS, pullD, pullT, pullF, pushP, pushV, pushSS, pushD, pushT, pushF, pullD16, pushD16, prP, prV, prSS, prD, openB]
  rintro m tm H ⟨i, rfl, hi, g1, g5, g9, g10, g11, rfl⟩
  by_cases hq : i < a.ps.length
  · have q : decide ((i : Int) < (a.ps.length : Int)) = true := decide_eq_true (by omega)
    have hb0 : (0 : Int) ≤ (i : Int) := by omega
    have hbN : (i : Int) < (a.ps.length : Int) := by omega
    have hi1 : IntKind.i64.wrap ((i : Int) + 1) = ((i + 1 : Nat) : Int) := by rw [wr_i64 (by omega) (by omega)]; rfl
    obtain ⟨p, hp⟩ : ∃ p, (a.ps)[i]? = some p := ⟨_, List.getElem?_eq_getElem (by omega)⟩
    have hpr : ((a.ps).map encPE)[i]? = some (encPE p) := by rw [List.getElem?_map, hp]; rfl
    have hps := encPEs_get hp
    have hnx : openB a.ps s (i + 1) = if seenP p s then bOr IntKind.u32 (openB a.ps s i) (shL IntKind.u32 1 i) else openB a.ps s i := by simp only [openB, hp]
    generalize openB a.ps s i = z at *
    have hs : seenP p s = if onP p then decide (s ≤ p.st) else false := rfl
    cases e1 : onP p with
    | false =>
      repeat' first
        | with_reducible rfl
        | simp only [rP_s, encPEs_len, q, hb0, hbN, hi1, hps, encPE, g1, g5, g9, g10, g11, Int.toNat_natCast, e1, RS_, FB_, segR, ST_, seval, ne_eq, bne, forall_const, implies_true, TY_, WLS]
        | (with_reducible refine drawK_id ?_); refine drawK_auto hmix (by kernel_rfl) ?_
        | (with_reducible refine draw_fin ?_ ?_); · kernel_rfl
        | (with_reducible refine draw_id ?_); kernel_rfl
        | (with_reducible refine callK_id (f := 14) ?_); refine callK_fun (c_On p) rfl rfl ?_
        | (with_reducible refine And.intro ?_ ?_; · omega)
      refine ⟨a.ps.length - (i + 1), _, _, by omega, Wk.gc [0, 1, 2, 3] rfl (by decide), i + 1, rfl, by omega, ?_, ?_, ?_, ?_, ?_, ?_⟩ <;> simp [Function.comp_def, get_gcT, get, put, gcI, pullI, push1, pushI, pullS, pushS, gcH, patL, canL, canH, canTL, canT, segR, ix, upd, up1, mapC_rows, mapC_gone, pushC_rows, pushC_gone, pullP, pullV, pullSS, pullD, pullT, pullF, pushP, pushV, pushSS, pushD, pushT, pushF, pullD16, pushD16, g1, g5, g9, g10, hi1, hnx, hs, e1, rP_s, encPEs_pull, prV, prSS, prD]
    | true =>
      cases e2 : decide (s ≤ p.st) with
      | false =>
        repeat' first
          | with_reducible rfl
          | simp only [rP_s, encPEs_len, q, hb0, hbN, hi1, hps, encPE, g1, g5, g9, g10, g11, Int.toNat_natCast, e1, e2, RS_, FB_, segR, ST_, seval, ne_eq, bne, forall_const, implies_true, TY_, WLS]
          | (with_reducible refine drawK_id ?_); refine drawK_auto hmix (by kernel_rfl) ?_
          | (with_reducible refine draw_fin ?_ ?_); · kernel_rfl
          | (with_reducible refine draw_id ?_); kernel_rfl
          | (with_reducible refine callK_id (f := 14) ?_); refine callK_fun (c_On p) rfl rfl ?_
          | (with_reducible refine And.intro ?_ ?_; · omega)
        refine ⟨a.ps.length - (i + 1), _, _, by omega, Wk.gc [0, 1, 2, 3] rfl (by decide), i + 1, rfl, by omega, ?_, ?_, ?_, ?_, ?_, ?_⟩ <;> simp [Function.comp_def, get_gcT, get, put, gcI, pullI, push1, pushI, pullS, pushS, gcH, patL, canL, canH, canTL, canT, segR, ix, upd, up1, mapC_rows, mapC_gone, pushC_rows, pushC_gone, pullP, pullV, pullSS, pullD, pullT, pullF, pushP, pushV, pushSS, pushD, pushT, pushF, pullD16, pushD16, g1, g5, g9, g10, hi1, hnx, hs, e1, e2, rP_s, encPEs_pull, prV, prSS, prD]
      | true =>
        repeat' first
          | with_reducible rfl
          | simp only [rP_s, encPEs_len, q, hb0, hbN, hi1, hps, encPE, g1, g5, g9, g10, g11, Int.toNat_natCast, e1, e2, RS_, FB_, segR, ST_, seval, ne_eq, bne, forall_const, implies_true, TY_, WLS]
          | (with_reducible refine drawK_id ?_); refine drawK_auto hmix (by kernel_rfl) ?_
          | (with_reducible refine draw_fin ?_ ?_); · kernel_rfl
          | (with_reducible refine draw_id ?_); kernel_rfl
          | (with_reducible refine callK_id (f := 14) ?_); refine callK_fun (c_On p) rfl rfl ?_
          | (with_reducible refine And.intro ?_ ?_; · omega)
        refine ⟨a.ps.length - (i + 1), _, _, by omega, Wk.gc [0, 1, 2, 3] rfl (by decide), i + 1, rfl, by omega, ?_, ?_, ?_, ?_, ?_, ?_⟩ <;> simp [Function.comp_def, get_gcT, get, put, gcI, pullI, push1, pushI, pullS, pushS, gcH, patL, canL, canH, canTL, canT, segR, ix, upd, up1, mapC_rows, mapC_gone, pushC_rows, pushC_gone, pullP, pullV, pullSS, pullD, pullT, pullF, pushP, pushV, pushSS, pushD, pushT, pushF, pullD16, pushD16, g1, g5, g9, g10, hi1, hnx, hs, e1, e2, rP_s, encPEs_pull, prV, prSS, prD]
  · have q : decide ((i : Int) < (a.ps.length : Int)) = false := decide_eq_false (by omega)
    have hin : i = a.ps.length := by omega
    subst hin
    repeat' first
      | with_reducible rfl
      | simp only [q, g1, g5, g9, g10, g11, RS_, FB_, segR, ST_, seval, ne_eq, bne, forall_const, implies_true, TY_, WLS]
      | (with_reducible refine drawK_id ?_); refine drawK_auto hmix (by kernel_rfl) ?_
      | (with_reducible refine draw_fin ?_ ?_); · kernel_rfl
      | (with_reducible refine draw_id ?_); kernel_rfl
      | (with_reducible refine And.intro ?_ ?_; · omega)
theorem encTEs_push (σ : List Nat) (l : List TE) : (encTEs l).map (fun r => r.map (pushS σ)) = encTEs l := by unfold encTEs; rw [List.map_map]; rfl
def spA : AS := madeA ⟨3, 0, 0, 0⟩ [⟨0, 0, false, true, true⟩, ⟨0, 0, false, true, false⟩]
def spT (t : TE) : Bool := t.port == 1 && t.d.root == 4 && t.d.prop
def spP (p q : PE) : Bool := p.ro == 4 && q.ro == 0
theorem sp_told : ∃ t, (startA (noT spA)).told = [t] ∧ spT t = true := ⟨_, rfl, by kernel_rfl⟩
theorem sp_ps : ∃ p q, (startA (noT spA)).ps = [p, q] ∧ spP p q = true ∧ openB [p, q] 0 2 = 1 := ⟨_, _, rfl, by kernel_rfl, by kernel_rfl⟩
theorem c_speaks : Fun Try.prog 6 [] (.s (.raw (.bool true))) := by
  refine fun_of rfl fun X => ?_
  refine callK_inline (rs := [.tmp 0]) (n := 69) Try.func6 rfl rfl rfl (by kernel_rfl) (by kernel_rfl) (by simp only [List.length_cons, List.length_nil]; decide) ?_
  have c1 := c_Made ⟨3, 0, 0, 0⟩ [⟨0, 0, false, true, true⟩, ⟨0, 0, false, true, false⟩]
  have c2 := c_Start spA ⟨by decide, by decide, by decide, by decide⟩
  obtain ⟨t, ht, htt⟩ := sp_told
  obtain ⟨p, q, hpq, hpp, hop⟩ := sp_ps
  simp only [spT, spP, Bool.and_eq_true] at htt hpp
  obtain ⟨⟨t1, t2⟩, t3⟩ := htt
  obtain ⟨p1, q1⟩ := hpp
  have c3 := c_Open (startA (noT spA)) (by rw [hpq]; exact (by decide : (2 : Nat) ≤ 100)) 0
  rw [show openB (startA (noT spA)).ps 0 (startA (noT spA)).ps.length = 1 by rw [hpq]; exact hop] at c3
  have hl : (startA (noT spA)).ps.length = 2 := by rw [hpq]; rfl
  have htl : (startA (noT spA)).told.length = 1 := by rw [ht]; rfl
  unfold PostS at c2
  rw [show madeA ⟨3, 0, 0, 0⟩ [⟨0, 0, false, true, true⟩, ⟨0, 0, false, true, false⟩] = spA from rfl] at c1
  generalize startA (noT spA) = z at *
  have hv : spA.vs = [] := rfl
  have hs : spA.ss = [] := rfl
  have hd : spA.ds = [] := rfl
  generalize spA = y at *
  have hcP := True.intro
  repeat' first
    | with_reducible rfl
    | simp only [hcP, RS_, FB_, segR, ST_, seval, ne_eq, bne, forall_const, implies_true, TY_, WLS]
    | (with_reducible refine drawK_id ?_); refine drawK_auto hmix (by kernel_rfl) ?_
    | (with_reducible refine draw_fin ?_ ?_); · kernel_rfl
    | (with_reducible refine draw_id ?_); kernel_rfl
    | ((with_reducible refine callK_id (f := 8) ?_); refine callK_funW [0] [] c1 (by simp [pullHW, roC_rows, encSP, pullS]) rfl rfl (by decide) (by simp) (by simp [pullI, pullS, ix, encSET]) ?_; rintro r Hn ⟨rfl, rfl⟩ -; clear hcP)
    | (with_reducible refine And.intro ?_ ?_; · omega)
  have hcP := True.intro
  repeat' first
    | with_reducible rfl
    | simp only [hcP, rowS, hv, hs, hd, mapC_rows, mapC_gone, pushC_rows, pushC_gone, pullP, pullV, pullSS, pullD, pullT, pullF, pushP, pushV, pushSS, pushD, pushT, pushF, pullD16, pushD16, RS_, FB_, segR, ST_, seval, ne_eq, bne, forall_const, implies_true, TY_, WLS]
    | (with_reducible refine drawK_id ?_); refine drawK_auto hmix (by kernel_rfl) ?_
    | (with_reducible refine draw_fin ?_ ?_); · kernel_rfl
    | (with_reducible refine draw_id ?_); kernel_rfl
    | ((with_reducible refine callK_id (f := 7) ?_); refine callK_funW [1, 2, 3, 4] [] c2 (by simp [pullHW, roP, roV, roSS, roD, hv, hs, hd]) rfl rfl (by decide) (by simp [cP, cV, cS, cD]) (by simp [pullI, pullS, ix, rowS, hv, hs, hd]) ?_; rintro r Hn ⟨rfl, rfl⟩ -; clear hcP)
    | (with_reducible refine And.intro ?_ ?_; · omega)
  have h0 := encTEs_get (show z.told[0]? = some t by rw [ht]; rfl)
  have k0 := encPEs_get (show z.ps[0]? = some p by rw [hpq]; rfl)
  have k1 := encPEs_get (show z.ps[1]? = some q by rw [hpq]; rfl)
  repeat' first
    | with_reducible rfl
    | simp only [rowS, hl, htl, h0, k0, k1, t1, t2, t3, p1, q1, cP_s, cT_s, encPEs_len, encTEs_len, encPEs_push, encTEs_push, encPE, encTE_def, Int.toNat_zero, Int.toNat_one, Int.ofNat_one, Int.natCast_one, mapC_rows, mapC_gone, pushC_rows, pushC_gone, pullV, pullSS, pullD, pullF, pushV, pushSS, pushD, pushF, pullD16, pushD16, RS_, FB_, segR, ST_, seval, ne_eq, bne, forall_const, implies_true, TY_, WLS]
    | (with_reducible refine drawK_id ?_); refine drawK_auto hmix (by kernel_rfl) ?_
    | (with_reducible refine draw_fin ?_ ?_); · kernel_rfl
    | (with_reducible refine draw_id ?_); kernel_rfl
    | ((with_reducible refine callK_id (f := 17) ?_); refine callK_funR [6, 7, 8, 9] (r := .s (.raw (.int .u32 1))) (by simpa [pullH, roC_rows, roP, roV, roSS, roD, rP_s, cP_s, encPEs_pull, rowS, pullI, pullS, ix, hl] using c3) rfl ?_)
    | (with_reducible refine And.intro ?_ ?_; · omega)
end Go.Ev
