/- A part of the proof: contracts of the functions that the statement reaches. -/
import Derived.Test.YtadikegdadnahaaT30
namespace Go.Ev
open Go.Proofs
set_option maxRecDepth 100000
set_option linter.unusedSimpArgs false
set_option linter.unusedVariables false
set_option maxHeartbeats 4000000
theorem ty_ok_59 : plOk Try.prog 59 = true := by kernel_rfl
theorem ty_pl_59_0 : plT Try.prog 59 0 = some (0, 1) := by kernel_rfl
theorem ty_pl_59_1 : plT Try.prog 59 1 = some (1, 1) := by kernel_rfl
theorem ty_pl_59_2 : plT Try.prog 59 2 = some (2, 16) := by kernel_rfl
structure LT where
  (to port : Int) (d : PD)
  deriving DecidableEq
def encLT (m : LT) : List SV := .raw (.int .i64 m.to) :: .raw (.int .i64 m.port) :: encPD m.d
theorem pull_LT (σ : List Nat) (m : LT) : (encLT m).map (pullS σ) = encLT m := rfl
theorem push_LT (σ : List Nat) (m : LT) : (encLT m).map (pushS σ) = encLT m := rfl
def encLTs (l : List LT) : List (List SV) := l.map encLT
theorem encLTs_len (l : List LT) : (encLTs l).length = l.length := List.length_map _
theorem encLTs_pull (σ : List Nat) (l : List LT) : (encLTs l).map (fun r => r.map (pullS σ)) = encLTs l := by unfold encLTs; rw [List.map_map]; rfl
theorem encLTs_push (σ : List Nat) (l : List LT) : (encLTs l).map (fun r => r.map (pushS σ)) = encLTs l := by unfold encLTs; rw [List.map_map]; rfl
def cL (l : List LT) : Chunk := .rows true 18 (encLTs l)
theorem pullL (σ : List Nat) (g : IV → IV) (l : List LT) : mapC (pullS σ) g (cL l) = cL l := by
  show Chunk.rows true _ _ = _
  rw [encLTs_pull]; rfl
theorem pushL (σ : List Nat) (l : List LT) : pushC σ (cL l) = cL l := by
  show Chunk.rows true _ _ = _
  rw [encLTs_push]; rfl
/-- What an act sends, as letters. -/
def outL (frm : Int) (l : List TE) : List LT := l.map fun t => ⟨IntKind.i64.wrap (1 - frm), t.port, t.d⟩
def I_sd (frm : Int) (told : List TE) (fl : List Int) (L : List LT) (m : Nat) (tm : TM) (H : Heap) : Prop := ∃ i : Nat, m = told.length - i ∧ i ≤ told.length ∧ get tm 0 = .s (.raw (.int .i64 frm)) ∧ get tm 2 = .s (.ptr 2 0 0) ∧ get tm 4 = .s (.ptr 4 0 0) ∧ get tm 5 = .s (.raw (.int .i64 (i : Int))) ∧
  H = [.rows false 17 (encTEs told), .rows false 1 (fl.map sI), .rows true 1 [[.slice 5 0 (L ++ outL frm (told.take i)).length]], .gone, .rows true 2 [[.slice 0 0 told.length, .slice 1 0 fl.length]], cL (L ++ outL frm (told.take i))]
theorem c_sendF (frm : Int) (told : List TE) (fl : List Int) (L : List LT) (hb : told.length ≤ 1000000) (hL : L.length ≤ 100000000) : FunW Try.prog 9 [.rows false 17 (encTEs told), .rows false 1 (fl.map sI)] [.rows true 1 [[.slice 3 0 L.length]], cL L] [.s (.raw (.int .i64 frm)), .a [.slice 0 0 told.length, .slice 1 0 fl.length], .s (.ptr 2 0 0)] fun r Hn => r = .t [] ∧ Hn = [.rows true 1 [[.slice 4 0 (L ++ outL frm told).length]], .gone, cL (L ++ outL frm told)] := by
  refine funW_of fun X => ?_
  refine callK_inline (rs := []) (n := 31) Try.func9 rfl rfl rfl (by kernel_rfl) (by kernel_rfl) (by simp only [List.length_cons, List.length_nil]; decide) ?_
  have hcP := True.intro
  repeat' first
    | with_reducible rfl
    | simp only [hcP, RS_, FB_, segR, ST_, seval, ne_eq, bne, forall_const, implies_true, TY_, WLS]
    | (with_reducible refine drawK_id ?_); refine drawK_auto hmix (by kernel_rfl) ?_
    | (with_reducible refine draw_fin ?_ ?_); · kernel_rfl
    | (with_reducible refine draw_id ?_); kernel_rfl
    | (with_reducible refine And.intro ?_ ?_; · omega)
  refine loopK_wk (by kernel_rfl) (I_sd frm told fl L) told.length ⟨_, _, Wk.can [(18, 2, 0, 0)] [.inl 0, .inl 1, .inl 2, .inl 3, .inl 4, .inr 0] rfl (by simp [patL]), 0, by omega, by omega, ?_, ?_, ?_, ?_, ?_⟩ ?_
  · simp [Function.comp_def, get_gcT, get, put, gcI, pullI, push1, pushI, pullS, pushS, gcH, patL, canL, canH, canTL, canT, segR, ix, upd, up1, mapC_rows, mapC_gone, pushC_rows, pushC_gone, pullP, pullV, pullSS, pullD, pullT, pullF, pushP, pushV, pushSS, pushD, pushT, pushF, pullD16, pushD16, cL, encTEs_pull, encTEs_push, encLTs_pull, encLTs_push, encLTs_len, pull_LT, push_LT, pull_I, push_I, sI, outL]
  · simp [Function.comp_def, get_gcT, get, put, gcI, pullI, push1, pushI, pullS, pushS, gcH, patL, canL, canH, canTL, canT, segR, ix, upd, up1, mapC_rows, mapC_gone, pushC_rows, pushC_gone, pullP, pullV, pullSS, pullD, pullT, pullF, pushP, pushV, pushSS, pushD, pushT, pushF, pullD16, pushD16, cL, encTEs_pull, encTEs_push, encLTs_pull, encLTs_push, encLTs_len, pull_LT, push_LT, pull_I, push_I, sI, outL]
  · simp [Function.comp_def, get_gcT, get, put, gcI, pullI, push1, pushI, pullS, pushS, gcH, patL, canL, canH, canTL, canT, segR, ix, upd, up1, mapC_rows, mapC_gone, pushC_rows, pushC_gone, pullP, pullV, pullSS, pullD, pullT, pullF, pushP, pushV, pushSS, pushD, pushT, pushF, pullD16, pushD16, cL, encTEs_pull, encTEs_push, encLTs_pull, encLTs_push, encLTs_len, pull_LT, push_LT, pull_I, push_I, sI, outL]
  · simp [Function.comp_def, get_gcT, get, put, gcI, pullI, push1, pushI, pullS, pushS, gcH, patL, canL, canH, canTL, canT, segR, ix, upd, up1, mapC_rows, mapC_gone, pushC_rows, pushC_gone, pullP, pullV, pullSS, pullD, pullT, pullF, pushP, pushV, pushSS, pushD, pushT, pushF, pullD16, pushD16, cL, encTEs_pull, encTEs_push, encLTs_pull, encLTs_push, encLTs_len, pull_LT, push_LT, pull_I, push_I, sI, outL]
  · simp [Function.comp_def, get_gcT, get, put, gcI, pullI, push1, pushI, pullS, pushS, gcH, patL, canL, canH, canTL, canT, segR, ix, upd, up1, mapC_rows, mapC_gone, pushC_rows, pushC_gone, pullP, pullV, pullSS, pullD, pullT, pullF, pushP, pushV, pushSS, pushD, pushT, pushF, pullD16, pushD16, cL, encTEs_pull, encTEs_push, encLTs_pull, encLTs_push, encLTs_len, pull_LT, push_LT, pull_I, push_I, sI, outL]
  rintro m tm H ⟨i, rfl, hi, g0, g2, g4, g5, rfl⟩
  have hlen : (L ++ outL frm (told.take i)).length = L.length + i := by simp [outL]; omega
  by_cases hq : i < told.length
  · have q : decide ((i : Int) < (told.length : Int)) = true := decide_eq_true (by omega)
    have hb0 : (0 : Int) ≤ (i : Int) := by omega
    have hbN : (i : Int) < (told.length : Int) := by omega
    have hi1 : IntKind.i64.wrap ((i : Int) + 1) = ((i + 1 : Nat) : Int) := by rw [wr_i64 (by omega) (by omega)]; rfl
    obtain ⟨p, hp⟩ : ∃ p, told[i]? = some p := ⟨_, List.getElem?_eq_getElem (by omega)⟩
    have hpr := encTEs_get hp
    have hnx : L ++ outL frm (told.take (i + 1)) = (L ++ outL frm (told.take i)) ++ [⟨IntKind.i64.wrap (1 - frm), p.port, p.d⟩] := by
      rw [List.take_add_one, hp]; simp [outL]
    generalize L ++ outL frm (told.take i) = K at *
    have hcP : ∀ l, cL l = .rows true 18 (encLTs l) := fun _ => rfl
    have hbig : (K.length + 1) * 80 ≤ 140737488355328 := by omega
    repeat' first
      | with_reducible rfl
      | simp only [ty_ok_59, ty_pl_59_0, ty_pl_59_1, ty_pl_59_2, hcP, q, hb0, hbN, hpr, hbig, encTE, encPD, encTEs_len, encLTs_len, g0, g2, g4, g5, Int.toNat_natCast, RS_, FB_, segR, ST_, seval, ne_eq, bne, forall_const, implies_true, TY_, WLS]
      | (with_reducible refine drawK_id ?_); refine drawK_auto hmix (by kernel_rfl) ?_
      | (with_reducible refine draw_fin ?_ ?_); · kernel_rfl
      | (with_reducible refine draw_id ?_); kernel_rfl
      | (with_reducible refine And.intro ?_ ?_; · omega)
    refine ⟨told.length - (i + 1), _, _, by omega, Wk.can [(18, 2, 0, 0)] [.inl 0, .inl 1, .inl 2, .inl 3, .inl 4, .inr 0] rfl (by simp [patL]), i + 1, rfl, by omega, ?_, ?_, ?_, ?_, ?_⟩ <;> first | (simp [Function.comp_def, get_gcT, get, put, gcI, pullI, push1, pushI, pullS, pushS, gcH, patL, canL, canH, canTL, canT, segR, ix, upd, up1, mapC_rows, mapC_gone, pushC_rows, pushC_gone, pullP, pullV, pullSS, pullD, pullT, pullF, pushP, pushV, pushSS, pushD, pushT, pushF, pullD16, pushD16, cL, encTEs_pull, encTEs_push, encLTs_pull, encLTs_push, encLTs_len, pull_LT, push_LT, pull_I, push_I, sI, g0, g2, g4, g5, hi1]; done) | (rw [hnx]; simp [Function.comp_def, get_gcT, get, put, gcI, pullI, push1, pushI, pullS, pushS, gcH, patL, canL, canH, canTL, canT, segR, ix, upd, up1, mapC_rows, mapC_gone, pushC_rows, pushC_gone, pullP, pullV, pullSS, pullD, pullT, pullF, pushP, pushV, pushSS, pushD, pushT, pushF, pullD16, pushD16, cL, encTEs_pull, encTEs_push, encLTs_pull, encLTs_push, encLTs_len, pull_LT, push_LT, pull_I, push_I, sI, hlen, hi1, encLT, encPD, encLTs, encLTs_len, List.map_append])
  · have q : decide ((i : Int) < (told.length : Int)) = false := decide_eq_false (by omega)
    have hin : i = told.length := by omega
    subst hin
    rw [List.take_length] at *
    have hKl : L.length + (outL frm told).length = (L ++ outL frm told).length := (List.length_append ..).symm
    generalize L ++ outL frm told = K at *
    have hcP := True.intro
    repeat' first
      | with_reducible rfl
      | simp only [hcP, q, encTEs_len, g0, g2, g4, g5, RS_, FB_, segR, ST_, seval, ne_eq, bne, forall_const, implies_true, TY_, WLS]
      | (with_reducible refine drawK_id ?_); refine drawK_auto hmix (by kernel_rfl) ?_
      | (with_reducible refine draw_fin ?_ ?_); · kernel_rfl
      | (with_reducible refine draw_id ?_); kernel_rfl
      | (with_reducible refine And.intro ?_ ?_; · omega)
    refine ⟨.t [], [.rows true 1 [[.slice 4 0 K.length]], .gone, cL K], (WkR.gc [0, 1, 2, 3, 5] rfl (by decide)).to rfl ?_, by simp, rfl, ?_⟩
    · simp [Function.comp_def, get_gcT, get, put, gcI, pullI, push1, pushI, pullS, pushS, gcH, patL, canL, canH, canTL, canT, segR, ix, upd, up1, mapC_rows, mapC_gone, pushC_rows, pushC_gone, pullP, pullV, pullSS, pullD, pullT, pullF, pushP, pushV, pushSS, pushD, pushT, pushF, pullD16, pushD16, cL, encTEs_pull, encTEs_push, encLTs_pull, encLTs_push, encLTs_len, pull_LT, push_LT, pull_I, push_I, sI]
    · rw [hKl]
end Go.Ev
