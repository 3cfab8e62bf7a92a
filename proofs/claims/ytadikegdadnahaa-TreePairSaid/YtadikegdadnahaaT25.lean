/- A part of the proof: contracts of the functions that the statement reaches. -/
import Derived.Test.YtadikegdadnahaaT24
namespace Go.Ev
open Go.Proofs
set_option maxRecDepth 100000
set_option linter.unusedSimpArgs false
set_option linter.unusedVariables false
set_option maxHeartbeats 4000000
structure SPt where
  (cost prio : Int) (ed ad up : Bool)
  deriving Inhabited
structure SET where
  (id n0 n1 n2 : Int)
def encSP (p : SPt) : List SV := [.raw (.int .u8 p.cost), .raw (.int .u8 p.prio), .raw (.bool p.ed), .raw (.bool p.ad), .raw (.bool p.up)]
theorem pull_SP (σ : List Nat) (p : SPt) : (encSP p).map (pullS σ) = encSP p := rfl
def madeP (s : SPt) : PE := ⟨1, 0, false, IntKind.u32.wrap (1 + IntKind.u32.wrap (Int.tmod s.cost 4)), IntKind.i64.wrap (Int.tmod s.prio 3), s.ed, s.ad, s.up, false, false, 0, 0, 0, ⟨0, 0, 0, 0⟩, 0, 0, 0, 0⟩
def madeC (x : SET) : CF := ⟨IntKind.u64.wrap (1 + IntKind.u64.wrap (Int.tmod x.id 8)), IntKind.i64.wrap (6 + IntKind.i64.wrap (Int.tmod x.n0 6)), IntKind.i64.wrap (1 + IntKind.i64.wrap (Int.tmod x.n1 3)), IntKind.i64.wrap (1 + IntKind.i64.wrap (Int.tmod x.n2 5)), 8, 20⟩
def madeA (x : SET) (xs : List SPt) : AS := ⟨madeC x, fun _ => 0, [], [], [], (xs.take 6).map madeP, 0, [], []⟩
theorem madeA_len (x : SET) (xs : List SPt) : (madeA x xs).ps.length ≤ 6 := by simp [madeA]; omega
def encSET (x : SET) (c n : Nat) : List SV := [.raw (.int .u8 x.id), .raw (.int .u8 x.n0), .raw (.int .u8 x.n1), .raw (.int .u8 x.n2), .slice c 0 n]
def rowM (x : SET) (s : SV) : List SV := [.raw (.int .u64 (madeC x).id), .raw (.int .i64 (madeC x).ma), .raw (.int .i64 (madeC x).he), .raw (.int .i64 (madeC x).de), .raw (.int .i64 8), .raw (.int .i64 20), s, .raw (.slice none 0 0), .raw (.slice none 0 0), .raw (.slice none 0 0), .raw (.int .u32 0), .raw (.int .u32 0), .raw (.int .u32 0), .raw (.int .u32 0), .raw (.int .u32 0), .raw (.int .u32 0), .raw (.int .u32 0), .raw (.int .u32 0), .raw (.int .u32 0), .raw (.int .u32 0), .raw (.int .u32 0), .raw (.int .u32 0), .raw (.int .u32 0), .raw (.int .u32 0), .raw (.int .i64 0)]
def I_md (x : SET) (xs : List SPt) (m : Nat) (tm : TM) (H : Heap) : Prop := ∃ i : Nat, m = xs.length - i ∧ i ≤ xs.length ∧ i ≤ 6 ∧ get tm 1 = .s (.ptr 1 0 0) ∧ get tm 2 = .s (.ptr 2 0 0) ∧ get tm 3 = .s (.ptr 3 0 0) ∧ get tm 4 = .s (.raw (.int .i64 (i : Int))) ∧
  H = [.rows false 5 (xs.map encSP), .rows true 5 [encSET x 0 xs.length], .rows true 25 [zS], .rows true 25 [rowM x (.slice 4 0 i)], cP ((xs.take i).map madeP)]
theorem c_Made (x : SET) (xs : List SPt) : FunW Try.prog 8 [.rows false 5 (xs.map encSP)] [] [.a (encSET x 0 xs.length)] fun r Hn => r = .a (rowS 1 2 3 4 (madeA x xs)) ∧ Hn = [cP (madeA x xs).ps, cV [], cS [], cD []] := by
  refine funW_of fun X => ?_
  refine callK_inline (rs := [.cell 2 42]) (n := 70) Try.func8 rfl rfl rfl (by kernel_rfl) (by kernel_rfl) (by simp only [List.length_cons, List.length_nil]; decide) ?_
  repeat' first
    | with_reducible rfl
    | simp only [encSET, RS_, FB_, segR, ST_, seval, ne_eq, bne, forall_const, implies_true, TY_, WLS]
    | (with_reducible refine drawK_id ?_); refine drawK_auto hmix (by kernel_rfl) ?_
    | (with_reducible refine draw_fin ?_ ?_); · kernel_rfl
    | (with_reducible refine draw_id ?_); kernel_rfl
    | (with_reducible refine And.intro ?_ ?_; · omega)
  refine loopK_wk (by kernel_rfl) (I_md x xs) xs.length ⟨_, _, Wk.can [(21, 3, 0, 6)] [.inl 0, .inl 1, .inl 2, .inl 3, .inr 0] rfl (by simp [patL]), 0, by omega, by omega, by omega, ?_, ?_, ?_, ?_, ?_⟩ ?_
  · simp [Function.comp_def, get_gcT, get, put, gcI, pullI, push1, pushI, pullS, pushS, gcH, patL, canL, canH, canTL, canT, segR, ix, upd, up1, mapC_rows, mapC_gone, pushC_rows, pushC_gone, pullP, pullV, pullSS, pullD, pullT, pullF, pushP, pushV, pushSS, pushD, pushT, pushF, pullD16, pushD16, encSET, zS, rowM, madeC, pull_SP, cP_s, encPEs_pull, encPEs]
  · simp [Function.comp_def, get_gcT, get, put, gcI, pullI, push1, pushI, pullS, pushS, gcH, patL, canL, canH, canTL, canT, segR, ix, upd, up1, mapC_rows, mapC_gone, pushC_rows, pushC_gone, pullP, pullV, pullSS, pullD, pullT, pullF, pushP, pushV, pushSS, pushD, pushT, pushF, pullD16, pushD16, encSET, zS, rowM, madeC, pull_SP, cP_s, encPEs_pull, encPEs]
  · simp [Function.comp_def, get_gcT, get, put, gcI, pullI, push1, pushI, pullS, pushS, gcH, patL, canL, canH, canTL, canT, segR, ix, upd, up1, mapC_rows, mapC_gone, pushC_rows, pushC_gone, pullP, pullV, pullSS, pullD, pullT, pullF, pushP, pushV, pushSS, pushD, pushT, pushF, pullD16, pushD16, encSET, zS, rowM, madeC, pull_SP, cP_s, encPEs_pull, encPEs]
  · simp [Function.comp_def, get_gcT, get, put, gcI, pullI, push1, pushI, pullS, pushS, gcH, patL, canL, canH, canTL, canT, segR, ix, upd, up1, mapC_rows, mapC_gone, pushC_rows, pushC_gone, pullP, pullV, pullSS, pullD, pullT, pullF, pushP, pushV, pushSS, pushD, pushT, pushF, pullD16, pushD16, encSET, zS, rowM, madeC, pull_SP, cP_s, encPEs_pull, encPEs]
  · simp [Function.comp_def, get_gcT, get, put, gcI, pullI, push1, pushI, pullS, pushS, gcH, patL, canL, canH, canTL, canT, segR, ix, upd, up1, mapC_rows, mapC_gone, pushC_rows, pushC_gone, pullP, pullV, pullSS, pullD, pullT, pullF, pushP, pushV, pushSS, pushD, pushT, pushF, pullD16, pushD16, encSET, zS, rowM, madeC, pull_SP, cP_s, encPEs_pull, encPEs]
  rintro m tm H ⟨i, rfl, hi, hi6, g1, g2, g3, g4, rfl⟩
  have htl : ((xs.take i).map madeP).length = i := by simp; omega
  have ctrue : ∀ hq : i < xs.length ∧ i < 6, True := fun _ => trivial
  cases q : decide ((i : Int) < (xs.length : Int)) with
  | true =>
    have qa := of_decide_eq_true q
    cases q6 : decide ((i : Int) < 6) with
    | true =>
      have qb := of_decide_eq_true q6
      have hb0 : (0 : Int) ≤ (i : Int) := by omega
      have hbN : (i : Int) < (xs.length : Int) := by omega
      have hi1 : IntKind.i64.wrap ((i : Int) + 1) = ((i + 1 : Nat) : Int) := by rw [wr_i64 (by omega) (by omega)]; rfl
      obtain ⟨p, hp⟩ : ∃ p, xs[i]? = some p := ⟨_, List.getElem?_eq_getElem (by omega)⟩
      have hpr : (xs.map encSP)[i]? = some (encSP p) := by rw [List.getElem?_map, hp]; rfl
      have hnx : (xs.take (i + 1)).map madeP = (xs.take i).map madeP ++ [madeP p] := by
        rw [List.take_add_one, hp]; simp
      generalize (xs.take i).map madeP = L at *
      have hcP := cP_s
      have hel : (encPEs L).length = i := by rw [encPEs_len, htl]
      have hbig : (i + 1) * 136 ≤ 140737488355328 := by omega
      repeat' first
        | with_reducible rfl
        | simp only [encSET, rowM, madeC, hcP, hel, q, q6, hb0, hbN, hi1, hpr, encSP, g1, g2, g3, g4, Int.toNat_natCast, RS_, FB_, segR, ST_, seval, ne_eq, bne, forall_const, implies_true, TY_, WLS]
        | (with_reducible refine drawK_id ?_); refine drawK_auto hmix (by kernel_rfl) ?_
        | (with_reducible refine draw_fin ?_ ?_); · kernel_rfl
        | (with_reducible refine draw_id ?_); kernel_rfl
        | (with_reducible refine And.intro ?_ ?_; · omega)
      refine ⟨xs.length - (i + 1), _, _, by omega, Wk.can [(21, 3, 0, 6)] [.inl 0, .inl 1, .inl 2, .inl 3, .inr 0] rfl (by simp [patL]), i + 1, rfl, by omega, by omega, ?_, ?_, ?_, ?_, ?_⟩ <;> first | (simp [Function.comp_def, get_gcT, get, put, gcI, pullI, push1, pushI, pullS, pushS, gcH, patL, canL, canH, canTL, canT, segR, ix, upd, up1, mapC_rows, mapC_gone, pushC_rows, pushC_gone, pullP, pullV, pullSS, pullD, pullT, pullF, pushP, pushV, pushSS, pushD, pushT, pushF, pullD16, pushD16, encSET, zS, rowM, madeC, pull_SP, cP_s, encPEs_pull, g1, g2, g3, g4, hi1, hel]; done) | (rw [hnx]; simp [Function.comp_def, get_gcT, get, put, gcI, pullI, push1, pushI, pullS, pushS, gcH, patL, canL, canH, canTL, canT, segR, ix, upd, up1, mapC_rows, mapC_gone, pushC_rows, pushC_gone, pullP, pullV, pullSS, pullD, pullT, pullF, pushP, pushV, pushSS, pushD, pushT, pushF, pullD16, pushD16, encSET, zS, rowM, madeC, pull_SP, cP_s, encPEs_pull, hel, htl, hi1, encPEs, madeP, encPE, List.map_append])
    | false =>
      have qb := of_decide_eq_false q6
      have hin : xs.take i = xs.take 6 := by
        have : i = 6 := by omega
        rw [this]
      have hln : (madeA x xs).ps.length = i := by simp only [madeA]; rw [← hin]; exact htl
      have hps : (madeA x xs).ps = (xs.take i).map madeP := by simp only [madeA]; rw [hin]
      repeat' first
        | with_reducible rfl
        | simp only [encSET, rowM, zS, q, q6, g1, g2, g3, g4, List.length_map, RS_, FB_, segR, ST_, seval, ne_eq, bne, forall_const, implies_true, TY_, WLS]
        | (with_reducible refine drawK_id ?_); refine drawK_auto hmix (by kernel_rfl) ?_
        | (with_reducible refine draw_fin ?_ ?_); · kernel_rfl
        | (with_reducible refine draw_id ?_); kernel_rfl
        | (with_reducible refine And.intro ?_ ?_; · omega)
      refine ⟨.a (rowS 1 2 3 4 (madeA x xs)), [cP (madeA x xs).ps, cV [], cS [], cD []], ((((WkR.gc [0, 4] rfl (by decide)).trans (WkR.nilR 0 7 3 rfl)).trans (WkR.nilR 0 8 8 rfl)).trans (WkR.nilR 0 9 9 rfl)).to ?_ ?_, by simp, rfl, rfl⟩
      · simp [gcI, pullI, pullS, ix, gcH, rowS, madeA, madeC, ← hln] 
        try omega
      · rw [hps]; simp [gcH, cV, cS, cD, rawR, mapC_rows, pull_SP, pullP, Function.comp_def]
  | false =>
    have qa := of_decide_eq_false q
    have hin : xs.take i = xs.take 6 := by
      have : i = xs.length := by omega
      rw [this, List.take_of_length_le (Nat.le_refl _), List.take_of_length_le (by omega)]
    have hln : (madeA x xs).ps.length = i := by simp only [madeA]; rw [← hin]; exact htl
    have hps : (madeA x xs).ps = (xs.take i).map madeP := by simp only [madeA]; rw [hin]
    repeat' first
      | with_reducible rfl
      | simp only [encSET, rowM, zS, q, g1, g2, g3, g4, List.length_map, RS_, FB_, segR, ST_, seval, ne_eq, bne, forall_const, implies_true, TY_, WLS]
      | (with_reducible refine drawK_id ?_); refine drawK_auto hmix (by kernel_rfl) ?_
      | (with_reducible refine draw_fin ?_ ?_); · kernel_rfl
      | (with_reducible refine draw_id ?_); kernel_rfl
      | (with_reducible refine And.intro ?_ ?_; · omega)
    refine ⟨.a (rowS 1 2 3 4 (madeA x xs)), [cP (madeA x xs).ps, cV [], cS [], cD []], ((((WkR.gc [0, 4] rfl (by decide)).trans (WkR.nilR 0 7 3 rfl)).trans (WkR.nilR 0 8 8 rfl)).trans (WkR.nilR 0 9 9 rfl)).to ?_ ?_, by simp, rfl, rfl⟩
    · simp [gcI, pullI, pullS, ix, gcH, rowS, madeA, madeC, ← hln] 
      try omega
    · rw [hps]; simp [gcH, cV, cS, cD, rawR, mapC_rows, pull_SP, pullP, Function.comp_def]
end Go.Ev
