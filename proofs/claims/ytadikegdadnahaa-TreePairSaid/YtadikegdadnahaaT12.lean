/- A part of the proof: contracts of the functions that the statement reaches. -/
import Derived.Test.YtadikegdadnahaaT11
import Derived.Test.YtadikegdadnahaaEvD
namespace Go.Ev
open Go.Proofs
set_option maxRecDepth 100000
set_option linter.unusedSimpArgs false
set_option linter.unusedVariables false
set_option maxHeartbeats 4000000
theorem sl_P : Try.prog.underlying 34 = some (.slice 67) := by kernel_rfl
theorem c_CloneP (els : List (List SV)) (hl : els.length ≤ 100000) (hp : ∀ σ, els.map (fun r => r.map (pullS σ)) = els) : FunW Try.prog 39 [.rows false 21 els] [] [.s (.slice 0 0 els.length)] fun r Hn => r = .s (.slice 1 0 els.length) ∧ Hn = [.rows true 21 els] := by
  refine funW_of fun X => ?_
  refine callK_inline (rs := [.tmp 2]) (n := 8) Try.func39 rfl rfl rfl (by kernel_rfl) (by kernel_rfl) (by simp only [List.length_cons, List.length_nil]; decide) ?_
  repeat' first
    | with_reducible rfl
    | simp only [List.length_map, RS_, FB_, segR, ST_, seval, ne_eq, bne, forall_const, implies_true, TY_, WLS]
    | (with_reducible refine drawK_id ?_); refine drawK_auto hmix (by kernel_rfl) ?_
    | (with_reducible refine draw_fin ?_ ?_); · kernel_rfl
    | (with_reducible refine draw_id ?_); kernel_rfl
    | ((with_reducible refine genK_id ?_); refine eqnil_gen sl_P rfl (fun hn => ?_) ?_)
    | (with_reducible refine And.intro ?_ ?_; · omega)
  · have h0 : els = [] := List.length_eq_zero_iff.1 hn
    subst h0
    refine ⟨.s (.slice 1 0 0), [.rows true 21 []], (WkR.nilR 0 0 21 rfl).to rfl rfl, by simp, rfl, rfl⟩
  · refine ⟨.s (.slice 1 0 els.length), [.rows true 21 els], (WkR.gc [0, 2] rfl (by decide)).to ?_ ?_, by simp, rfl, rfl⟩
    · simp [gcI, pullI, pullS, ix]
    · simp [gcH, mapC_rows, hp]
theorem sl_V : Try.prog.underlying 35 = some (.slice 117) := by kernel_rfl
theorem c_CloneV (els : List (List SV)) (hl : els.length ≤ 100000) (hp : ∀ σ, els.map (fun r => r.map (pullS σ)) = els) : FunW Try.prog 40 [.rows false 3 els] [] [.s (.slice 0 0 els.length)] fun r Hn => r = .s (.slice 1 0 els.length) ∧ Hn = [.rows true 3 els] := by
  refine funW_of fun X => ?_
  refine callK_inline (rs := [.tmp 2]) (n := 8) Try.func40 rfl rfl rfl (by kernel_rfl) (by kernel_rfl) (by simp only [List.length_cons, List.length_nil]; decide) ?_
  repeat' first
    | with_reducible rfl
    | simp only [List.length_map, RS_, FB_, segR, ST_, seval, ne_eq, bne, forall_const, implies_true, TY_, WLS]
    | (with_reducible refine drawK_id ?_); refine drawK_auto hmix (by kernel_rfl) ?_
    | (with_reducible refine draw_fin ?_ ?_); · kernel_rfl
    | (with_reducible refine draw_id ?_); kernel_rfl
    | ((with_reducible refine genK_id ?_); refine eqnil_gen sl_V rfl (fun hn => ?_) ?_)
    | (with_reducible refine And.intro ?_ ?_; · omega)
  · have h0 : els = [] := List.length_eq_zero_iff.1 hn
    subst h0
    refine ⟨.s (.slice 1 0 0), [.rows true 3 []], (WkR.nilR 0 0 3 rfl).to rfl rfl, by simp, rfl, rfl⟩
  · refine ⟨.s (.slice 1 0 els.length), [.rows true 3 els], (WkR.gc [0, 2] rfl (by decide)).to ?_ ?_, by simp, rfl, rfl⟩
    · simp [gcI, pullI, pullS, ix]
    · simp [gcH, mapC_rows, hp]
theorem sl_S : Try.prog.underlying 36 = some (.slice 124) := by kernel_rfl
theorem c_CloneS (els : List (List SV)) (hl : els.length ≤ 100000) (hp : ∀ σ, els.map (fun r => r.map (pullS σ)) = els) : FunW Try.prog 41 [.rows false 8 els] [] [.s (.slice 0 0 els.length)] fun r Hn => r = .s (.slice 1 0 els.length) ∧ Hn = [.rows true 8 els] := by
  refine funW_of fun X => ?_
  refine callK_inline (rs := [.tmp 2]) (n := 8) Try.func41 rfl rfl rfl (by kernel_rfl) (by kernel_rfl) (by simp only [List.length_cons, List.length_nil]; decide) ?_
  repeat' first
    | with_reducible rfl
    | simp only [List.length_map, RS_, FB_, segR, ST_, seval, ne_eq, bne, forall_const, implies_true, TY_, WLS]
    | (with_reducible refine drawK_id ?_); refine drawK_auto hmix (by kernel_rfl) ?_
    | (with_reducible refine draw_fin ?_ ?_); · kernel_rfl
    | (with_reducible refine draw_id ?_); kernel_rfl
    | ((with_reducible refine genK_id ?_); refine eqnil_gen sl_S rfl (fun hn => ?_) ?_)
    | (with_reducible refine And.intro ?_ ?_; · omega)
  · have h0 : els = [] := List.length_eq_zero_iff.1 hn
    subst h0
    refine ⟨.s (.slice 1 0 0), [.rows true 8 []], (WkR.nilR 0 0 8 rfl).to rfl rfl, by simp, rfl, rfl⟩
  · refine ⟨.s (.slice 1 0 els.length), [.rows true 8 els], (WkR.gc [0, 2] rfl (by decide)).to ?_ ?_, by simp, rfl, rfl⟩
    · simp [gcI, pullI, pullS, ix]
    · simp [gcH, mapC_rows, hp]
theorem sl_D : Try.prog.underlying 37 = some (.slice 127) := by kernel_rfl
theorem c_CloneD (els : List (List SV)) (hl : els.length ≤ 100000) (hp : ∀ σ, els.map (fun r => r.map (pullS σ)) = els) : FunW Try.prog 42 [.rows false 9 els] [] [.s (.slice 0 0 els.length)] fun r Hn => r = .s (.slice 1 0 els.length) ∧ Hn = [.rows true 9 els] := by
  refine funW_of fun X => ?_
  refine callK_inline (rs := [.tmp 2]) (n := 8) Try.func42 rfl rfl rfl (by kernel_rfl) (by kernel_rfl) (by simp only [List.length_cons, List.length_nil]; decide) ?_
  repeat' first
    | with_reducible rfl
    | simp only [List.length_map, RS_, FB_, segR, ST_, seval, ne_eq, bne, forall_const, implies_true, TY_, WLS]
    | (with_reducible refine drawK_id ?_); refine drawK_auto hmix (by kernel_rfl) ?_
    | (with_reducible refine draw_fin ?_ ?_); · kernel_rfl
    | (with_reducible refine draw_id ?_); kernel_rfl
    | ((with_reducible refine genK_id ?_); refine eqnil_gen sl_D rfl (fun hn => ?_) ?_)
    | (with_reducible refine And.intro ?_ ?_; · omega)
  · have h0 : els = [] := List.length_eq_zero_iff.1 hn
    subst h0
    refine ⟨.s (.slice 1 0 0), [.rows true 9 []], (WkR.nilR 0 0 9 rfl).to rfl rfl, by simp, rfl, rfl⟩
  · refine ⟨.s (.slice 1 0 els.length), [.rows true 9 els], (WkR.gc [0, 2] rfl (by decide)).to ?_ ?_, by simp, rfl, rfl⟩
    · simp [gcI, pullI, pullS, ix]
    · simp [gcH, mapC_rows, hp]
def rowS (p v s d : Nat) (a : AS) : List SV := [.raw (.int .u64 a.cf.id), .raw (.int .i64 a.cf.ma), .raw (.int .i64 a.cf.he), .raw (.int .i64 a.cf.de), .raw (.int .i64 a.cf.rm), .raw (.int .i64 a.cf.lv), .slice p 0 a.ps.length, .slice v 0 a.vs.length, .slice s 0 a.ss.length, .slice d 0 a.ds.length,
  .raw (.int .u32 (a.cn 0)), .raw (.int .u32 (a.cn 1)), .raw (.int .u32 (a.cn 2)), .raw (.int .u32 (a.cn 3)), .raw (.int .u32 (a.cn 4)), .raw (.int .u32 (a.cn 5)), .raw (.int .u32 (a.cn 6)), .raw (.int .u32 (a.cn 7)), .raw (.int .u32 (a.cn 8)), .raw (.int .u32 (a.cn 9)), .raw (.int .u32 (a.cn 10)), .raw (.int .u32 (a.cn 11)), .raw (.int .u32 (a.cn 12)), .raw (.int .u32 (a.cn 13)), .raw (.int .i64 a.beat)]
structure OkS (a : AS) : Prop where
  ps : a.ps.length ≤ 100
  vs : a.vs.length ≤ 100000
  ss : a.ss.length ≤ 100000
  ds : a.ds.length ≤ 100000
theorem rawR_len (l : List (List Value)) : (rawR l).length = l.length := List.length_map _
theorem rawR_pull (l : List (List Value)) (σ : List Nat) : (rawR l).map (fun r => r.map (pullS σ)) = rawR l := rawR_map (pullS σ) (fun _ => rfl) l
theorem c_CloneP' (a : AS) (h : OkS a) : FunW Try.prog 39 [rP a.ps] [] [.s (.slice 0 0 a.ps.length)] fun r Hn => r = .s (.slice 1 0 a.ps.length) ∧ Hn = [cP a.ps] := by
  have := c_CloneP (encPEs a.ps) (by rw [encPEs_len]; have := h.ps; omega) (fun σ => encPEs_pull σ _)
  rw [encPEs_len] at this
  exact this
theorem c_CloneV' (a : AS) (h : OkS a) : FunW Try.prog 40 [rV a.vs] [] [.s (.slice 0 0 a.vs.length)] fun r Hn => r = .s (.slice 1 0 a.vs.length) ∧ Hn = [cV a.vs] := by
  have := c_CloneV (rawR a.vs) (by rw [rawR_len]; exact h.vs) (rawR_pull _)
  rw [rawR_len] at this
  exact this
theorem c_CloneS' (a : AS) (h : OkS a) : FunW Try.prog 41 [rS a.ss] [] [.s (.slice 0 0 a.ss.length)] fun r Hn => r = .s (.slice 1 0 a.ss.length) ∧ Hn = [cS a.ss] := by
  have := c_CloneS (rawR a.ss) (by rw [rawR_len]; exact h.ss) (rawR_pull _)
  rw [rawR_len] at this
  exact this
theorem c_CloneD' (a : AS) (h : OkS a) : FunW Try.prog 42 [rD a.ds] [] [.s (.slice 0 0 a.ds.length)] fun r Hn => r = .s (.slice 1 0 a.ds.length) ∧ Hn = [cD a.ds] := by
  have := c_CloneD (rawR a.ds) (by rw [rawR_len]; exact h.ds) (rawR_pull _)
  rw [rawR_len] at this
  exact this
theorem roC_rP (σ : List Nat) (l : List PE) : roC σ (rP l) = rP l := by
  show Chunk.rows false _ _ = _
  unfold rP
  congr 1
  rw [List.map_map]; rfl
theorem roC_rV (σ : List Nat) (l : List (List Value)) : roC σ (rV l) = rV l := by
  show Chunk.rows false _ _ = _
  unfold rV
  congr 1
  exact rawR_pull l σ
theorem roC_rS (σ : List Nat) (l : List (List Value)) : roC σ (rS l) = rS l := by
  show Chunk.rows false _ _ = _
  unfold rS
  congr 1
  exact rawR_pull l σ
theorem roC_rD (σ : List Nat) (l : List (List Value)) : roC σ (rD l) = rD l := by
  show Chunk.rows false _ _ = _
  unfold rD
  congr 1
  exact rawR_pull l σ
theorem c_SClone (a : AS) (h : OkS a) : FunW Try.prog 18 [rP a.ps, rV a.vs, rS a.ss, rD a.ds] [] [.a (rowS 0 1 2 3 a)] fun r Hn => r = .a (rowS 4 5 6 7 a) ∧ Hn = [cP a.ps, cV a.vs, cS a.ss, cD a.ds] := by
  refine funW_of fun X => ?_
  refine callK_inline (rs := [.cell 2 42]) (n := 20) Try.func18 rfl rfl rfl (by kernel_rfl) (by kernel_rfl) (by simp only [List.length_cons, List.length_nil]; decide) ?_
  have h1 := c_CloneP' a h
  have h2 := c_CloneV' a h
  have h3 := c_CloneS' a h
  have h4 := c_CloneD' a h
  repeat' first
    | with_reducible rfl
    | simp only [rowS, rowS, mapC_rows, mapC_gone, pushC_rows, pushC_gone, pullP, pullV, pullSS, pullD, pullT, pullF, pushP, pushV, pushSS, pushD, pushT, pushF, pullD16, pushD16, RS_, FB_, segR, ST_, seval, ne_eq, bne, forall_const, implies_true, TY_, WLS]
    | (with_reducible refine drawK_id (id := 1) ?_); refine drawK_of 4 hmix (by kernel_rfl) ?_
    | (with_reducible refine drawK_id ?_); refine drawK_auto hmix (by kernel_rfl) ?_
    | (with_reducible refine draw_fin ?_ ?_); · kernel_rfl
    | (with_reducible refine draw_id ?_); kernel_rfl
    | ((with_reducible refine callD_id (f := 39) ?_); refine callD_new (Hw' := []) (Nw := [cP a.ps]) [0] [] (FunW_eq h1) (by simp [pullHW, roC_rP, roC_rV, roC_rS, roC_rD, roP, roV, roSS, roD]) rfl rfl (by decide) (by simp [rP, rV, rS, rD]) (by simp [pullI, pullS, ix]) (by simp) ?_)
    | ((with_reducible refine callD_id (f := 40) ?_); refine callD_new (Hw' := []) (Nw := [cV a.vs]) [1] [] (FunW_eq h2) (by simp [pullHW, roC_rP, roC_rV, roC_rS, roC_rD, roP, roV, roSS, roD]) rfl rfl (by decide) (by simp [rP, rV, rS, rD]) (by simp [pullI, pullS, ix]) (by simp) ?_)
    | ((with_reducible refine callD_id (f := 41) ?_); refine callD_new (Hw' := []) (Nw := [cS a.ss]) [2] [] (FunW_eq h3) (by simp [pullHW, roC_rP, roC_rV, roC_rS, roC_rD, roP, roV, roSS, roD]) rfl rfl (by decide) (by simp [rP, rV, rS, rD]) (by simp [pullI, pullS, ix]) (by simp) ?_)
    | ((with_reducible refine callD_id (f := 42) ?_); refine callD_new (Hw' := []) (Nw := [cD a.ds]) [3] [] (FunW_eq h4) (by simp [pullHW, roC_rP, roC_rV, roC_rS, roC_rD, roP, roV, roSS, roD]) rfl rfl (by decide) (by simp [rP, rV, rS, rD]) (by simp [pullI, pullS, ix]) (by simp) ?_)
    | (with_reducible refine And.intro ?_ ?_; · omega)
  refine ⟨.a (rowS 4 5 6 7 a), [cP a.ps, cV a.vs, cS a.ss, cD a.ds], (WkR.gc [0, 1, 2, 3, 6, 7, 8, 9] rfl (by decide)).to ?_ ?_, by simp, rfl, rfl⟩
  · simp [gcI, pullI, pullS, ix, rowS]
  · simp [gcH, prP, prV, prSS, prD, mapC_rows, mapC_gone, pushC_rows, pushC_gone, pullP, pullV, pullSS, pullD, pullT, pullF, pushP, pushV, pushSS, pushD, pushT, pushF, pullD16, pushD16]
end Go.Ev
