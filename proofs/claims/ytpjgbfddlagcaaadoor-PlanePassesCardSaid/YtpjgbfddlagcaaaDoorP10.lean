/- A part of the proof: contracts of the functions that the statement reaches. -/
import Derived.Test.YtpjgbfddlagcaaaDoorEvC
import Derived.Test.YtpjgbfddlagcaaaDoorP9
namespace Go.Ev
open Go.Proofs
set_option maxRecDepth 100000
set_option linter.unusedSimpArgs false
set_option linter.unusedVariables false
set_option maxHeartbeats 4000000
open Srt Go.RowKit
structure PLY where
  ps : List POQ
  ss : List STQ
  fs : List FRQ
  v : VLQ
  room : Int
/-- What stays of the law's tables and ports. -/
structure TBL where
  cv : Nat
  Lv : List VEN
  cs : Nat
  Ls : List SEN
  rm : Int
  L : List PRT
structure TOK (B : TBL) : Prop where
  v : NDkV B.Lv
  s : NDkS B.Ls
  r1 : 1 ≤ B.rm
  r2 : B.rm ≤ 6
  l : B.L.length ≤ 8
  st : ∀ y ∈ B.L, y.st = 0 ∨ y.st = 1 ∨ y.st = 2
def HX (x : PLY) : Heap := [.rows false 5 (x.ps.map poC), .rows false 2 (x.ss.map stQ), .rows false 6 (x.fs.map fqC), .rows true 10 [playC (.slice 0 0 x.ps.length) x.v (.slice 1 0 x.ss.length) x.room (.slice 2 0 x.fs.length)]]
def HB (B : TBL) (cf : Nat) (Lf : List EN) : Heap := [.rows true 1 [[.ref 5]], mpV B.cv B.Lv, .rows true 1 [[.ref 7]], mpS B.cs B.Ls, .rows true 3 [[.raw (.int .i64 B.rm), .raw (.int .i64 20), .ref 9]], mpC cf Lf, .rows true 21 (B.L.map prC), .rows true 3 [[.ptr 4 0 0, .ptr 6 0 0, .ptr 8 0 0]]]
theorem setSs_nd (cv : Nat) (Lv : List VEN) : ∀ (l : List STQ) (P : Nat × List SEN), EGT cv Lv P.1 P.2 0 [] → EGT cv Lv (setSs P l).1 (setSs P l).2 0 []
  | [], _, h => h
  | x :: l, P, h => setSs_nd cv Lv l _ (h.setS _ _)
def tblC (x : PLY) : TBL := ⟨(setV3 x.v).1, (setV3 x.v).2, (madeS x.ss).1, (madeS x.ss).2, roomC x.room, madeP x.ps⟩
theorem room_b {room : Int} (r0 : 0 ≤ room) : 1 ≤ roomC room ∧ roomC room ≤ 6 := by
  unfold roomC
  rw [Int.tmod_eq_emod_of_nonneg r0, wr_i64 (n := room % 6) (by omega) (by omega), wr_i64 (by omega) (by omega)]; omega
theorem tbl_ok (x : PLY) (r0 : 0 ≤ x.room) (hps : ∀ y ∈ x.ps, 0 ≤ y.st) : TOK (tblC x) := by
  have e1 := EGT.init.setV 1 (IntKind.u32.wrap x.v.a0) (IntKind.u32.wrap (bAnd .u16 x.v.a0 x.v.b0)) (wrap32_pos _)
  have e2 := e1.setV 2 (IntKind.u32.wrap x.v.a1) (IntKind.u32.wrap (bAnd .u16 x.v.a1 x.v.b1)) (wrap32_pos _)
  have e3 := e2.setV 3 (IntKind.u32.wrap x.v.a2) (IntKind.u32.wrap (bAnd .u16 x.v.a2 x.v.b2)) (wrap32_pos _)
  have e4 := setSs_nd _ _ (x.ss.take 6) (0, []) e3
  refine ⟨e3.v, e4.s, (room_b r0).1, (room_b r0).2, ?_, ?_⟩
  · simp [tblC, madeP]; omega
  · intro y hy
    simp only [tblC, madeP, List.mem_map] at hy
    obtain ⟨q, hq, rfl⟩ := hy
    have h0 := hps q (List.mem_of_mem_take hq)
    simp only [portC]
    rw [Int.tmod_eq_emod_of_nonneg h0, wr_i64 (by omega) (by omega)]
    omega
def shutB (L : List PRT) (fr : Int) : Bool := decide (fr < 1 ∨ (L.length : Int) < fr) || match L[(fr - 1).toNat]? with
  | none => true
  | some p => !onP p || p.st == 0
theorem shut_pass (Lv : List VEN) (Ls : List SEN) (n : Int) (cf : Nat) (Lf : List EN) (L : List PRT) (fr : Int) (f : FRM) (h : shutB L fr = true) : passC Lv Ls n cf Lf L fr f = ((cf, Lf), ⟨6, false, false, []⟩) := by
  unfold shutB at h
  unfold passC
  by_cases hr : fr < 1 ∨ (L.length : Int) < fr
  · rw [if_pos hr]
  · rw [if_neg hr]
    rw [decide_eq_false hr, Bool.false_or] at h
    cases hp : L[(fr - 1).toNat]? with
    | none => rfl
    | some p =>
      rw [hp] at h
      simp only at h ⊢
      rw [if_pos h]
end Go.Ev
