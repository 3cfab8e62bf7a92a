/- A part of the proof: contracts of the functions that the statement reaches. -/
import Derived.Test.YtpjgbfddlagcaaaDoorEvC
import Derived.Test.YtpjgbfddlagcaaaDoorP3
namespace Go.Ev
open Go.Proofs
set_option maxRecDepth 100000
set_option linter.unusedSimpArgs false
set_option linter.unusedVariables false
set_option maxHeartbeats 4000000
open Srt Go.RowKit
theorem s_0 {P : Program} {n : Nat} {X : Ctx} {c : Code} {Q : Exit → TM → Heap → Prop} {tm : TM} {H : Heap} : evS P n X 0 c Q tm H = IW P n X c Q tm H := rfl
theorem s_1 {P : Program} {n : Nat} {X : Ctx} {a b : Code} {Q : Exit → TM → Heap → Prop} {tm : TM} {H : Heap} : evS P n X 1 (.seq a b) Q tm H = ev P n X a (seqQ (evS P n X 0 b Q) Q) tm H := rfl
theorem s_2 {P : Program} {n : Nat} {X : Ctx} {a b : Code} {Q : Exit → TM → Heap → Prop} {tm : TM} {H : Heap} : evS P n X 2 (.seq a b) Q tm H = ev P n X a (seqQ (evS P n X 1 b Q) Q) tm H := rfl
theorem s_3 {P : Program} {n : Nat} {X : Ctx} {a b : Code} {Q : Exit → TM → Heap → Prop} {tm : TM} {H : Heap} : evS P n X 3 (.seq a b) Q tm H = ev P n X a (seqQ (evS P n X 2 b Q) Q) tm H := rfl
theorem s_4 {P : Program} {n : Nat} {X : Ctx} {a b : Code} {Q : Exit → TM → Heap → Prop} {tm : TM} {H : Heap} : evS P n X 4 (.seq a b) Q tm H = ev P n X a (seqQ (evS P n X 3 b Q) Q) tm H := rfl
theorem s_5 {P : Program} {n : Nat} {X : Ctx} {a b : Code} {Q : Exit → TM → Heap → Prop} {tm : TM} {H : Heap} : evS P n X 5 (.seq a b) Q tm H = ev P n X a (seqQ (evS P n X 4 b Q) Q) tm H := rfl
theorem s_6 {P : Program} {n : Nat} {X : Ctx} {a b : Code} {Q : Exit → TM → Heap → Prop} {tm : TM} {H : Heap} : evS P n X 6 (.seq a b) Q tm H = ev P n X a (seqQ (evS P n X 5 b Q) Q) tm H := rfl
theorem s_7 {P : Program} {n : Nat} {X : Ctx} {a b : Code} {Q : Exit → TM → Heap → Prop} {tm : TM} {H : Heap} : evS P n X 7 (.seq a b) Q tm H = ev P n X a (seqQ (evS P n X 6 b Q) Q) tm H := rfl
theorem s_8 {P : Program} {n : Nat} {X : Ctx} {a b : Code} {Q : Exit → TM → Heap → Prop} {tm : TM} {H : Heap} : evS P n X 8 (.seq a b) Q tm H = ev P n X a (seqQ (evS P n X 7 b Q) Q) tm H := rfl
theorem s_9 {P : Program} {n : Nat} {X : Ctx} {a b : Code} {Q : Exit → TM → Heap → Prop} {tm : TM} {H : Heap} : evS P n X 9 (.seq a b) Q tm H = ev P n X a (seqQ (evS P n X 8 b Q) Q) tm H := rfl
theorem s_10 {P : Program} {n : Nat} {X : Ctx} {a b : Code} {Q : Exit → TM → Heap → Prop} {tm : TM} {H : Heap} : evS P n X 10 (.seq a b) Q tm H = ev P n X a (seqQ (evS P n X 9 b Q) Q) tm H := rfl
theorem s_11 {P : Program} {n : Nat} {X : Ctx} {a b : Code} {Q : Exit → TM → Heap → Prop} {tm : TM} {H : Heap} : evS P n X 11 (.seq a b) Q tm H = ev P n X a (seqQ (evS P n X 10 b Q) Q) tm H := rfl
theorem clo_at {X : Ctx} {n : Nat} {ρ : Ren} {tm : TM} {a : Act} {H : Heap} {w : World} {c d t : Nat} {gf : FuncId} (ha : RelA X n ρ tm a) (hi : Inv X ρ H w) (ht : get tm t = .s (.ref c)) (hc : H[c]? = some (.clo (.func gf) [] [.s (.ptr d 0 0)])) :
    ∃ b base sz lim, ρ[d]? = some (.mem b base sz lim) ∧ a.eval (.tmp t) = .func (.func gf) #[] #[.pointer (some ⟨b, base, none⟩)] := by
  have hr := rd_rel ha (.tmp t)
  simp only [rd, ht] at hr
  obtain ⟨l, hl, f', c', rfl, hf, hcap⟩ := hi.sat c _ hc
  have hv : a.eval (.tmp t) = .func (.func gf) f'.toArray c'.toArray := by
    rcases hr with ⟨b', h⟩ | ⟨h, _⟩
    · rw [hl] at h; cases h
    · rw [hl, Option.some.injEq, Pl.val.injEq] at h; exact h.symm
  cases f' with
  | cons _ _ => exact hf.elim
  | nil =>
    cases c' with
    | nil => exact hcap.elim
    | cons v vs =>
      obtain ⟨⟨b, base, sz, lim, hd, rfl⟩, h2⟩ := hcap
      cases vs with
      | cons _ _ => exact h2.elim
      | nil => exact ⟨b, base, sz, lim, hd, by rw [hv]; simp⟩
theorem cell_at {X : Ctx} {ρ : Ren} {H : Heap} {w : World} {d sz' : Nat} {own : Bool} {v : Value} {b base sz lim : Nat} (hi : Inv X ρ H w) (hc : H[d]? = some (.rows own sz' [[.raw v]])) (hρ : ρ[d]? = some (.mem b base sz lim)) : w.cell? ⟨b, base, none⟩ = some v := by
  obtain ⟨_, vs, hrel, hcell⟩ := read_cells2 (i := 0) (o := 0) (n := 1) (l := [.raw v]) hi hc hρ rfl
  cases vs with
  | nil => exact hrel.elim
  | cons x xs =>
    have := hcell 0 x rfl
    obtain ⟨⟨rfl, _⟩, _⟩ := hrel
    simpa using this
theorem learn_okF {n T : Int} {cf : Nat} {Lf : List EN} (h : OKF n T cf Lf) (hn : 1 ≤ n) (hT : 1 ≤ T) {k : KEY} (hk : KOK k) (p : Int) : OKF n T (learnK n cf Lf k p).1.1 (learnK n cf Lf k p).1.2 := by
  cases hg : goodB k p with
  | false =>
    have : learnK n cf Lf k p = ((cf, Lf), zEN, false) := by simp [learnK, hg]
    rw [this]; exact h
  | true =>
    have h2 : 1 ≤ p ∧ p ≤ 16 := by
      simp only [goodB, Bool.and_eq_true, decide_eq_true_eq] at hg
      exact hg.2
    exact (learn_ok h hn hT hk h2.1 h2.2).1
def stC (x : Int × FRM) : List SV := .raw (.int .i64 x.1) :: frC x.2
theorem stC_pull (σ : List Nat) (x : Int × FRM) : (stC x).map (pullS σ) = stC x := rfl
theorem stC_push (σ : List Nat) (x : Int × FRM) : (stC x).map (pushS σ) = stC x := rfl
def sentC (v u : Int) (f : FRM) (l : List Int) : List (Int × FRM) := l.filterMap fun p => if (formR f v u p).2 then some (p, (formR f v u p).1) else none
theorem sentC_add (v u : Int) (f : FRM) (l : List Int) (x : Int) : sentC v u f (l ++ [x]) = sentC v u f l ++ if (formR f v u x).2 then [(x, (formR f v u x).1)] else [] := by
  unfold sentC
  rw [List.filterMap_append]
  congr 1
  cases h : (formR f v u x).2 <;> simp [h]
structure PRES where
  why : Int
  le : Bool
  ev : Bool
  sent : List (Int × FRM)
def whyN (k : Int) : Int := if k = 1 then 3 else if k = 2 then 4 else 5
def toC (Lv : List VEN) (Ls : List SEN) (n : Int) (cf : Nat) (Lf : List EN) (l : List PRT) (fr : Int) (f : FRM) (vid : Int) : Int := portsC Lv Ls (learnK n cf Lf ⟨vid, f.s⟩ fr).1.2 fr vid f.d (openC l)
def rowE (o : Option VEN) : Int × Int := match o with | some e => (e.v, e.u) | none => (0, 0)
def passT (Lv : List VEN) (Ls : List SEN) (n : Int) (cf : Nat) (Lf : List EN) (l : List PRT) (fr : Int) (f : FRM) (p : PRT) (vid : Int) : (Nat × List EN) × PRES :=
  ((learnK n cf Lf ⟨vid, f.s⟩ fr).1, if p.st == 1 then ⟨6, newB n cf Lf ⟨vid, f.s⟩ fr, (learnK n cf Lf ⟨vid, f.s⟩ fr).2.2, []⟩
    else ⟨7, newB n cf Lf ⟨vid, f.s⟩ fr, (learnK n cf Lf ⟨vid, f.s⟩ fr).2.2, sentC (rowE (lookV Lv vid)).1 (rowE (lookV Lv vid)).2 f (upN (hasP (toC Lv Ls n cf Lf l fr f vid)) 16)⟩)
def passC (Lv : List VEN) (Ls : List SEN) (n : Int) (cf : Nat) (Lf : List EN) (l : List PRT) (fr : Int) (f : FRM) : (Nat × List EN) × PRES :=
  if fr < 1 ∨ (l.length : Int) < fr then ((cf, Lf), ⟨6, false, false, []⟩) else match l[(fr - 1).toNat]? with
    | none => ((cf, Lf), ⟨6, false, false, []⟩)
    | some p => if !onP p || p.st == 0 then ((cf, Lf), ⟨6, false, false, []⟩) else if resS f.d.m0 f.d.m1 f.d.m2 f.d.m3 f.d.m4 f.d.m5 then ((cf, Lf), ⟨2, false, false, []⟩)
      else if (ingC Lv p.pv p.ac p.fi fr f).2 = 0 then passT Lv Ls n cf Lf l fr f p (ingC Lv p.pv p.ac p.fi fr f).1 else ((cf, Lf), ⟨whyN (ingC Lv p.pv p.ac p.fi fr f).2, false, false, []⟩)
def HP (l : List PRT) (cv : Nat) (Lv : List VEN) (cs : Nat) (Ls : List SEN) (n T : Int) (cf : Nat) (Lf : List EN) : Heap := [.rows true 1 [[.ref 2]], mpV cv Lv, .rows true 1 [[.ref 4]], mpS cs Ls, .rows true 3 [[.raw (.int .i64 n), .raw (.int .i64 T), .ref 6]], mpC cf Lf]
def resP (R : PRES) : IV := .a (rC (.slice 7 0 R.sent.length) R.why R.le R.ev)
theorem allW (s : Int) : FunW Tryd.prog 29 [] [] [.s (.raw (.int .u32 s))] fun r Hn => r = .s (.ref 1) ∧ Hn = [.rows true 1 [[.raw (.int .u32 s)]], .clo (.func 44) [] [.s (.ptr 0 0 0)]] := by
  refine funW_of fun X => ?_
  refine callK_inline (rs := [.tmp 2]) (n := 4) Tryd.func29 rfl rfl rfl (by kernel_rfl) (by kernel_rfl) (by simp only [List.length_cons, List.length_nil]; decide) ?_
  repeat' first
    | with_reducible rfl
    | simp only [stepG, RS_, argsTM, stepE, stBuiltin, stBox, stAlloc, stLoad, stStore, stField, stExtract, stBin, stUn, stConv, stNilCheck, stFieldV, stIndex, stIndexAddr, stLen, stMin, stMax, stBuild, fillI, stBuildSlice, setRows, stMakeSlice, stAppend, srcR, segR, rdCells, stSlice, bnd, stArr, stCopy, stConv2, isIntV, cutR, byteRows, rowByte, binStr, Option.map_some, Option.map_none, eq_self, canTL, canT, canH, canL, patL, gcH, gcT, gcI, get_gcT, mapC, pullS, pullI, pushS, push1, pushI, pushC, pullHW, roC, ix, List.map_map, Function.comp_def, List.zip_cons_cons, List.zip_nil_left, List.zip_nil_right, List.range'_zero, List.range'_succ, rd, get, put, IV.cells, ofValue, seg, spl, ldIV, binInt, eqI, cellsEq, leafEq, resI, flat, isT, upd, up1, nextM, cR, ptrC, nAl, isAl, ST_, Nat.reduceAdd, Nat.reduceMul, Nat.reduceEqDiff, Nat.reduceLeDiff, ne_eq, reduceCtorEq, reduceIte, forall_const, implies_true, Int.reduceToNat, Int.reduceLE, Int.reduceLT, bne, Int.reduceEq, Int.reduceNe, Int.reduceNeg, Int.reduceAdd, Int.reduceSub, Int.reduceMul, Int.reduceBEq, Int.reduceBNe, Nat.reduceLT, Nat.reduceSub, WLS, ]
    | (with_reducible refine drawK_id ?_); refine drawK_auto hmix (by kernel_rfl) ?_
    | (with_reducible refine draw_fin ?_ ?_); · kernel_rfl
    | (with_reducible refine draw_id ?_); kernel_rfl
    | (with_reducible refine makeFunc_gen ?_ ?_ ?_ <;> first | rfl | skip)
    | exact ⟨_, _, WkR.refl, by simp, rfl, rfl⟩
    | (with_reducible refine And.intro ?_ ?_; · omega)
end Go.Ev
