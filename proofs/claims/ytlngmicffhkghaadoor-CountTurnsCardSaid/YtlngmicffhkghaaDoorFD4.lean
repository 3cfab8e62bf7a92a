/- CountTurns: counts that are put together in any order are the same. Whatever the input; the table of powers of ten of the standard library reads as its initialiser lays it (tied to the text of the program). -/
import Derived.Test.YtlngmicffhkghaaDoorRows
import Derived.Test.YtlngmicffhkghaaDoorCards
import Derived.Test.YtlngmicffhkghaaDoorTie
import Derived.Test.YtlngmicffhkghaaDoorD6
import Derived.ProofKit
import Derived.LaidMore
import Derived.OpenShut
import Derived.Stop.Joined
import Derived.Stop.LaidErr
import Derived.SevenTiedAt
set_option maxRecDepth 100000
set_option linter.unusedSimpArgs false
set_option linter.unusedVariables false
set_option maxHeartbeats 4000000
namespace Go.Proofs.YtlngmicffhkghaaDoor
open Go.ChangeShapes Go.WideShapes Go.ChangeAt Go.RowKit Go.Ev
theorem Tryd.own : ownKnob Tryd.prog.godebug = none := by kernel_rfl
theorem Tryd.laidOut : laidOutB Tryd.prog = true := by kernel_rfl
theorem countTurns_fun (ivs : List IV) (h : TypedA [(23, [.int .u32, .int .u32, .int .u32, .int .u32, .int .u32, .int .u32, .int .u32, .int .u32, .int .u32, .int .u32, .int .u32, .int .u32, .int .u32, .int .u32], true), (23, [.int .u32, .int .u32, .int .u32, .int .u32, .int .u32, .int .u32, .int .u32, .int .u32, .int .u32, .int .u32, .int .u32, .int .u32, .int .u32, .int .u32], true), (23, [.int .u32, .int .u32, .int .u32, .int .u32, .int .u32, .int .u32, .int .u32, .int .u32, .int .u32, .int .u32, .int .u32, .int .u32, .int .u32, .int .u32], true)] ivs) : FunT TT Tryd.prog 4 ivs (.s (.raw (.bool true))) := by
  obtain ⟨ys0_, iv0, t0_, rfl, h0_⟩ := t_cons h
  obtain ⟨x0_0, ys0_0, rfl, hl_x0_0, hu_x0_0, t0_1⟩ := ty_int t0_
  obtain ⟨x0_1, ys0_1, rfl, hl_x0_1, hu_x0_1, t0_2⟩ := ty_int t0_1
  obtain ⟨x0_2, ys0_2, rfl, hl_x0_2, hu_x0_2, t0_3⟩ := ty_int t0_2
  obtain ⟨x0_3, ys0_3, rfl, hl_x0_3, hu_x0_3, t0_4⟩ := ty_int t0_3
  obtain ⟨x0_4, ys0_4, rfl, hl_x0_4, hu_x0_4, t0_5⟩ := ty_int t0_4
  obtain ⟨x0_5, ys0_5, rfl, hl_x0_5, hu_x0_5, t0_6⟩ := ty_int t0_5
  obtain ⟨x0_6, ys0_6, rfl, hl_x0_6, hu_x0_6, t0_7⟩ := ty_int t0_6
  obtain ⟨x0_7, ys0_7, rfl, hl_x0_7, hu_x0_7, t0_8⟩ := ty_int t0_7
  obtain ⟨x0_8, ys0_8, rfl, hl_x0_8, hu_x0_8, t0_9⟩ := ty_int t0_8
  obtain ⟨x0_9, ys0_9, rfl, hl_x0_9, hu_x0_9, t0_10⟩ := ty_int t0_9
  obtain ⟨x0_10, ys0_10, rfl, hl_x0_10, hu_x0_10, t0_11⟩ := ty_int t0_10
  obtain ⟨x0_11, ys0_11, rfl, hl_x0_11, hu_x0_11, t0_12⟩ := ty_int t0_11
  obtain ⟨x0_12, ys0_12, rfl, hl_x0_12, hu_x0_12, t0_13⟩ := ty_int t0_12
  obtain ⟨x0_13, ys0_13, rfl, hl_x0_13, hu_x0_13, t0_14⟩ := ty_int t0_13
  obtain rfl := ty_nil t0_14
  obtain ⟨ys1_, iv1, t1_, rfl, h1_⟩ := t_cons h0_
  obtain ⟨x1_0, ys1_0, rfl, hl_x1_0, hu_x1_0, t1_1⟩ := ty_int t1_
  obtain ⟨x1_1, ys1_1, rfl, hl_x1_1, hu_x1_1, t1_2⟩ := ty_int t1_1
  obtain ⟨x1_2, ys1_2, rfl, hl_x1_2, hu_x1_2, t1_3⟩ := ty_int t1_2
  obtain ⟨x1_3, ys1_3, rfl, hl_x1_3, hu_x1_3, t1_4⟩ := ty_int t1_3
  obtain ⟨x1_4, ys1_4, rfl, hl_x1_4, hu_x1_4, t1_5⟩ := ty_int t1_4
  obtain ⟨x1_5, ys1_5, rfl, hl_x1_5, hu_x1_5, t1_6⟩ := ty_int t1_5
  obtain ⟨x1_6, ys1_6, rfl, hl_x1_6, hu_x1_6, t1_7⟩ := ty_int t1_6
  obtain ⟨x1_7, ys1_7, rfl, hl_x1_7, hu_x1_7, t1_8⟩ := ty_int t1_7
  obtain ⟨x1_8, ys1_8, rfl, hl_x1_8, hu_x1_8, t1_9⟩ := ty_int t1_8
  obtain ⟨x1_9, ys1_9, rfl, hl_x1_9, hu_x1_9, t1_10⟩ := ty_int t1_9
  obtain ⟨x1_10, ys1_10, rfl, hl_x1_10, hu_x1_10, t1_11⟩ := ty_int t1_10
  obtain ⟨x1_11, ys1_11, rfl, hl_x1_11, hu_x1_11, t1_12⟩ := ty_int t1_11
  obtain ⟨x1_12, ys1_12, rfl, hl_x1_12, hu_x1_12, t1_13⟩ := ty_int t1_12
  obtain ⟨x1_13, ys1_13, rfl, hl_x1_13, hu_x1_13, t1_14⟩ := ty_int t1_13
  obtain rfl := ty_nil t1_14
  obtain ⟨ys2_, iv2, t2_, rfl, h2_⟩ := t_cons h1_
  obtain ⟨x2_0, ys2_0, rfl, hl_x2_0, hu_x2_0, t2_1⟩ := ty_int t2_
  obtain ⟨x2_1, ys2_1, rfl, hl_x2_1, hu_x2_1, t2_2⟩ := ty_int t2_1
  obtain ⟨x2_2, ys2_2, rfl, hl_x2_2, hu_x2_2, t2_3⟩ := ty_int t2_2
  obtain ⟨x2_3, ys2_3, rfl, hl_x2_3, hu_x2_3, t2_4⟩ := ty_int t2_3
  obtain ⟨x2_4, ys2_4, rfl, hl_x2_4, hu_x2_4, t2_5⟩ := ty_int t2_4
  obtain ⟨x2_5, ys2_5, rfl, hl_x2_5, hu_x2_5, t2_6⟩ := ty_int t2_5
  obtain ⟨x2_6, ys2_6, rfl, hl_x2_6, hu_x2_6, t2_7⟩ := ty_int t2_6
  obtain ⟨x2_7, ys2_7, rfl, hl_x2_7, hu_x2_7, t2_8⟩ := ty_int t2_7
  obtain ⟨x2_8, ys2_8, rfl, hl_x2_8, hu_x2_8, t2_9⟩ := ty_int t2_8
  obtain ⟨x2_9, ys2_9, rfl, hl_x2_9, hu_x2_9, t2_10⟩ := ty_int t2_9
  obtain ⟨x2_10, ys2_10, rfl, hl_x2_10, hu_x2_10, t2_11⟩ := ty_int t2_10
  obtain ⟨x2_11, ys2_11, rfl, hl_x2_11, hu_x2_11, t2_12⟩ := ty_int t2_11
  obtain ⟨x2_12, ys2_12, rfl, hl_x2_12, hu_x2_12, t2_13⟩ := ty_int t2_12
  obtain ⟨x2_13, ys2_13, rfl, hl_x2_13, hu_x2_13, t2_14⟩ := ty_int t2_13
  obtain rfl := ty_nil t2_14
  obtain rfl := t_nil h2_
  exact law4 x0_0 x0_1 x0_2 x0_3 x0_4 x0_5 x0_6 x0_7 x0_8 x0_9 x0_10 x0_11 x0_12 x0_13 x1_0 x1_1 x1_2 x1_3 x1_4 x1_5 x1_6 x1_7 x1_8 x1_9 x1_10 x1_11 x1_12 x1_13 x2_0 x2_1 x2_2 x2_3 x2_4 x2_5 x2_6 x2_7 x2_8 x2_9 x2_10 x2_11 x2_12 x2_13 hl_x0_0 hu_x0_0 hl_x0_1 hu_x0_1 hl_x0_2 hu_x0_2 hl_x0_3 hu_x0_3 hl_x0_4 hu_x0_4 hl_x0_5 hu_x0_5 hl_x0_6 hu_x0_6 hl_x0_7 hu_x0_7 hl_x0_8 hu_x0_8 hl_x0_9 hu_x0_9 hl_x0_10 hu_x0_10 hl_x0_11 hu_x0_11 hl_x0_12 hu_x0_12 hl_x0_13 hu_x0_13 hl_x1_0 hu_x1_0 hl_x1_1 hu_x1_1 hl_x1_2 hu_x1_2 hl_x1_3 hu_x1_3 hl_x1_4 hu_x1_4 hl_x1_5 hu_x1_5 hl_x1_6 hu_x1_6 hl_x1_7 hu_x1_7 hl_x1_8 hu_x1_8 hl_x1_9 hu_x1_9 hl_x1_10 hu_x1_10 hl_x1_11 hu_x1_11 hl_x1_12 hu_x1_12 hl_x1_13 hu_x1_13 hl_x2_0 hu_x2_0 hl_x2_1 hu_x2_1 hl_x2_2 hu_x2_2 hl_x2_3 hu_x2_3 hl_x2_4 hu_x2_4 hl_x2_5 hu_x2_5 hl_x2_6 hu_x2_6 hl_x2_7 hu_x2_7 hl_x2_8 hu_x2_8 hl_x2_9 hu_x2_9 hl_x2_10 hu_x2_10 hl_x2_11 hu_x2_11 hl_x2_12 hu_x2_12 hl_x2_13 hu_x2_13
def laidL : List (String × DataW Unit) := Rows.countTurnsRow.laid
theorem door_met (os : Os) (args : Array Value) : laidMetH Tryd.prog laidL ((World.doorLaid Tryd.prog 400 os).forCall (fun _ _ => 0) ⟨#[], args, []⟩).memory :=
  laidMetH_of_parts3 (fuel := 8) (laidMet_of_run' 8 (by kernel_rfl) (by kernel_rfl)) (by kernel_rfl) (by kernel_rfl)
theorem tab_data : (Rows.laid_internal_strconv_uint64pow10 : DataW Unit) = Lib.tabData .u64 Lib.pow10Tab := by kernel_rfl
theorem tt_of (W : World) (h : laidMetH Tryd.prog laidL W) : TT W := by
  rw [MakeChecks.laidMetH_plain _ _ _ (by kernel_rfl)] at h
  have h2 : laidMet Tryd.prog (("internal/strconv.uint64pow10", Rows.laid_internal_strconv_uint64pow10) :: []) W := h.tail.tail
  rw [tab_data] at h2
  exact Lib.tabIs_of_head (g := 2) (t := 95) (e := 30) (n := 20) (by kernel_rfl) (by kernel_rfl) (by kernel_rfl) (by kernel_rfl) (by kernel_rfl) (by kernel_rfl) h2
theorem countTurns_lifted (os : Os) (started : os.Started) (H : Type) (enc : TypeId × Value → H) :
    ReturnsInHanded {} Tryd.checked os 4 .any (fun w args => (Rows.countTurnsSpec.pre enc Tryd.prog Tryd.f4 [] false w args ∧ laidMetH Tryd.prog laidL w) ∧ sizedMet enc Tryd.prog Tryd.f4 (OpenSpec.ofChange Rows.countTurnsSpec) false w args)
      (Rows.countTurnsSpec.post enc Tryd.prog Tryd.f4 false true false false) :=
  law_liftedT (bt := 4) (C := Tryd.checked) (XL := fun w => laidMetH Tryd.prog laidL w) (fun _ _ hh h => h.of_heap hh) Tryd.own started (by kernel_rfl) Tryd.func4
    (ChangeSpec.witness_shaped (enc := enc) (C := Tryd.checked) (os := os) (X := fun w _ => laidMetH Tryd.prog laidL w) false (World.doorLaid Tryd.prog 400 os) #[.agg #[(.int .u32 0), (.int .u32 0), (.int .u32 0), (.int .u32 0), (.int .u32 0), (.int .u32 0), (.int .u32 0), (.int .u32 0), (.int .u32 0), (.int .u32 0), (.int .u32 0), (.int .u32 0), (.int .u32 0), (.int .u32 0)], .agg #[(.int .u32 0), (.int .u32 0), (.int .u32 0), (.int .u32 0), (.int .u32 0), (.int .u32 0), (.int .u32 0), (.int .u32 0), (.int .u32 0), (.int .u32 0), (.int .u32 0), (.int .u32 0), (.int .u32 0), (.int .u32 0)], .agg #[(.int .u32 0), (.int .u32 0), (.int .u32 0), (.int .u32 0), (.int .u32 0), (.int .u32 0), (.int .u32 0), (.int .u32 0), (.int .u32 0), (.int .u32 0), (.int .u32 0), (.int .u32 0), (.int .u32 0), (.int .u32 0)]] 8 rfl (World.shaped_of_RefB (by kernel_rfl) (by kernel_rfl)) (by kernel_rfl) (by kernel_rfl) (by kernel_rfl) (door_met os _))
    rfl Tryd.underlying4 Tryd.laidOut rfl (by kernel_rfl)
    (fun ds hd => by
      obtain ⟨d0, d1, d2, rfl⟩ := ds_3 (n := 3) (ds := ds) hd
      rfl)
    (hcall_scalT tt_of [(23, [.int .u32, .int .u32, .int .u32, .int .u32, .int .u32, .int .u32, .int .u32, .int .u32, .int .u32, .int .u32, .int .u32, .int .u32, .int .u32, .int .u32], true), (23, [.int .u32, .int .u32, .int .u32, .int .u32, .int .u32, .int .u32, .int .u32, .int .u32, .int .u32, .int .u32, .int .u32, .int .u32, .int .u32, .int .u32], true), (23, [.int .u32, .int .u32, .int .u32, .int .u32, .int .u32, .int .u32, .int .u32, .int .u32, .int .u32, .int .u32, .int .u32, .int .u32, .int .u32, .int .u32], true)] rfl (by
      intro e he
      simp only [List.mem_cons, List.not_mem_nil, or_false] at he
      rcases he with rfl | rfl | rfl
      · exact ⟨by kernel_rfl, by kernel_rfl⟩
      · exact ⟨by kernel_rfl, by kernel_rfl⟩
      · exact ⟨by kernel_rfl, by kernel_rfl⟩) (countTurns_fun))
theorem countTurns_row_holds : Rows.CountTurnsSaid :=
  OpenClaim.holds_of_wide 4 Tryd.f4 rfl rfl rfl rfl rfl rfl rfl ⟨rfl, rfl, rfl, rfl, rfl⟩ rfl rfl rfl rfl rfl (by kernel_rfl) Tryd.func4 (by kernel_rfl)
    (of_decide_eq_true (by kernel_rfl)) (by unfold Func.isWrapper; rw [if_neg (by decide +kernel)]; exact ⟨rfl, rfl⟩)
    (fun os started H enc _ => countTurns_lifted os started H enc)
theorem countTurns_holds : Rows.CountTurnsCardSaid :=
  Claim7.holds_tied_plain_at .later [] [.data, .data, .data] true (true, "4948c2332ce376c8a5d6f0241899daf4bb1ee39eac55a7db9bd07ce687eb3f75") false
    countTurns_row_holds (fun _ h => by cases h) (by kernel_rfl) (fun _ h => by cases h) countTurns_row_tie rfl ⟨rfl, rfl⟩ (by kernel_rfl) rfl
    (fun f fn hf hfn => by
      obtain rfl : f = 4 := Option.some.inj ((show Tryd.prog.funcNamed "girder/girderlaw13.CountTurns" = some 4 by kernel_rfl).symm.trans hf) |>.symm
      obtain rfl : fn = Tryd.f4 := (Option.some.inj (Tryd.func4.symm.trans hfn)).symm
      exact ⟨by kernel_rfl, fun j t ht => by
        rw [Tryd.params4] at ht
        have hm : t ∈ [23, 23, 23] := by simpa using Array.mem_of_getElem? ht
        have hall : ([23, 23, 23].all fun u => !Tryd.prog.wantsStandIn u) = true := by kernel_rfl
        exact (show Tryd.prog.wantsStandIn t = false by simpa using List.all_eq_true.1 hall t hm)⟩)
    (by kernel_rfl)
end Go.Proofs.YtlngmicffhkghaaDoor
