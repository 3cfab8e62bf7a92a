/- ReportBridge: the lines that a report of a bridge gives are the words of its parts. Whatever the input; the tables of the package and the table of powers of ten of the standard library read as their initialisers lay them (tied to the text of the program). -/
import Derived.Test.YtlngmicffhkghaaDoorRows
import Derived.Test.YtlngmicffhkghaaDoorCards
import Derived.Test.YtlngmicffhkghaaDoorTie
import Derived.Test.YtlngmicffhkghaaDoorE9
import Derived.ProofKit
import Derived.LaidMore
import Derived.OpenShut
import Derived.Stop.Joined
import Derived.Stop.LaidErr
import Derived.SevenTiedAt
set_option maxRecDepth 100000
set_option linter.unusedSimpArgs false
set_option linter.unusedVariables false
set_option maxHeartbeats 4000000
namespace Go.Proofs.YtlngmicffhkghaaDoor
open Go.ChangeShapes Go.WideShapes Go.ChangeAt Go.RowKit Go.Ev
theorem Tryd.own : ownKnob Tryd.prog.godebug = none := by kernel_rfl
theorem Tryd.laidOut : laidOutB Tryd.prog = true := by kernel_rfl
theorem prs_of : ∀ {els : List (List SV)}, (∀ row ∈ els, TypedL [.int .i64, .int .i64, .int .u32] row) → ∃ ps : List PR, els = ps.map encL ∧ ∀ p ∈ ps, p.c ≤ 4294967295
  | [], _ => ⟨[], rfl, fun _ h => by cases h⟩
  | row :: rest, h => by
    obtain ⟨ps, rfl, hp⟩ := prs_of (els := rest) fun r hr => h r (List.mem_cons_of_mem _ hr)
    have t := h row (List.mem_cons_self ..)
    obtain ⟨a, ys, rfl, a0, a1, t1⟩ := ty_int t
    obtain ⟨b, zs, rfl, b0, b1, t2⟩ := ty_int t1
    obtain ⟨c, ws, rfl, c0, c1, t3⟩ := ty_int t2
    obtain rfl := ty_nil t3
    obtain ⟨n, rfl⟩ := Int.eq_ofNat_of_zero_le (show (0 : Int) ≤ c from c0)
    have k : n ≤ 4294967295 := by have := (show (n : Int) ≤ 4294967295 from c1); omega
    refine ⟨⟨a, b, n⟩ :: ps, rfl, fun p h => ?_⟩
    rcases List.mem_cons.1 h with rfl | h
    · exact k
    · exact hp p h
theorem reportBridge_fun (ivs : List IV) (H0 : Heap) (h : TypedB 0 [(30, .scal [.int .u64] false), (37, .sl 54 [.int .i64, .int .i64, .int .u32]), (23, .scal [.int .u32, .int .u32, .int .u32, .int .u32, .int .u32, .int .u32, .int .u32, .int .u32, .int .u32, .int .u32, .int .u32, .int .u32, .int .u32, .int .u32] true)] ivs H0) : FunRT TB Tryd.prog 5 H0 ivs (.s (.raw (.bool true))) := by
  obtain ⟨ys0_, iv0, t0_, rfl, h0_⟩ := b_scal h
  obtain ⟨x0_0, ys0_0, rfl, hl_x0_0, hu_x0_0, t0_1⟩ := ty_int t0_
  obtain rfl := ty_nil t0_1
  obtain ⟨els1, iv1, Hp1, he1, rfl, rfl, h1_⟩ := b_sl h0_
  obtain ⟨ys2_, iv2, t2_, rfl, h2_⟩ := b_scal h1_
  obtain ⟨x2_0, ys2_0, rfl, hl_x2_0, hu_x2_0, t2_1⟩ := ty_int t2_
  obtain ⟨x2_1, ys2_1, rfl, hl_x2_1, hu_x2_1, t2_2⟩ := ty_int t2_1
  obtain ⟨x2_2, ys2_2, rfl, hl_x2_2, hu_x2_2, t2_3⟩ := ty_int t2_2
  obtain ⟨x2_3, ys2_3, rfl, hl_x2_3, hu_x2_3, t2_4⟩ := ty_int t2_3
  obtain ⟨x2_4, ys2_4, rfl, hl_x2_4, hu_x2_4, t2_5⟩ := ty_int t2_4
  obtain ⟨x2_5, ys2_5, rfl, hl_x2_5, hu_x2_5, t2_6⟩ := ty_int t2_5
  obtain ⟨x2_6, ys2_6, rfl, hl_x2_6, hu_x2_6, t2_7⟩ := ty_int t2_6
  obtain ⟨x2_7, ys2_7, rfl, hl_x2_7, hu_x2_7, t2_8⟩ := ty_int t2_7
  obtain ⟨x2_8, ys2_8, rfl, hl_x2_8, hu_x2_8, t2_9⟩ := ty_int t2_8
  obtain ⟨x2_9, ys2_9, rfl, hl_x2_9, hu_x2_9, t2_10⟩ := ty_int t2_9
  obtain ⟨x2_10, ys2_10, rfl, hl_x2_10, hu_x2_10, t2_11⟩ := ty_int t2_10
  obtain ⟨x2_11, ys2_11, rfl, hl_x2_11, hu_x2_11, t2_12⟩ := ty_int t2_11
  obtain ⟨x2_12, ys2_12, rfl, hl_x2_12, hu_x2_12, t2_13⟩ := ty_int t2_12
  obtain ⟨x2_13, ys2_13, rfl, hl_x2_13, hu_x2_13, t2_14⟩ := ty_int t2_13
  obtain rfl := ty_nil t2_14
  obtain ⟨rfl, rfl⟩ := b_nil h2_
  obtain ⟨ps, rfl, hpc⟩ := prs_of he1
  rw [List.length_map]
  obtain ⟨nx2_0, rfl⟩ := Int.eq_ofNat_of_zero_le (show (0 : Int) ≤ x2_0 from hl_x2_0)
  obtain ⟨nx2_1, rfl⟩ := Int.eq_ofNat_of_zero_le (show (0 : Int) ≤ x2_1 from hl_x2_1)
  obtain ⟨nx2_2, rfl⟩ := Int.eq_ofNat_of_zero_le (show (0 : Int) ≤ x2_2 from hl_x2_2)
  obtain ⟨nx2_3, rfl⟩ := Int.eq_ofNat_of_zero_le (show (0 : Int) ≤ x2_3 from hl_x2_3)
  obtain ⟨nx2_4, rfl⟩ := Int.eq_ofNat_of_zero_le (show (0 : Int) ≤ x2_4 from hl_x2_4)
  obtain ⟨nx2_5, rfl⟩ := Int.eq_ofNat_of_zero_le (show (0 : Int) ≤ x2_5 from hl_x2_5)
  obtain ⟨nx2_6, rfl⟩ := Int.eq_ofNat_of_zero_le (show (0 : Int) ≤ x2_6 from hl_x2_6)
  obtain ⟨nx2_7, rfl⟩ := Int.eq_ofNat_of_zero_le (show (0 : Int) ≤ x2_7 from hl_x2_7)
  obtain ⟨nx2_8, rfl⟩ := Int.eq_ofNat_of_zero_le (show (0 : Int) ≤ x2_8 from hl_x2_8)
  obtain ⟨nx2_9, rfl⟩ := Int.eq_ofNat_of_zero_le (show (0 : Int) ≤ x2_9 from hl_x2_9)
  obtain ⟨nx2_10, rfl⟩ := Int.eq_ofNat_of_zero_le (show (0 : Int) ≤ x2_10 from hl_x2_10)
  obtain ⟨nx2_11, rfl⟩ := Int.eq_ofNat_of_zero_le (show (0 : Int) ≤ x2_11 from hl_x2_11)
  obtain ⟨nx2_12, rfl⟩ := Int.eq_ofNat_of_zero_le (show (0 : Int) ≤ x2_12 from hl_x2_12)
  obtain ⟨nx2_13, rfl⟩ := Int.eq_ofNat_of_zero_le (show (0 : Int) ≤ x2_13 from hl_x2_13)
  have kx2_0 : nx2_0 ≤ 4294967295 := by have := (show (nx2_0 : Int) ≤ 4294967295 from hu_x2_0); omega
  have kx2_1 : nx2_1 ≤ 4294967295 := by have := (show (nx2_1 : Int) ≤ 4294967295 from hu_x2_1); omega
  have kx2_2 : nx2_2 ≤ 4294967295 := by have := (show (nx2_2 : Int) ≤ 4294967295 from hu_x2_2); omega
  have kx2_3 : nx2_3 ≤ 4294967295 := by have := (show (nx2_3 : Int) ≤ 4294967295 from hu_x2_3); omega
  have kx2_4 : nx2_4 ≤ 4294967295 := by have := (show (nx2_4 : Int) ≤ 4294967295 from hu_x2_4); omega
  have kx2_5 : nx2_5 ≤ 4294967295 := by have := (show (nx2_5 : Int) ≤ 4294967295 from hu_x2_5); omega
  have kx2_6 : nx2_6 ≤ 4294967295 := by have := (show (nx2_6 : Int) ≤ 4294967295 from hu_x2_6); omega
  have kx2_7 : nx2_7 ≤ 4294967295 := by have := (show (nx2_7 : Int) ≤ 4294967295 from hu_x2_7); omega
  have kx2_8 : nx2_8 ≤ 4294967295 := by have := (show (nx2_8 : Int) ≤ 4294967295 from hu_x2_8); omega
  have kx2_9 : nx2_9 ≤ 4294967295 := by have := (show (nx2_9 : Int) ≤ 4294967295 from hu_x2_9); omega
  have kx2_10 : nx2_10 ≤ 4294967295 := by have := (show (nx2_10 : Int) ≤ 4294967295 from hu_x2_10); omega
  have kx2_11 : nx2_11 ≤ 4294967295 := by have := (show (nx2_11 : Int) ≤ 4294967295 from hu_x2_11); omega
  have kx2_12 : nx2_12 ≤ 4294967295 := by have := (show (nx2_12 : Int) ≤ 4294967295 from hu_x2_12); omega
  have kx2_13 : nx2_13 ≤ 4294967295 := by have := (show (nx2_13 : Int) ≤ 4294967295 from hu_x2_13); omega
  exact law5 x0_0 hl_x0_0 hu_x0_0 ps hpc nx2_0 nx2_1 nx2_2 nx2_3 nx2_4 nx2_5 nx2_6 nx2_7 nx2_8 nx2_9 nx2_10 nx2_11 nx2_12 nx2_13 kx2_0 kx2_1 kx2_2 kx2_3 kx2_4 kx2_5 kx2_6 kx2_7 kx2_8 kx2_9 kx2_10 kx2_11 kx2_12 kx2_13
def laidL : List (String × DataW Unit) := Rows.reportBridgeRow.laid
theorem door_met (os : Os) (args : Array Value) : laidMetH Tryd.prog laidL ((World.doorLaid Tryd.prog 400 os).forCall (fun _ _ => 0) ⟨#[], args, []⟩).memory :=
  laidMetH_of_parts3 (fuel := 8) (laidMet_of_run' 8 (by kernel_rfl) (by kernel_rfl)) (by kernel_rfl) (by kernel_rfl)
theorem tab_data : (Rows.laid_internal_strconv_uint64pow10 : DataW Unit) = Lib.tabData .u64 Lib.pow10Tab := by kernel_rfl
theorem roles_data : (Rows.laid_girder_report_roles : DataW Unit) = strsD roleN := by kernel_rfl
theorem states_data : (Rows.laid_girder_report_states : DataW Unit) = strsD stateN := by kernel_rfl
theorem tt_of (W : World) (h : laidMetH Tryd.prog laidL W) : TB W := by
  rw [MakeChecks.laidMetH_plain _ _ _ (by kernel_rfl)] at h
  have h2 : laidMet Tryd.prog (("internal/strconv.uint64pow10", Rows.laid_internal_strconv_uint64pow10) :: ("girder/report.roles", Rows.laid_girder_report_roles) :: ("girder/report.states", Rows.laid_girder_report_states) :: []) W := h.tail.tail
  have h3 := h2.tail
  have h4 := h3.tail
  rw [tab_data] at h2
  rw [roles_data] at h3
  rw [states_data] at h4
  exact ⟨Lib.tabIs_of_head (g := 2) (t := 95) (e := 30) (n := 20) (by kernel_rfl) (by kernel_rfl) (by kernel_rfl) (by kernel_rfl) (by kernel_rfl) (by kernel_rfl) h2,
    stab_of (g := 0) (t := 62) (e := 9) (n := 5) (by kernel_rfl) (by kernel_rfl) (by kernel_rfl) (by kernel_rfl) (by kernel_rfl) (by kernel_rfl) h3,
    stab_of (g := 1) (t := 63) (e := 9) (n := 3) (by kernel_rfl) (by kernel_rfl) (by kernel_rfl) (by kernel_rfl) (by kernel_rfl) (by kernel_rfl) h4⟩
theorem reportBridge_lifted (os : Os) (started : os.Started) (H : Type) (enc : TypeId × Value → H) :
    ReturnsInHanded {} Tryd.checked os 5 .any (fun w args => (Rows.reportBridgeSpec.pre enc Tryd.prog Tryd.f5 [] false w args ∧ laidMetH Tryd.prog laidL w) ∧ sizedMet enc Tryd.prog Tryd.f5 (OpenSpec.ofChange Rows.reportBridgeSpec) false w args)
      (Rows.reportBridgeSpec.post enc Tryd.prog Tryd.f5 false true false false) :=
  law_liftedT (bt := 4) (C := Tryd.checked) (XL := fun w => laidMetH Tryd.prog laidL w) (fun _ _ hh h => h.of_heap hh) Tryd.own started (by kernel_rfl) Tryd.func5
    (ChangeSpec.witness_shaped (enc := enc) (C := Tryd.checked) (os := os) (X := fun w _ => laidMetH Tryd.prog laidL w) false (World.doorLaid Tryd.prog 400 os) #[(.int .u64 0), .slice none 0 0, .agg #[(.int .u32 0), (.int .u32 0), (.int .u32 0), (.int .u32 0), (.int .u32 0), (.int .u32 0), (.int .u32 0), (.int .u32 0), (.int .u32 0), (.int .u32 0), (.int .u32 0), (.int .u32 0), (.int .u32 0), (.int .u32 0)]] 8 rfl (World.shaped_of_RefB (by kernel_rfl) (by kernel_rfl)) (by kernel_rfl) (by kernel_rfl) (by kernel_rfl) (door_met os _))
    rfl Tryd.underlying4 Tryd.laidOut rfl (by kernel_rfl)
    (fun ds hd => by
      obtain ⟨d0, d1, d2, rfl⟩ := ds_3 (n := 3) (ds := ds) hd
      rfl)
    (hcall_genT tt_of [(30, .scal [.int .u64] false), (37, .sl 54 [.int .i64, .int .i64, .int .u32]), (23, .scal [.int .u32, .int .u32, .int .u32, .int .u32, .int .u32, .int .u32, .int .u32, .int .u32, .int .u32, .int .u32, .int .u32, .int .u32, .int .u32, .int .u32] true)] rfl (by
      intro e he
      simp only [List.mem_cons, List.not_mem_nil, or_false] at he
      rcases he with rfl | rfl | rfl
      · exact ⟨by kernel_rfl, by kernel_rfl⟩
      · exact ⟨by kernel_rfl, by kernel_rfl, by kernel_rfl, by decide⟩
      · exact ⟨by kernel_rfl, by kernel_rfl⟩) (reportBridge_fun))
theorem reportBridge_row_holds : Rows.ReportBridgeSaid :=
  OpenClaim.holds_of_wide 5 Tryd.f5 rfl rfl rfl rfl rfl rfl rfl ⟨rfl, rfl, rfl, rfl, rfl⟩ rfl rfl rfl rfl rfl (by kernel_rfl) Tryd.func5 (by kernel_rfl)
    (of_decide_eq_true (by kernel_rfl)) (by unfold Func.isWrapper; rw [if_neg (by decide +kernel)]; exact ⟨rfl, rfl⟩)
    (fun os started H enc _ => reportBridge_lifted os started H enc)
theorem reportBridge_holds : Rows.ReportBridgeCardSaid :=
  Claim7.holds_tied_plain_at .later [] [.data, .data, .data, .widerDeep, .widerDeep] true (true, "4948c2332ce376c8a5d6f0241899daf4bb1ee39eac55a7db9bd07ce687eb3f75") false
    reportBridge_row_holds (fun _ h => by cases h) (by kernel_rfl) (fun _ h => by cases h) reportBridge_row_tie rfl ⟨rfl, rfl⟩ (by kernel_rfl) rfl
    (fun f fn hf hfn => by
      obtain rfl : f = 5 := Option.some.inj ((show Tryd.prog.funcNamed "girder/girderlaw29.ReportBridge" = some 5 by kernel_rfl).symm.trans hf) |>.symm
      obtain rfl : fn = Tryd.f5 := (Option.some.inj (Tryd.func5.symm.trans hfn)).symm
      exact ⟨by kernel_rfl, fun j t ht => by
        rw [Tryd.params5] at ht
        have hm : t ∈ [30, 37, 23] := by simpa using Array.mem_of_getElem? ht
        have hall : ([30, 37, 23].all fun u => !Tryd.prog.wantsStandIn u) = true := by kernel_rfl
        exact (show Tryd.prog.wantsStandIn t = false by simpa using List.all_eq_true.1 hall t hm)⟩)
    (by kernel_rfl)
end Go.Proofs.YtlngmicffhkghaaDoor
