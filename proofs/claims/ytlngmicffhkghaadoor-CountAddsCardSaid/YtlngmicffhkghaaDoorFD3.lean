/- CountAdds: any counts, to which any numbers are added; both together; how they are shown. Whatever the input; the table of powers of ten of the standard library reads as its initialiser lays it (tied to the text of the program). -/
import Derived.Test.YtlngmicffhkghaaDoorRows
import Derived.Test.YtlngmicffhkghaaDoorCards
import Derived.Test.YtlngmicffhkghaaDoorTie
import Derived.Test.YtlngmicffhkghaaDoorD7
import Derived.ProofKit
import Derived.LaidMore
import Derived.OpenShut
import Derived.Stop.Joined
import Derived.Stop.LaidErr
import Derived.SevenTiedAt
set_option maxRecDepth 100000
set_option linter.unusedSimpArgs false
set_option linter.unusedVariables false
set_option maxHeartbeats 4000000
namespace Go.Proofs.YtlngmicffhkghaaDoor
open Go.ChangeShapes Go.WideShapes Go.ChangeAt Go.RowKit Go.Ev
theorem Tryd.own : ownKnob Tryd.prog.godebug = none := by kernel_rfl
theorem Tryd.laidOut : laidOutB Tryd.prog = true := by kernel_rfl
theorem el_of {els : List (List SV)} (h : ∀ row ∈ els, TypedL [.int .i64, .int .i64] row) : EL els := by
  intro r hr
  have t := h r hr
  obtain ⟨a, ys, rfl, a0, a1, t1⟩ := ty_int t
  obtain ⟨b, zs, rfl, b0, b1, t2⟩ := ty_int t1
  obtain rfl := ty_nil t2
  exact ⟨a, b, rfl, a0, a1, b0, b1⟩
theorem countAdds_fun (ivs : List IV) (H0 : Heap) (h : TypedB 0 [(23, .scal [.int .u32, .int .u32, .int .u32, .int .u32, .int .u32, .int .u32, .int .u32, .int .u32, .int .u32, .int .u32, .int .u32, .int .u32, .int .u32, .int .u32] true), (23, .scal [.int .u32, .int .u32, .int .u32, .int .u32, .int .u32, .int .u32, .int .u32, .int .u32, .int .u32, .int .u32, .int .u32, .int .u32, .int .u32, .int .u32] true), (24, .sl 27 [.int .i64, .int .i64])] ivs H0) : FunRT TT Tryd.prog 3 H0 ivs (.s (.raw (.bool true))) := by
  obtain ⟨ys0_, iv0, t0_, rfl, h0_⟩ := b_scal h
  obtain ⟨x0_0, ys0_0, rfl, hl_x0_0, hu_x0_0, t0_1⟩ := ty_int t0_
  obtain ⟨x0_1, ys0_1, rfl, hl_x0_1, hu_x0_1, t0_2⟩ := ty_int t0_1
  obtain ⟨x0_2, ys0_2, rfl, hl_x0_2, hu_x0_2, t0_3⟩ := ty_int t0_2
  obtain ⟨x0_3, ys0_3, rfl, hl_x0_3, hu_x0_3, t0_4⟩ := ty_int t0_3
  obtain ⟨x0_4, ys0_4, rfl, hl_x0_4, hu_x0_4, t0_5⟩ := ty_int t0_4
  obtain ⟨x0_5, ys0_5, rfl, hl_x0_5, hu_x0_5, t0_6⟩ := ty_int t0_5
  obtain ⟨x0_6, ys0_6, rfl, hl_x0_6, hu_x0_6, t0_7⟩ := ty_int t0_6
  obtain ⟨x0_7, ys0_7, rfl, hl_x0_7, hu_x0_7, t0_8⟩ := ty_int t0_7
  obtain ⟨x0_8, ys0_8, rfl, hl_x0_8, hu_x0_8, t0_9⟩ := ty_int t0_8
  obtain ⟨x0_9, ys0_9, rfl, hl_x0_9, hu_x0_9, t0_10⟩ := ty_int t0_9
  obtain ⟨x0_10, ys0_10, rfl, hl_x0_10, hu_x0_10, t0_11⟩ := ty_int t0_10
  obtain ⟨x0_11, ys0_11, rfl, hl_x0_11, hu_x0_11, t0_12⟩ := ty_int t0_11
  obtain ⟨x0_12, ys0_12, rfl, hl_x0_12, hu_x0_12, t0_13⟩ := ty_int t0_12
  obtain ⟨x0_13, ys0_13, rfl, hl_x0_13, hu_x0_13, t0_14⟩ := ty_int t0_13
  obtain rfl := ty_nil t0_14
  obtain ⟨ys1_, iv1, t1_, rfl, h1_⟩ := b_scal h0_
  obtain ⟨x1_0, ys1_0, rfl, hl_x1_0, hu_x1_0, t1_1⟩ := ty_int t1_
  obtain ⟨x1_1, ys1_1, rfl, hl_x1_1, hu_x1_1, t1_2⟩ := ty_int t1_1
  obtain ⟨x1_2, ys1_2, rfl, hl_x1_2, hu_x1_2, t1_3⟩ := ty_int t1_2
  obtain ⟨x1_3, ys1_3, rfl, hl_x1_3, hu_x1_3, t1_4⟩ := ty_int t1_3
  obtain ⟨x1_4, ys1_4, rfl, hl_x1_4, hu_x1_4, t1_5⟩ := ty_int t1_4
  obtain ⟨x1_5, ys1_5, rfl, hl_x1_5, hu_x1_5, t1_6⟩ := ty_int t1_5
  obtain ⟨x1_6, ys1_6, rfl, hl_x1_6, hu_x1_6, t1_7⟩ := ty_int t1_6
  obtain ⟨x1_7, ys1_7, rfl, hl_x1_7, hu_x1_7, t1_8⟩ := ty_int t1_7
  obtain ⟨x1_8, ys1_8, rfl, hl_x1_8, hu_x1_8, t1_9⟩ := ty_int t1_8
  obtain ⟨x1_9, ys1_9, rfl, hl_x1_9, hu_x1_9, t1_10⟩ := ty_int t1_9
  obtain ⟨x1_10, ys1_10, rfl, hl_x1_10, hu_x1_10, t1_11⟩ := ty_int t1_10
  obtain ⟨x1_11, ys1_11, rfl, hl_x1_11, hu_x1_11, t1_12⟩ := ty_int t1_11
  obtain ⟨x1_12, ys1_12, rfl, hl_x1_12, hu_x1_12, t1_13⟩ := ty_int t1_12
  obtain ⟨x1_13, ys1_13, rfl, hl_x1_13, hu_x1_13, t1_14⟩ := ty_int t1_13
  obtain rfl := ty_nil t1_14
  obtain ⟨els2, iv2, Hp2, he2, rfl, rfl, h2_⟩ := b_sl h1_
  obtain ⟨rfl, rfl⟩ := b_nil h2_
  obtain ⟨nx0_0, rfl⟩ := Int.eq_ofNat_of_zero_le (show (0 : Int) ≤ x0_0 from hl_x0_0)
  obtain ⟨nx0_1, rfl⟩ := Int.eq_ofNat_of_zero_le (show (0 : Int) ≤ x0_1 from hl_x0_1)
  obtain ⟨nx0_2, rfl⟩ := Int.eq_ofNat_of_zero_le (show (0 : Int) ≤ x0_2 from hl_x0_2)
  obtain ⟨nx0_3, rfl⟩ := Int.eq_ofNat_of_zero_le (show (0 : Int) ≤ x0_3 from hl_x0_3)
  obtain ⟨nx0_4, rfl⟩ := Int.eq_ofNat_of_zero_le (show (0 : Int) ≤ x0_4 from hl_x0_4)
  obtain ⟨nx0_5, rfl⟩ := Int.eq_ofNat_of_zero_le (show (0 : Int) ≤ x0_5 from hl_x0_5)
  obtain ⟨nx0_6, rfl⟩ := Int.eq_ofNat_of_zero_le (show (0 : Int) ≤ x0_6 from hl_x0_6)
  obtain ⟨nx0_7, rfl⟩ := Int.eq_ofNat_of_zero_le (show (0 : Int) ≤ x0_7 from hl_x0_7)
  obtain ⟨nx0_8, rfl⟩ := Int.eq_ofNat_of_zero_le (show (0 : Int) ≤ x0_8 from hl_x0_8)
  obtain ⟨nx0_9, rfl⟩ := Int.eq_ofNat_of_zero_le (show (0 : Int) ≤ x0_9 from hl_x0_9)
  obtain ⟨nx0_10, rfl⟩ := Int.eq_ofNat_of_zero_le (show (0 : Int) ≤ x0_10 from hl_x0_10)
  obtain ⟨nx0_11, rfl⟩ := Int.eq_ofNat_of_zero_le (show (0 : Int) ≤ x0_11 from hl_x0_11)
  obtain ⟨nx0_12, rfl⟩ := Int.eq_ofNat_of_zero_le (show (0 : Int) ≤ x0_12 from hl_x0_12)
  obtain ⟨nx0_13, rfl⟩ := Int.eq_ofNat_of_zero_le (show (0 : Int) ≤ x0_13 from hl_x0_13)
  obtain ⟨nx1_0, rfl⟩ := Int.eq_ofNat_of_zero_le (show (0 : Int) ≤ x1_0 from hl_x1_0)
  obtain ⟨nx1_1, rfl⟩ := Int.eq_ofNat_of_zero_le (show (0 : Int) ≤ x1_1 from hl_x1_1)
  obtain ⟨nx1_2, rfl⟩ := Int.eq_ofNat_of_zero_le (show (0 : Int) ≤ x1_2 from hl_x1_2)
  obtain ⟨nx1_3, rfl⟩ := Int.eq_ofNat_of_zero_le (show (0 : Int) ≤ x1_3 from hl_x1_3)
  obtain ⟨nx1_4, rfl⟩ := Int.eq_ofNat_of_zero_le (show (0 : Int) ≤ x1_4 from hl_x1_4)
  obtain ⟨nx1_5, rfl⟩ := Int.eq_ofNat_of_zero_le (show (0 : Int) ≤ x1_5 from hl_x1_5)
  obtain ⟨nx1_6, rfl⟩ := Int.eq_ofNat_of_zero_le (show (0 : Int) ≤ x1_6 from hl_x1_6)
  obtain ⟨nx1_7, rfl⟩ := Int.eq_ofNat_of_zero_le (show (0 : Int) ≤ x1_7 from hl_x1_7)
  obtain ⟨nx1_8, rfl⟩ := Int.eq_ofNat_of_zero_le (show (0 : Int) ≤ x1_8 from hl_x1_8)
  obtain ⟨nx1_9, rfl⟩ := Int.eq_ofNat_of_zero_le (show (0 : Int) ≤ x1_9 from hl_x1_9)
  obtain ⟨nx1_10, rfl⟩ := Int.eq_ofNat_of_zero_le (show (0 : Int) ≤ x1_10 from hl_x1_10)
  obtain ⟨nx1_11, rfl⟩ := Int.eq_ofNat_of_zero_le (show (0 : Int) ≤ x1_11 from hl_x1_11)
  obtain ⟨nx1_12, rfl⟩ := Int.eq_ofNat_of_zero_le (show (0 : Int) ≤ x1_12 from hl_x1_12)
  obtain ⟨nx1_13, rfl⟩ := Int.eq_ofNat_of_zero_le (show (0 : Int) ≤ x1_13 from hl_x1_13)
  have kx0_0 : nx0_0 ≤ 4294967295 := by have := (show (nx0_0 : Int) ≤ 4294967295 from hu_x0_0); omega
  have kx0_1 : nx0_1 ≤ 4294967295 := by have := (show (nx0_1 : Int) ≤ 4294967295 from hu_x0_1); omega
  have kx0_2 : nx0_2 ≤ 4294967295 := by have := (show (nx0_2 : Int) ≤ 4294967295 from hu_x0_2); omega
  have kx0_3 : nx0_3 ≤ 4294967295 := by have := (show (nx0_3 : Int) ≤ 4294967295 from hu_x0_3); omega
  have kx0_4 : nx0_4 ≤ 4294967295 := by have := (show (nx0_4 : Int) ≤ 4294967295 from hu_x0_4); omega
  have kx0_5 : nx0_5 ≤ 4294967295 := by have := (show (nx0_5 : Int) ≤ 4294967295 from hu_x0_5); omega
  have kx0_6 : nx0_6 ≤ 4294967295 := by have := (show (nx0_6 : Int) ≤ 4294967295 from hu_x0_6); omega
  have kx0_7 : nx0_7 ≤ 4294967295 := by have := (show (nx0_7 : Int) ≤ 4294967295 from hu_x0_7); omega
  have kx0_8 : nx0_8 ≤ 4294967295 := by have := (show (nx0_8 : Int) ≤ 4294967295 from hu_x0_8); omega
  have kx0_9 : nx0_9 ≤ 4294967295 := by have := (show (nx0_9 : Int) ≤ 4294967295 from hu_x0_9); omega
  have kx0_10 : nx0_10 ≤ 4294967295 := by have := (show (nx0_10 : Int) ≤ 4294967295 from hu_x0_10); omega
  have kx0_11 : nx0_11 ≤ 4294967295 := by have := (show (nx0_11 : Int) ≤ 4294967295 from hu_x0_11); omega
  have kx0_12 : nx0_12 ≤ 4294967295 := by have := (show (nx0_12 : Int) ≤ 4294967295 from hu_x0_12); omega
  have kx0_13 : nx0_13 ≤ 4294967295 := by have := (show (nx0_13 : Int) ≤ 4294967295 from hu_x0_13); omega
  have kx1_0 : nx1_0 ≤ 4294967295 := by have := (show (nx1_0 : Int) ≤ 4294967295 from hu_x1_0); omega
  have kx1_1 : nx1_1 ≤ 4294967295 := by have := (show (nx1_1 : Int) ≤ 4294967295 from hu_x1_1); omega
  have kx1_2 : nx1_2 ≤ 4294967295 := by have := (show (nx1_2 : Int) ≤ 4294967295 from hu_x1_2); omega
  have kx1_3 : nx1_3 ≤ 4294967295 := by have := (show (nx1_3 : Int) ≤ 4294967295 from hu_x1_3); omega
  have kx1_4 : nx1_4 ≤ 4294967295 := by have := (show (nx1_4 : Int) ≤ 4294967295 from hu_x1_4); omega
  have kx1_5 : nx1_5 ≤ 4294967295 := by have := (show (nx1_5 : Int) ≤ 4294967295 from hu_x1_5); omega
  have kx1_6 : nx1_6 ≤ 4294967295 := by have := (show (nx1_6 : Int) ≤ 4294967295 from hu_x1_6); omega
  have kx1_7 : nx1_7 ≤ 4294967295 := by have := (show (nx1_7 : Int) ≤ 4294967295 from hu_x1_7); omega
  have kx1_8 : nx1_8 ≤ 4294967295 := by have := (show (nx1_8 : Int) ≤ 4294967295 from hu_x1_8); omega
  have kx1_9 : nx1_9 ≤ 4294967295 := by have := (show (nx1_9 : Int) ≤ 4294967295 from hu_x1_9); omega
  have kx1_10 : nx1_10 ≤ 4294967295 := by have := (show (nx1_10 : Int) ≤ 4294967295 from hu_x1_10); omega
  have kx1_11 : nx1_11 ≤ 4294967295 := by have := (show (nx1_11 : Int) ≤ 4294967295 from hu_x1_11); omega
  have kx1_12 : nx1_12 ≤ 4294967295 := by have := (show (nx1_12 : Int) ≤ 4294967295 from hu_x1_12); omega
  have kx1_13 : nx1_13 ≤ 4294967295 := by have := (show (nx1_13 : Int) ≤ 4294967295 from hu_x1_13); omega
  exact law3 nx0_0 nx0_1 nx0_2 nx0_3 nx0_4 nx0_5 nx0_6 nx0_7 nx0_8 nx0_9 nx0_10 nx0_11 nx0_12 nx0_13 nx1_0 nx1_1 nx1_2 nx1_3 nx1_4 nx1_5 nx1_6 nx1_7 nx1_8 nx1_9 nx1_10 nx1_11 nx1_12 nx1_13 kx0_0 kx0_1 kx0_2 kx0_3 kx0_4 kx0_5 kx0_6 kx0_7 kx0_8 kx0_9 kx0_10 kx0_11 kx0_12 kx0_13 kx1_0 kx1_1 kx1_2 kx1_3 kx1_4 kx1_5 kx1_6 kx1_7 kx1_8 kx1_9 kx1_10 kx1_11 kx1_12 kx1_13 els2 (el_of he2)
def laidL : List (String × DataW Unit) := Rows.countAddsRow.laid
theorem door_met (os : Os) (args : Array Value) : laidMetH Tryd.prog laidL ((World.doorLaid Tryd.prog 400 os).forCall (fun _ _ => 0) ⟨#[], args, []⟩).memory :=
  laidMetH_of_parts3 (fuel := 8) (laidMet_of_run' 8 (by kernel_rfl) (by kernel_rfl)) (by kernel_rfl) (by kernel_rfl)
theorem tab_data : (Rows.laid_internal_strconv_uint64pow10 : DataW Unit) = Lib.tabData .u64 Lib.pow10Tab := by kernel_rfl
theorem tt_of (W : World) (h : laidMetH Tryd.prog laidL W) : TT W := by
  rw [MakeChecks.laidMetH_plain _ _ _ (by kernel_rfl)] at h
  have h2 : laidMet Tryd.prog (("internal/strconv.uint64pow10", Rows.laid_internal_strconv_uint64pow10) :: []) W := h.tail.tail
  rw [tab_data] at h2
  exact Lib.tabIs_of_head (g := 2) (t := 95) (e := 30) (n := 20) (by kernel_rfl) (by kernel_rfl) (by kernel_rfl) (by kernel_rfl) (by kernel_rfl) (by kernel_rfl) h2
theorem countAdds_lifted (os : Os) (started : os.Started) (H : Type) (enc : TypeId × Value → H) :
    ReturnsInHanded {} Tryd.checked os 3 .any (fun w args => (Rows.countAddsSpec.pre enc Tryd.prog Tryd.f3 [] false w args ∧ laidMetH Tryd.prog laidL w) ∧ sizedMet enc Tryd.prog Tryd.f3 (OpenSpec.ofChange Rows.countAddsSpec) false w args)
      (Rows.countAddsSpec.post enc Tryd.prog Tryd.f3 false true false false) :=
  law_liftedT (bt := 4) (C := Tryd.checked) (XL := fun w => laidMetH Tryd.prog laidL w) (fun _ _ hh h => h.of_heap hh) Tryd.own started (by kernel_rfl) Tryd.func3
    (ChangeSpec.witness_shaped (enc := enc) (C := Tryd.checked) (os := os) (X := fun w _ => laidMetH Tryd.prog laidL w) false (World.doorLaid Tryd.prog 400 os) #[.agg #[(.int .u32 0), (.int .u32 0), (.int .u32 0), (.int .u32 0), (.int .u32 0), (.int .u32 0), (.int .u32 0), (.int .u32 0), (.int .u32 0), (.int .u32 0), (.int .u32 0), (.int .u32 0), (.int .u32 0), (.int .u32 0)], .agg #[(.int .u32 0), (.int .u32 0), (.int .u32 0), (.int .u32 0), (.int .u32 0), (.int .u32 0), (.int .u32 0), (.int .u32 0), (.int .u32 0), (.int .u32 0), (.int .u32 0), (.int .u32 0), (.int .u32 0), (.int .u32 0)], .slice none 0 0] 8 rfl (World.shaped_of_RefB (by kernel_rfl) (by kernel_rfl)) (by kernel_rfl) (by kernel_rfl) (by kernel_rfl) (door_met os _))
    rfl Tryd.underlying4 Tryd.laidOut rfl (by kernel_rfl)
    (fun ds hd => by
      obtain ⟨d0, d1, d2, rfl⟩ := ds_3 (n := 3) (ds := ds) hd
      rfl)
    (hcall_genT tt_of [(23, .scal [.int .u32, .int .u32, .int .u32, .int .u32, .int .u32, .int .u32, .int .u32, .int .u32, .int .u32, .int .u32, .int .u32, .int .u32, .int .u32, .int .u32] true), (23, .scal [.int .u32, .int .u32, .int .u32, .int .u32, .int .u32, .int .u32, .int .u32, .int .u32, .int .u32, .int .u32, .int .u32, .int .u32, .int .u32, .int .u32] true), (24, .sl 27 [.int .i64, .int .i64])] rfl (by
      intro e he
      simp only [List.mem_cons, List.not_mem_nil, or_false] at he
      rcases he with rfl | rfl | rfl
      · exact ⟨by kernel_rfl, by kernel_rfl⟩
      · exact ⟨by kernel_rfl, by kernel_rfl⟩
      · exact ⟨by kernel_rfl, by kernel_rfl, by kernel_rfl, by decide⟩) (countAdds_fun))
theorem countAdds_row_holds : Rows.CountAddsSaid :=
  OpenClaim.holds_of_wide 3 Tryd.f3 rfl rfl rfl rfl rfl rfl rfl ⟨rfl, rfl, rfl, rfl, rfl⟩ rfl rfl rfl rfl rfl (by kernel_rfl) Tryd.func3 (by kernel_rfl)
    (of_decide_eq_true (by kernel_rfl)) (by unfold Func.isWrapper; rw [if_neg (by decide +kernel)]; exact ⟨rfl, rfl⟩)
    (fun os started H enc _ => countAdds_lifted os started H enc)
theorem countAdds_holds : Rows.CountAddsCardSaid :=
  Claim7.holds_tied_plain_at .later [] [.data, .data, .data] true (true, "4948c2332ce376c8a5d6f0241899daf4bb1ee39eac55a7db9bd07ce687eb3f75") false
    countAdds_row_holds (fun _ h => by cases h) (by kernel_rfl) (fun _ h => by cases h) countAdds_row_tie rfl ⟨rfl, rfl⟩ (by kernel_rfl) rfl
    (fun f fn hf hfn => by
      obtain rfl : f = 3 := Option.some.inj ((show Tryd.prog.funcNamed "girder/girderlaw13.CountAdds" = some 3 by kernel_rfl).symm.trans hf) |>.symm
      obtain rfl : fn = Tryd.f3 := (Option.some.inj (Tryd.func3.symm.trans hfn)).symm
      exact ⟨by kernel_rfl, fun j t ht => by
        rw [Tryd.params3] at ht
        have hm : t ∈ [23, 23, 24] := by simpa using Array.mem_of_getElem? ht
        have hall : ([23, 23, 24].all fun u => !Tryd.prog.wantsStandIn u) = true := by kernel_rfl
        exact (show Tryd.prog.wantsStandIn t = false by simpa using List.all_eq_true.1 hall t hm)⟩)
    (by kernel_rfl)
end Go.Proofs.YtlngmicffhkghaaDoor
