/- StateWaits: a port that gets designated, and is not at the edge, forwards behind just twice Delay ticks, where nobody agrees, and stays so. Whatever the input; no condition. -/
import Derived.Test.YtpapofdkcgopjaaRows
import Derived.Test.YtpapofdkcgopjaaT9
import Derived.ProofKit
set_option maxRecDepth 100000
set_option linter.unusedSimpArgs false
set_option linter.unusedVariables false
set_option maxHeartbeats 4000000
namespace Go.Proofs.Ytpapofdkcgopjaa
open Go.ChangeShapes Go.WideShapes Go.ChangeAt Go.RowKit Go.Ev
theorem Try.own : ownKnob Try.prog.godebug = none := by kernel_rfl
theorem Try.laidOut : laidOutB Try.prog = true := by kernel_rfl
theorem stateWaits_fun (ivs : List IV) (h : TypedA [(26, [.bool, .bool, .bool, .bool, .bool, .int .u8, .int .u8, .int .u8, .int .u8, .int .u8, .int .u8, .int .i32, .int .i32, .int .i32, .int .i32], true), (5, [.int .u8], false)] ivs) : Fun Try.prog 9 ivs (.s (.raw (.bool true))) := by
  obtain ⟨ys0_, iv0, t0_, rfl, h0_⟩ := t_cons h
  obtain ⟨x0_0, ys0_0, rfl, t0_1⟩ := ty_bool t0_
  obtain ⟨x0_1, ys0_1, rfl, t0_2⟩ := ty_bool t0_1
  obtain ⟨x0_2, ys0_2, rfl, t0_3⟩ := ty_bool t0_2
  obtain ⟨x0_3, ys0_3, rfl, t0_4⟩ := ty_bool t0_3
  obtain ⟨x0_4, ys0_4, rfl, t0_5⟩ := ty_bool t0_4
  obtain ⟨x0_5, ys0_5, rfl, hl_x0_5, hu_x0_5, t0_6⟩ := ty_int t0_5
  obtain ⟨x0_6, ys0_6, rfl, hl_x0_6, hu_x0_6, t0_7⟩ := ty_int t0_6
  obtain ⟨x0_7, ys0_7, rfl, hl_x0_7, hu_x0_7, t0_8⟩ := ty_int t0_7
  obtain ⟨x0_8, ys0_8, rfl, hl_x0_8, hu_x0_8, t0_9⟩ := ty_int t0_8
  obtain ⟨x0_9, ys0_9, rfl, hl_x0_9, hu_x0_9, t0_10⟩ := ty_int t0_9
  obtain ⟨x0_10, ys0_10, rfl, hl_x0_10, hu_x0_10, t0_11⟩ := ty_int t0_10
  obtain ⟨x0_11, ys0_11, rfl, hl_x0_11, hu_x0_11, t0_12⟩ := ty_int t0_11
  obtain ⟨x0_12, ys0_12, rfl, hl_x0_12, hu_x0_12, t0_13⟩ := ty_int t0_12
  obtain ⟨x0_13, ys0_13, rfl, hl_x0_13, hu_x0_13, t0_14⟩ := ty_int t0_13
  obtain ⟨x0_14, ys0_14, rfl, hl_x0_14, hu_x0_14, t0_15⟩ := ty_int t0_14
  obtain rfl := ty_nil t0_15
  obtain ⟨ys1_, iv1, t1_, rfl, h1_⟩ := t_cons h0_
  obtain ⟨x1_0, ys1_0, rfl, hl_x1_0, hu_x1_0, t1_1⟩ := ty_int t1_
  obtain rfl := ty_nil t1_1
  obtain rfl := t_nil h1_
  exact law9 x0_0 x0_1 x0_2 x0_3 x0_4 x0_5 x0_6 x0_7 x0_8 x0_9 x0_10 x0_11 x0_12 x0_13 x0_14 x1_0 hl_x1_0 hu_x1_0
theorem stateWaits_lifted (os : Os) (started : os.Started) (H : Type) (enc : TypeId × Value → H) :
    ReturnsInHanded {} Try.checked os 9 .any (Rows.stateWaitsSpec.pre6 enc Try.prog Try.f9 Rows.stateWaitsRow.domain false) (Rows.stateWaitsSpec.post enc Try.prog Try.f9 false true false false) :=
  law_lifted (bt := 4) Try.own started (by kernel_rfl) Try.func9
    (ChangeSpec.witness6 (enc := enc) (C := Try.checked) false ⟨#[], #[.agg #[(.bool false), (.bool false), (.bool false), (.bool false), (.bool false), (.int .u8 0), (.int .u8 0), (.int .u8 0), (.int .u8 0), (.int .u8 0), (.int .u8 0), (.int .i32 0), (.int .i32 0), (.int .i32 0), (.int .i32 0)], (.int .u8 0)], []⟩ 8 (by kernel_rfl) (by kernel_rfl) (by kernel_rfl) (by kernel_rfl))
    rfl Try.underlying4 Try.laidOut rfl (by kernel_rfl)
    (fun ds hd => by
      obtain ⟨d0, d1, rfl⟩ := ds_2 (n := 2) (ds := ds) hd
      rfl)
    (hcall_scal [(26, [.bool, .bool, .bool, .bool, .bool, .int .u8, .int .u8, .int .u8, .int .u8, .int .u8, .int .u8, .int .i32, .int .i32, .int .i32, .int .i32], true), (5, [.int .u8], false)] rfl (by
      intro e he
      simp only [List.mem_cons, List.not_mem_nil, or_false] at he
      rcases he with rfl | rfl
      · exact ⟨by kernel_rfl, by kernel_rfl⟩
      · exact ⟨by kernel_rfl, by kernel_rfl⟩) (stateWaits_fun))
theorem stateWaits_holds : Rows.StateWaitsSaid :=
  OpenClaim.holds_of_wide 9 Try.f9 rfl rfl rfl rfl rfl rfl rfl ⟨rfl, rfl, rfl, rfl, rfl⟩ rfl rfl rfl rfl rfl (by kernel_rfl) Try.func9 (by kernel_rfl)
    (of_decide_eq_true (by kernel_rfl)) (by unfold Func.isWrapper; rw [if_neg (by decide +kernel)]; exact ⟨rfl, rfl⟩)
    (fun os started H enc _ => stateWaits_lifted os started H enc)
end Go.Proofs.Ytpapofdkcgopjaa
