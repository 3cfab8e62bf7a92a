/- AddrTells: any address: its number, and back; whether it is of several, whether it is reserved; how it is shown, and read again. Whatever the input; no condition. -/
import Derived.Test.YtlngmicffhkghaaRows
import Derived.Test.YtlngmicffhkghaaA10
import Derived.ProofKit
set_option maxRecDepth 100000
set_option linter.unusedSimpArgs false
set_option linter.unusedVariables false
set_option maxHeartbeats 4000000
namespace Go.Proofs.Ytlngmicffhkghaa
open Go.ChangeShapes Go.WideShapes Go.ChangeAt Go.RowKit Go.Ev
theorem Try.own : ownKnob Try.prog.godebug = none := by kernel_rfl
theorem Try.laidOut : laidOutB Try.prog = true := by kernel_rfl
theorem addrTells_fun (ivs : List IV) (h : TypedA [(49, [.int .u8, .int .u8, .int .u8, .int .u8, .int .u8, .int .u8], true), (22, [.int .u64], false)] ivs) : Fun Try.prog 7 ivs (.s (.raw (.bool true))) := by
  obtain ⟨ys0_, iv0, t0_, rfl, h0_⟩ := t_cons h
  obtain ⟨x0_0, ys0_0, rfl, hl_x0_0, hu_x0_0, t0_1⟩ := ty_int t0_
  obtain ⟨x0_1, ys0_1, rfl, hl_x0_1, hu_x0_1, t0_2⟩ := ty_int t0_1
  obtain ⟨x0_2, ys0_2, rfl, hl_x0_2, hu_x0_2, t0_3⟩ := ty_int t0_2
  obtain ⟨x0_3, ys0_3, rfl, hl_x0_3, hu_x0_3, t0_4⟩ := ty_int t0_3
  obtain ⟨x0_4, ys0_4, rfl, hl_x0_4, hu_x0_4, t0_5⟩ := ty_int t0_4
  obtain ⟨x0_5, ys0_5, rfl, hl_x0_5, hu_x0_5, t0_6⟩ := ty_int t0_5
  obtain rfl := ty_nil t0_6
  obtain ⟨ys1_, iv1, t1_, rfl, h1_⟩ := t_cons h0_
  obtain ⟨x1_0, ys1_0, rfl, hl_x1_0, hu_x1_0, t1_1⟩ := ty_int t1_
  obtain rfl := ty_nil t1_1
  obtain rfl := t_nil h1_
  exact law7 x0_0 x0_1 x0_2 x0_3 x0_4 x0_5 x1_0 hl_x0_0 hu_x0_0 hl_x0_1 hu_x0_1 hl_x0_2 hu_x0_2 hl_x0_3 hu_x0_3 hl_x0_4 hu_x0_4 hl_x0_5 hu_x0_5 hl_x1_0 hu_x1_0
theorem addrTells_lifted (os : Os) (started : os.Started) (H : Type) (enc : TypeId × Value → H) :
    ReturnsInHanded {} Try.checked os 7 .any (Rows.addrTellsSpec.pre6 enc Try.prog Try.f7 Rows.addrTellsRow.domain false) (Rows.addrTellsSpec.post enc Try.prog Try.f7 false true false false) :=
  law_lifted (bt := 4) Try.own started (by kernel_rfl) Try.func7
    (ChangeSpec.witness6 (enc := enc) (C := Try.checked) false ⟨#[], #[.agg #[(.int .u8 0), (.int .u8 0), (.int .u8 0), (.int .u8 0), (.int .u8 0), (.int .u8 0)], (.int .u64 0)], []⟩ 8 (by kernel_rfl) (by kernel_rfl) (by kernel_rfl) (by kernel_rfl))
    rfl Try.underlying4 Try.laidOut rfl (by kernel_rfl)
    (fun ds hd => by
      obtain ⟨d0, d1, rfl⟩ := ds_2 (n := 2) (ds := ds) hd
      rfl)
    (hcall_scal [(49, [.int .u8, .int .u8, .int .u8, .int .u8, .int .u8, .int .u8], true), (22, [.int .u64], false)] rfl (by
      intro e he
      simp only [List.mem_cons, List.not_mem_nil, or_false] at he
      rcases he with rfl | rfl
      · exact ⟨by kernel_rfl, by kernel_rfl⟩
      · exact ⟨by kernel_rfl, by kernel_rfl⟩) (addrTells_fun))
theorem addrTells_holds : Rows.AddrTellsSaid :=
  OpenClaim.holds_of_wide 7 Try.f7 rfl rfl rfl rfl rfl rfl rfl ⟨rfl, rfl, rfl, rfl, rfl⟩ rfl rfl rfl rfl rfl (by kernel_rfl) Try.func7 (by kernel_rfl)
    (of_decide_eq_true (by kernel_rfl)) (by unfold Func.isWrapper; rw [if_neg (by decide +kernel)]; exact ⟨rfl, rfl⟩)
    (fun os started H enc _ => addrTells_lifted os started H enc)
end Go.Proofs.Ytlngmicffhkghaa
