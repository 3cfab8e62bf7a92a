/- BpduReads: any bytes as a PDU are read as the document says, or refused with its error. Whatever the input; no condition. -/
import Derived.Test.YtlngmicffhkghaaRows
import Derived.Test.YtlngmicffhkghaaC12
import Derived.ProofKit
set_option maxRecDepth 100000
set_option linter.unusedSimpArgs false
set_option linter.unusedVariables false
set_option maxHeartbeats 4000000
namespace Go.Proofs.Ytlngmicffhkghaa
open Go.ChangeShapes Go.WideShapes Go.ChangeAt Go.RowKit Go.Ev
theorem Try.own : ownKnob Try.prog.godebug = none := by kernel_rfl
theorem Try.laidOut : laidOutB Try.prog = true := by kernel_rfl
theorem bpduReads_fun (ivs : List IV) (h : TypedA [(9, [.string], false)] ivs) : Fun Try.prog 6 ivs (.s (.raw (.bool true))) := by
  obtain ⟨ys0_, iv0, t0_, rfl, h0_⟩ := t_cons h
  obtain ⟨x0_0, ys0_0, rfl, hs_x0_0, t0_1⟩ := ty_str t0_
  obtain rfl := ty_nil t0_1
  obtain rfl := t_nil h0_
  exact law6 x0_0
theorem bpduReads_lifted (os : Os) (started : os.Started) (H : Type) (enc : TypeId × Value → H) :
    ReturnsInHanded {} Try.checked os 6 .any (Rows.bpduReadsSpec.pre6 enc Try.prog Try.f6 Rows.bpduReadsRow.domain false) (Rows.bpduReadsSpec.post enc Try.prog Try.f6 false true false false) :=
  law_lifted (bt := 4) Try.own started (by kernel_rfl) Try.func6
    (ChangeSpec.witness6 (enc := enc) (C := Try.checked) false ⟨#[], #[(.string ⟨#[]⟩)], []⟩ 8 (by kernel_rfl) (by kernel_rfl) (by kernel_rfl) (by kernel_rfl))
    rfl Try.underlying4 Try.laidOut rfl (by kernel_rfl)
    (fun ds hd => by
      obtain ⟨d0, rfl⟩ := ds_1 (n := 1) (ds := ds) hd
      rfl)
    (hcall_scal [(9, [.string], false)] rfl (by
      intro e he
      simp only [List.mem_cons, List.not_mem_nil, or_false] at he
      rcases he with rfl
      · exact ⟨by kernel_rfl, by kernel_rfl⟩) (bpduReads_fun))
theorem bpduReads_holds : Rows.BpduReadsSaid :=
  OpenClaim.holds_of_wide 6 Try.f6 rfl rfl rfl rfl rfl rfl rfl ⟨rfl, rfl, rfl, rfl, rfl⟩ rfl rfl rfl rfl rfl (by kernel_rfl) Try.func6 (by kernel_rfl)
    (of_decide_eq_true (by kernel_rfl)) (by unfold Func.isWrapper; rw [if_neg (by decide +kernel)]; exact ⟨rfl, rfl⟩)
    (fun os started H enc _ => bpduReads_lifted os started H enc)
end Go.Proofs.Ytlngmicffhkghaa
