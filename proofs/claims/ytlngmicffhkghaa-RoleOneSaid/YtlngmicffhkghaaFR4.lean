/- RoleOne: there is one root port at most, none of a bridge that is the root; the root is never greater than the bridge itself; a port that heard nothing is designated, where it is on. Whatever the input; no condition. -/
import Derived.Test.YtlngmicffhkghaaRows
import Derived.Test.YtlngmicffhkghaaR8
import Derived.ProofKit
set_option maxRecDepth 100000
set_option linter.unusedSimpArgs false
set_option linter.unusedVariables false
set_option maxHeartbeats 4000000
namespace Go.Proofs.Ytlngmicffhkghaa
open Go.ChangeShapes Go.WideShapes Go.ChangeAt Go.RowKit Go.Ev
theorem Try.own : ownKnob Try.prog.godebug = none := by kernel_rfl
theorem Try.laidOut : laidOutB Try.prog = true := by kernel_rfl
theorem roleOne_fun (ivs : List IV) (H0 : Heap) (h : TypedB 0 [(22, .scal [.int .u64] false), (23, .sl 98 [.bool, .bool, .int .u64, .int .u64, .int .u32, .int .u32, .int .u16, .int .u16])] ivs H0) : FunR Try.prog 4 H0 ivs (.s (.raw (.bool true))) := by
  obtain ⟨ys0_, iv0, t0_, rfl, h0_⟩ := b_scal h
  obtain ⟨x0_0, ys0_0, rfl, hl_x0_0, hu_x0_0, t0_1⟩ := ty_int t0_
  obtain rfl := ty_nil t0_1
  obtain ⟨els1, iv1, Hp1, he1, rfl, rfl, h1_⟩ := b_sl h0_
  obtain ⟨rfl, rfl⟩ := b_nil h1_
  exact (by
    obtain ⟨ps, rfl, _⟩ := rows_pt els1 he1
    rw [List.length_map]
    exact law4 x0_0 ps)
theorem roleOne_lifted (os : Os) (started : os.Started) (H : Type) (enc : TypeId × Value → H) :
    ReturnsInHanded {} Try.checked os 4 .any (Rows.roleOneSpec.pre6 enc Try.prog Try.f4 Rows.roleOneRow.domain false) (Rows.roleOneSpec.post enc Try.prog Try.f4 false true false false) :=
  law_lifted (bt := 4) Try.own started (by kernel_rfl) Try.func4
    (ChangeSpec.witness6 (enc := enc) (C := Try.checked) false ⟨#[], #[(.int .u64 0), .slice none 0 0], []⟩ 8 (by kernel_rfl) (by kernel_rfl) (by kernel_rfl) (by kernel_rfl))
    rfl Try.underlying4 Try.laidOut rfl (by kernel_rfl)
    (fun ds hd => by
      obtain ⟨d0, d1, rfl⟩ := ds_2 (n := 2) (ds := ds) hd
      rfl)
    (hcall_gen [(22, .scal [.int .u64] false), (23, .sl 98 [.bool, .bool, .int .u64, .int .u64, .int .u32, .int .u32, .int .u16, .int .u16])] rfl (by
      intro e he
      simp only [List.mem_cons, List.not_mem_nil, or_false] at he
      rcases he with rfl | rfl
      · exact ⟨by kernel_rfl, by kernel_rfl⟩
      · exact ⟨by kernel_rfl, by kernel_rfl, by kernel_rfl, by decide⟩) (roleOne_fun))
theorem roleOne_holds : Rows.RoleOneSaid :=
  OpenClaim.holds_of_wide 4 Try.f4 rfl rfl rfl rfl rfl rfl rfl ⟨rfl, rfl, rfl, rfl, rfl⟩ rfl rfl rfl rfl rfl (by kernel_rfl) Try.func4 (by kernel_rfl)
    (of_decide_eq_true (by kernel_rfl)) (by unfold Func.isWrapper; rw [if_neg (by decide +kernel)]; exact ⟨rfl, rfl⟩)
    (fun os started H enc _ => roleOne_lifted os started H enc)
end Go.Proofs.Ytlngmicffhkghaa
