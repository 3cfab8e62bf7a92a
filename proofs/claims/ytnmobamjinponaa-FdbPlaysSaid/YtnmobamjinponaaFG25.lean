/- FdbPlays: a table of stations through any acts: each answer, which entries go, and all that it has, by their keys; none. Whatever the input; no condition. -/
import Derived.Test.YtnmobamjinponaaRows
import Derived.Test.YtnmobamjinponaaG25
import Derived.ProofKit
set_option maxRecDepth 100000
set_option linter.unusedSimpArgs false
set_option linter.unusedVariables false
set_option maxHeartbeats 4000000
namespace Go.Proofs.Ytnmobamjinponaa
open Go.ChangeShapes Go.WideShapes Go.ChangeAt Go.RowKit Go.Ev
theorem Try.own : ownKnob Try.prog.godebug = none := by kernel_rfl
theorem Try.laidOut : laidOutB Try.prog = true := by kernel_rfl
theorem fdbPlays_fun (ivs : List IV) (H0 : Heap) (h : TypedB 0 [(3, .scal [.int .i64] false), (3, .scal [.int .i64] false), (82, .sl 86 [.int .u8, .int .u16, .int .u8, .int .u8, .int .u8, .int .u8, .int .u8, .int .u8, .int .i64, .int .i64])] ivs H0) : FunR Try.prog 9 H0 ivs (.s (.raw (.bool true))) := by
  obtain ⟨ys0_, iv0, t0_, rfl, h0_⟩ := b_scal h
  obtain ⟨x0_0, ys0_0, rfl, hl_x0_0, hu_x0_0, t0_1⟩ := ty_int t0_
  obtain rfl := ty_nil t0_1
  obtain ⟨ys1_, iv1, t1_, rfl, h1_⟩ := b_scal h0_
  obtain ⟨x1_0, ys1_0, rfl, hl_x1_0, hu_x1_0, t1_1⟩ := ty_int t1_
  obtain rfl := ty_nil t1_1
  obtain ⟨els2, iv2, Hp2, he2, rfl, rfl, h2_⟩ := b_sl h1_
  obtain ⟨rfl, rfl⟩ := b_nil h2_
  exact (by
    obtain ⟨xs, rfl, hx⟩ := acts_of he2
    rw [List.length_map]
    exact law9 x0_0 x1_0 xs hx)
theorem fdbPlays_lifted (os : Os) (started : os.Started) (H : Type) (enc : TypeId × Value → H) :
    ReturnsInHanded {} Try.checked os 9 .any (Rows.fdbPlaysSpec.pre6 enc Try.prog Try.f9 Rows.fdbPlaysRow.domain false) (Rows.fdbPlaysSpec.post enc Try.prog Try.f9 false true false false) :=
  law_lifted (bt := 4) Try.own started (by kernel_rfl) Try.func9
    (ChangeSpec.witness6 (enc := enc) (C := Try.checked) false ⟨#[], #[(.int .i64 0), (.int .i64 0), .slice none 0 0], []⟩ 8 (by kernel_rfl) (by kernel_rfl) (by kernel_rfl) (by kernel_rfl))
    rfl Try.underlying4 Try.laidOut rfl (by kernel_rfl)
    (fun ds hd => by
      obtain ⟨d0, d1, d2, rfl⟩ := ds_3 (n := 3) (ds := ds) hd
      rfl)
    (hcall_gen [(3, .scal [.int .i64] false), (3, .scal [.int .i64] false), (82, .sl 86 [.int .u8, .int .u16, .int .u8, .int .u8, .int .u8, .int .u8, .int .u8, .int .u8, .int .i64, .int .i64])] rfl (by
      intro e he
      simp only [List.mem_cons, List.not_mem_nil, or_false] at he
      rcases he with rfl | rfl | rfl
      · exact ⟨by kernel_rfl, by kernel_rfl⟩
      · exact ⟨by kernel_rfl, by kernel_rfl⟩
      · exact ⟨by kernel_rfl, by kernel_rfl, by kernel_rfl, by decide⟩) (fdbPlays_fun))
theorem fdbPlays_holds : Rows.FdbPlaysSaid :=
  OpenClaim.holds_of_wide 9 Try.f9 rfl rfl rfl rfl rfl rfl rfl ⟨rfl, rfl, rfl, rfl, rfl⟩ rfl rfl rfl rfl rfl (by kernel_rfl) Try.func9 (by kernel_rfl)
    (of_decide_eq_true (by kernel_rfl)) (by unfold Func.isWrapper; rw [if_neg (by decide +kernel)]; exact ⟨rfl, rfl⟩)
    (fun os started H enc _ => fdbPlays_lifted os started H enc)
end Go.Proofs.Ytnmobamjinponaa
