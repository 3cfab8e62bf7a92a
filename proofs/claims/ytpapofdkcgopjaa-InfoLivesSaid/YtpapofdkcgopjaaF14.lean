/- InfoLives: what was heard is there for three times Hello, less one tick, and then gone, unless it is heard again. Whatever the input; no condition. -/
import Derived.Test.YtpapofdkcgopjaaRows
import Derived.Test.YtpapofdkcgopjaaI14
import Derived.ProofKit
set_option maxRecDepth 100000
set_option linter.unusedSimpArgs false
set_option linter.unusedVariables false
set_option maxHeartbeats 4000000
namespace Go.Proofs.Ytpapofdkcgopjaa
open Go.ChangeShapes Go.WideShapes Go.ChangeAt Go.RowKit Go.Ev
theorem Try.own : ownKnob Try.prog.godebug = none := by kernel_rfl
theorem Try.laidOut : laidOutB Try.prog = true := by kernel_rfl
theorem infoLives_fun (ivs : List IV) (H0 : Heap) (h : TypedB 0 [(84, .scal [.int .u64, .int .u64, .int .u32, .int .u16] true), (5, .scal [.int .u8] false), (98, .sl 5 [.int .u8])] ivs H0) : FunR Try.prog 14 H0 ivs (.s (.raw (.bool true))) := by
  obtain ⟨ys0_, iv0, t0_, rfl, h0_⟩ := b_scal h
  obtain ⟨x0_0, ys0_0, rfl, hl_x0_0, hu_x0_0, t0_1⟩ := ty_int t0_
  obtain ⟨x0_1, ys0_1, rfl, hl_x0_1, hu_x0_1, t0_2⟩ := ty_int t0_1
  obtain ⟨x0_2, ys0_2, rfl, hl_x0_2, hu_x0_2, t0_3⟩ := ty_int t0_2
  obtain ⟨x0_3, ys0_3, rfl, hl_x0_3, hu_x0_3, t0_4⟩ := ty_int t0_3
  obtain rfl := ty_nil t0_4
  obtain ⟨ys1_, iv1, t1_, rfl, h1_⟩ := b_scal h0_
  obtain ⟨x1_0, ys1_0, rfl, hl_x1_0, hu_x1_0, t1_1⟩ := ty_int t1_
  obtain rfl := ty_nil t1_1
  obtain ⟨els2, iv2, Hp2, he2, rfl, rfl, h2_⟩ := b_sl h1_
  obtain ⟨rfl, rfl⟩ := b_nil h2_
  exact law14 els2 he2 x0_0 x0_1 x0_2 x0_3 x1_0 hl_x1_0 hu_x1_0
theorem infoLives_lifted (os : Os) (started : os.Started) (H : Type) (enc : TypeId × Value → H) :
    ReturnsInHanded {} Try.checked os 14 .any (Rows.infoLivesSpec.pre6 enc Try.prog Try.f14 Rows.infoLivesRow.domain false) (Rows.infoLivesSpec.post enc Try.prog Try.f14 false true false false) :=
  law_lifted (bt := 4) Try.own started (by kernel_rfl) Try.func14
    (ChangeSpec.witness6 (enc := enc) (C := Try.checked) false ⟨#[], #[.agg #[(.int .u64 0), (.int .u64 0), (.int .u32 0), (.int .u16 0)], (.int .u8 0), .slice none 0 0], []⟩ 8 (by kernel_rfl) (by kernel_rfl) (by kernel_rfl) (by kernel_rfl))
    rfl Try.underlying4 Try.laidOut rfl (by kernel_rfl)
    (fun ds hd => by
      obtain ⟨d0, d1, d2, rfl⟩ := ds_3 (n := 3) (ds := ds) hd
      rfl)
    (hcall_gen [(84, .scal [.int .u64, .int .u64, .int .u32, .int .u16] true), (5, .scal [.int .u8] false), (98, .sl 5 [.int .u8])] rfl (by
      intro e he
      simp only [List.mem_cons, List.not_mem_nil, or_false] at he
      rcases he with rfl | rfl | rfl
      · exact ⟨by kernel_rfl, by kernel_rfl⟩
      · exact ⟨by kernel_rfl, by kernel_rfl⟩
      · exact ⟨by kernel_rfl, by kernel_rfl, by kernel_rfl, by decide⟩) (infoLives_fun))
theorem infoLives_holds : Rows.InfoLivesSaid :=
  OpenClaim.holds_of_wide 14 Try.f14 rfl rfl rfl rfl rfl rfl rfl ⟨rfl, rfl, rfl, rfl, rfl⟩ rfl rfl rfl rfl rfl (by kernel_rfl) Try.func14 (by kernel_rfl)
    (of_decide_eq_true (by kernel_rfl)) (by unfold Func.isWrapper; rw [if_neg (by decide +kernel)]; exact ⟨rfl, rfl⟩)
    (fun os started H enc _ => infoLives_lifted os started H enc)
end Go.Proofs.Ytpapofdkcgopjaa
