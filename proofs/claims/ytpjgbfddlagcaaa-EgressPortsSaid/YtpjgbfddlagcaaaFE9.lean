/- EgressPorts: any tables, any frame: the ports that it goes to. Whatever the input; no condition. -/
import Derived.Test.YtpjgbfddlagcaaaRows
import Derived.Test.YtpjgbfddlagcaaaE9
import Derived.Test.YtpjgbfddlagcaaaEvX
import Derived.ProofKit
set_option maxRecDepth 100000
set_option linter.unusedSimpArgs false
set_option linter.unusedVariables false
set_option maxHeartbeats 4000000
namespace Go.Proofs.Ytpjgbfddlagcaaa
open Go.ChangeShapes Go.WideShapes Go.ChangeAt Go.RowKit Go.Ev
theorem Try.own : ownKnob Try.prog.godebug = none := by kernel_rfl
theorem Try.laidOut : laidOutB Try.prog = true := by kernel_rfl
theorem rowsV_of : ∀ {els : List (List SV)}, (∀ row ∈ els, TypedL [.int .u16, .int .u16] row) → ∃ xs : List PRR, els = xs.map rV ∧ ∀ y ∈ xs, 0 ≤ y.b ∧ y.b ≤ 65535
  | [], _ => ⟨[], rfl, fun _ h => by cases h⟩
  | row :: rest, h => by
    obtain ⟨xs, rfl, hp⟩ := rowsV_of (els := rest) fun r hr => h r (List.mem_cons_of_mem _ hr)
    have t := h row (List.mem_cons_self ..)
    obtain ⟨a, y0, rfl, _, _, t⟩ := ty_int t
    obtain ⟨b, y1, rfl, b0, b1, t⟩ := ty_int t
    obtain rfl := ty_nil t
    refine ⟨⟨a, b⟩ :: xs, rfl, fun x h => ?_⟩
    rcases List.mem_cons.1 h with rfl | h
    · exact ⟨b0, b1⟩
    · exact hp x h
theorem rowsF_of : ∀ {els : List (List SV)}, (∀ row ∈ els, TypedL [.int .u8, .int .u8] row) → ∃ xs : List PRR, els = xs.map rF
  | [], _ => ⟨[], rfl⟩
  | row :: rest, h => by
    obtain ⟨xs, rfl⟩ := rowsF_of (els := rest) fun r hr => h r (List.mem_cons_of_mem _ hr)
    have t := h row (List.mem_cons_self ..)
    obtain ⟨a, y0, rfl, _, _, t⟩ := ty_int t
    obtain ⟨b, y1, rfl, _, _, t⟩ := ty_int t
    obtain rfl := ty_nil t
    exact ⟨⟨a, b⟩ :: xs, rfl⟩
theorem egressPorts_fun (ivs : List IV) (H0 : Heap) (h : TypedQ 0 [(56, .mix [.sl 23 [.int .u16, .int .u16], .sl 23 [.int .u16, .int .u16], .sl 60 [.int .u8, .int .u8], .sc [.int .i64], .sc [.int .u16], .sc [.int .u8, .int .u8, .int .u8, .int .u8, .int .u8, .int .u8], .sc [.int .u32]])] ivs H0) : FunR Try.prog 4 H0 ivs (.s (.raw (.bool true))) := by
  obtain ⟨xs, H1, H2, ivs', rfl, m, rfl, q⟩ := q_mix h
  obtain ⟨rfl, rfl⟩ := q_nil q
  obtain ⟨e0, z0, H3, he0, rfl, rfl, mq1⟩ := m_sl m
  obtain ⟨e1, z1, H4, he1, rfl, rfl, mq2⟩ := m_sl mq1
  obtain ⟨e2, z2, H5, he2, rfl, rfl, mq3⟩ := m_sl mq2
  obtain ⟨y3, z3, rfl, t3, mq4⟩ := m_sc mq3
  obtain ⟨y4, z4, rfl, t4, mq5⟩ := m_sc mq4
  obtain ⟨y5, z5, rfl, t5, mq6⟩ := m_sc mq5
  obtain ⟨y6, z6, rfl, t6, mq7⟩ := m_sc mq6
  obtain ⟨rfl, rfl⟩ := m_nil mq7
  obtain ⟨fr, a3, rfl, _, _, t3⟩ := ty_int t3
  obtain rfl := ty_nil t3
  obtain ⟨vid, a4, rfl, _, _, t4⟩ := ty_int t4
  obtain rfl := ty_nil t4
  obtain ⟨m0, a5, rfl, _, _, t5⟩ := ty_int t5
  obtain ⟨m1, a6, rfl, _, _, t5⟩ := ty_int t5
  obtain ⟨m2, a7, rfl, _, _, t5⟩ := ty_int t5
  obtain ⟨m3, a8, rfl, _, _, t5⟩ := ty_int t5
  obtain ⟨m4, a9, rfl, _, _, t5⟩ := ty_int t5
  obtain ⟨m5, b0, rfl, _, _, t5⟩ := ty_int t5
  obtain rfl := ty_nil t5
  obtain ⟨o, b1, rfl, _, _, t6⟩ := ty_int t6
  obtain rfl := ty_nil t6
  obtain ⟨vs, rfl, hv⟩ := rowsV_of he0
  obtain ⟨ss, rfl, _⟩ := rowsV_of he1
  obtain ⟨fs, rfl⟩ := rowsF_of he2
  have := law4 ⟨vs, ss, fs, fr, vid, ⟨m0, m1, m2, m3, m4, m5⟩, o⟩ hv
  unfold askR at this
  simp only [List.length_map, List.append_nil, List.cons_append, List.nil_append, List.length_cons, List.length_nil]
  exact this
theorem egressPorts_lifted (os : Os) (started : os.Started) (H : Type) (enc : TypeId × Value → H) :
    ReturnsInHanded {} Try.checked os 4 .any (Rows.egressPortsSpec.pre6 enc Try.prog Try.f4 Rows.egressPortsRow.domain false) (Rows.egressPortsSpec.post enc Try.prog Try.f4 false true false false) :=
  law_lifted (bt := 4) Try.own started (by kernel_rfl) Try.func4
    (ChangeSpec.witness6 (enc := enc) (C := Try.checked) false ⟨#[], #[.agg #[(.slice none 0 0), (.slice none 0 0), (.slice none 0 0), (.int .i64 0), (.int .u16 0), (.int .u8 0), (.int .u8 0), (.int .u8 0), (.int .u8 0), (.int .u8 0), (.int .u8 0), (.int .u32 0)]], []⟩ 8 (by kernel_rfl) (by kernel_rfl) (by kernel_rfl) (by kernel_rfl))
    rfl Try.underlying4 Try.laidOut rfl (by kernel_rfl)
    (fun ds hd => by
      obtain ⟨d0, rfl⟩ := ds_1 (n := 1) (ds := ds) hd
      rfl)
    (hcall_q [(56, .mix [.sl 23 [.int .u16, .int .u16], .sl 23 [.int .u16, .int .u16], .sl 60 [.int .u8, .int .u8], .sc [.int .i64], .sc [.int .u16], .sc [.int .u8, .int .u8, .int .u8, .int .u8, .int .u8, .int .u8], .sc [.int .u32]])] rfl (by
      intro e he
      simp only [List.mem_cons, List.not_mem_nil, or_false] at he
      rcases he with rfl
      · exact ⟨_, [53, 53, 54, 3, 22, 5, 5, 5, 5, 5, 5, 33], Try.underlying56, by kernel_rfl, rfl, by kernel_rfl, rfl, by kernel_rfl, by kernel_rfl, by kernel_rfl, by decide, by kernel_rfl, by kernel_rfl, rfl, by kernel_rfl, by kernel_rfl, by kernel_rfl, by decide, by kernel_rfl, by kernel_rfl, rfl, by kernel_rfl, by kernel_rfl, by kernel_rfl, by decide, by kernel_rfl, by kernel_rfl, rfl, by kernel_rfl, by kernel_rfl, rfl, by kernel_rfl, by kernel_rfl, rfl, by kernel_rfl, by kernel_rfl, rfl, by kernel_rfl, by kernel_rfl, trivial⟩) (egressPorts_fun))
theorem egressPorts_holds : Rows.EgressPortsSaid :=
  OpenClaim.holds_of_wide 4 Try.f4 rfl rfl rfl rfl rfl rfl rfl ⟨rfl, rfl, rfl, rfl, rfl⟩ rfl rfl rfl rfl rfl (by kernel_rfl) Try.func4 (by kernel_rfl)
    (of_decide_eq_true (by kernel_rfl)) (by unfold Func.isWrapper; rw [if_neg (by decide +kernel)]; exact ⟨rfl, rfl⟩)
    (fun os started H enc _ => egressPorts_lifted os started H enc)
end Go.Proofs.Ytpjgbfddlagcaaa
