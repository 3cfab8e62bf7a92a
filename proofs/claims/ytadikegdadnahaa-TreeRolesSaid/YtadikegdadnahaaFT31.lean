/- TreeRoles: behind any acts each role is the chosen one, what is neither Root nor Designated is Discarding, what is Designated tells the own vector, and the open ports are those that are so far. Whatever the input; no condition. -/
import Derived.Test.YtadikegdadnahaaRows
import Derived.Test.YtadikegdadnahaaT31
import Derived.Test.YtadikegdadnahaaEvX
import Derived.ProofKit
set_option maxRecDepth 100000
set_option linter.unusedSimpArgs false
set_option linter.unusedVariables false
set_option maxHeartbeats 4000000
namespace Go.Proofs.Ytadikegdadnahaa
open Go.ChangeShapes Go.WideShapes Go.ChangeAt Go.RowKit Go.Ev
theorem Try.own : ownKnob Try.prog.godebug = none := by kernel_rfl
theorem Try.laidOut : laidOutB Try.prog = true := by kernel_rfl
theorem rowsP_of : ∀ {els : List (List SV)}, (∀ row ∈ els, TypedL [.int .u8, .int .u8, .bool, .bool, .bool] row) → ∃ xs : List SPt, els = xs.map encSP
  | [], _ => ⟨[], rfl⟩
  | row :: rest, h => by
    obtain ⟨xs, rfl⟩ := rowsP_of (els := rest) fun r hr => h r (List.mem_cons_of_mem _ hr)
    have t := h row (List.mem_cons_self ..)
    obtain ⟨a, y0, rfl, _, _, t1⟩ := ty_int t
    obtain ⟨b, y1, rfl, _, _, t2⟩ := ty_int t1
    obtain ⟨c, y2, rfl, t3⟩ := ty_bool t2
    obtain ⟨d, y3, rfl, t4⟩ := ty_bool t3
    obtain ⟨e, y4, rfl, t5⟩ := ty_bool t4
    obtain rfl := ty_nil t5
    exact ⟨⟨a, b, c, d, e⟩ :: xs, rfl⟩
theorem rowsX_of : ∀ {els : List (List SV)}, (∀ row ∈ els, TypedL [.int .u8, .int .u8, .int .u8, .int .u8, .bool, .bool, .bool, .bool, .int .u8, .int .u8, .int .u8, .int .u8, .int .u8, .bool] row) → ∃ xs : List A18, els = xs.map encX ∧ ∀ y ∈ xs, 0 ≤ y.kind ∧ 0 ≤ y.port
  | [], _ => ⟨[], rfl, fun _ h => by cases h⟩
  | row :: rest, h => by
    obtain ⟨xs, rfl, hp⟩ := rowsX_of (els := rest) fun r hr => h r (List.mem_cons_of_mem _ hr)
    have t := h row (List.mem_cons_self ..)
    obtain ⟨a, y0, rfl, _, _, t6⟩ := ty_int t
    obtain ⟨b, y1, rfl, b0, _, t7⟩ := ty_int t6
    obtain ⟨c, y2, rfl, c0, _, t8⟩ := ty_int t7
    obtain ⟨d, y3, rfl, _, _, t9⟩ := ty_int t8
    obtain ⟨f0, y4, rfl, t10⟩ := ty_bool t9
    obtain ⟨f1, y5, rfl, t11⟩ := ty_bool t10
    obtain ⟨f2, y6, rfl, t12⟩ := ty_bool t11
    obtain ⟨f3, y7, rfl, t13⟩ := ty_bool t12
    obtain ⟨v0, y8, rfl, _, _, t14⟩ := ty_int t13
    obtain ⟨v1, y9, rfl, _, _, t15⟩ := ty_int t14
    obtain ⟨v2, x0, rfl, _, _, t16⟩ := ty_int t15
    obtain ⟨v3, x1, rfl, _, _, t17⟩ := ty_int t16
    obtain ⟨ag, x2, rfl, _, _, t18⟩ := ty_int t17
    obtain ⟨ow, x3, rfl, t19⟩ := ty_bool t18
    obtain rfl := ty_nil t19
    refine ⟨⟨a, b, c, d, f0, f1, f2, f3, v0, v1, v2, v3, ag, ow⟩ :: xs, rfl, fun x h => ?_⟩
    rcases List.mem_cons.1 h with rfl | h
    · exact ⟨c0, b0⟩
    · exact hp x h
theorem treeRoles_fun (ivs : List IV) (H0 : Heap) (h : TypedQ 0 [(27, .mix [.sc [.int .u8], .sc [.int .u8, .int .u8, .int .u8], .sl 29 [.int .u8, .int .u8, .bool, .bool, .bool]]), (69, .sl 73 [.int .u8, .int .u8, .int .u8, .int .u8, .bool, .bool, .bool, .bool, .int .u8, .int .u8, .int .u8, .int .u8, .int .u8, .bool])] ivs H0) : FunR Try.prog 4 H0 ivs (.s (.raw (.bool true))) := by
  obtain ⟨ys, H1, H2, ivs', rfl, m, rfl, q⟩ := q_mix h
  obtain ⟨els, ivs2, H3, he, rfl, rfl, q2⟩ := q_sl q
  obtain ⟨rfl, rfl⟩ := q_nil q2
  obtain ⟨y0, z0, rfl, t0, m1⟩ := m_sc m
  obtain ⟨y1, z1, rfl, t1, m2⟩ := m_sc m1
  obtain ⟨e0, z2, H4, he0, rfl, rfl, m3⟩ := m_sl m2
  obtain ⟨rfl, rfl⟩ := m_nil m3
  obtain ⟨id, a0, rfl, _, _, t0⟩ := ty_int t0
  obtain rfl := ty_nil t0
  obtain ⟨n0, a1, rfl, _, _, t1⟩ := ty_int t1
  obtain ⟨n1, a2, rfl, _, _, t1⟩ := ty_int t1
  obtain ⟨n2, a3, rfl, _, _, t1⟩ := ty_int t1
  obtain rfl := ty_nil t1
  obtain ⟨xs, rfl⟩ := rowsP_of he0
  obtain ⟨l, rfl, hl⟩ := rowsX_of he
  have := law4 ⟨id, n0, n1, n2⟩ xs l hl
  unfold encSET at this
  simp only [List.length_map, List.append_nil, List.cons_append, List.nil_append, List.length_cons, List.length_nil]
  exact this
theorem treeRoles_lifted (os : Os) (started : os.Started) (H : Type) (enc : TypeId × Value → H) :
    ReturnsInHanded {} Try.checked os 4 .any (Rows.treeRolesSpec.pre6 enc Try.prog Try.f4 Rows.treeRolesRow.domain false) (Rows.treeRolesSpec.post enc Try.prog Try.f4 false true false false) :=
  law_lifted (bt := 4) Try.own started (by kernel_rfl) Try.func4
    (ChangeSpec.witness6 (enc := enc) (C := Try.checked) false ⟨#[], #[.agg #[(.int .u8 0), (.int .u8 0), (.int .u8 0), (.int .u8 0), (.slice none 0 0)], .slice none 0 0], []⟩ 8 (by kernel_rfl) (by kernel_rfl) (by kernel_rfl) (by kernel_rfl))
    rfl Try.underlying4 Try.laidOut rfl (by kernel_rfl)
    (fun ds hd => by
      obtain ⟨d0, d1, rfl⟩ := ds_2 (n := 2) (ds := ds) hd
      rfl)
    (hcall_q [(27, .mix [.sc [.int .u8], .sc [.int .u8, .int .u8, .int .u8], .sl 29 [.int .u8, .int .u8, .bool, .bool, .bool]]), (69, .sl 73 [.int .u8, .int .u8, .int .u8, .int .u8, .bool, .bool, .bool, .bool, .int .u8, .int .u8, .int .u8, .int .u8, .int .u8, .bool])] rfl (by
      intro e he
      simp only [List.mem_cons, List.not_mem_nil, or_false] at he
      rcases he with rfl | rfl
      · exact ⟨_, [5, 5, 5, 5, 25], Try.underlying27, by kernel_rfl, rfl, by kernel_rfl, rfl, by kernel_rfl, by kernel_rfl, rfl, by kernel_rfl, by kernel_rfl, rfl, by kernel_rfl, by kernel_rfl, by kernel_rfl, by decide, by kernel_rfl, by kernel_rfl, trivial⟩
      · exact ⟨by kernel_rfl, by kernel_rfl, by kernel_rfl, by decide⟩) (treeRoles_fun))
theorem treeRoles_holds : Rows.TreeRolesSaid :=
  OpenClaim.holds_of_wide 4 Try.f4 rfl rfl rfl rfl rfl rfl rfl ⟨rfl, rfl, rfl, rfl, rfl⟩ rfl rfl rfl rfl rfl (by kernel_rfl) Try.func4 (by kernel_rfl)
    (of_decide_eq_true (by kernel_rfl)) (by unfold Func.isWrapper; rw [if_neg (by decide +kernel)]; exact ⟨rfl, rfl⟩)
    (fun os started H enc _ => treeRoles_lifted os started H enc)
end Go.Proofs.Ytadikegdadnahaa
