/- PlanePasses: frames, one behind the other, at any ports with any tables: what each is counted as, where and how it is sent on, whether its station is new, and whether another one had to go. Whatever the input; the table by which frames are counted reads as its initialiser lays it (tied to the text of the program). -/
import Derived.Test.YtpjgbfddlagcaaaDoorRows
import Derived.Test.YtpjgbfddlagcaaaDoorCards
import Derived.Test.YtpjgbfddlagcaaaDoorTie
import Derived.Test.YtpjgbfddlagcaaaDoorP11
import Derived.Test.YtpjgbfddlagcaaaDoorEvX
import Derived.ProofKit
import Derived.LaidMore
import Derived.Lib.LaidTab
import Derived.OpenShut
import Derived.Stop.Joined
import Derived.Stop.LaidErr
import Derived.SevenTiedAt
set_option maxRecDepth 100000
set_option linter.unusedSimpArgs false
set_option linter.unusedVariables false
set_option maxHeartbeats 4000000
namespace Go.Proofs.YtpjgbfddlagcaaaDoor
open Go.ChangeShapes Go.WideShapes Go.ChangeAt Go.RowKit Go.Ev
theorem Tryd.own : ownKnob Tryd.prog.godebug = none := by kernel_rfl
theorem Tryd.laidOut : laidOutB Tryd.prog = true := by kernel_rfl
def GoodO (o : Obj) : Prop := ∃ t z, o = .cells #[.int .i64 0, .int .i64 3, .int .i64 4, .int .i64 5] t z
theorem rowsP_of : ∀ {els : List (List SV)}, (∀ row ∈ els, TypedL [.bool, .int .u8, .int .u8, .bool, .int .u8] row) → ∃ xs : List POQ, els = xs.map poC ∧ ∀ y ∈ xs, 0 ≤ y.st
  | [], _ => ⟨[], rfl, fun _ h => by cases h⟩
  | row :: rest, h => by
    obtain ⟨xs, rfl, hp⟩ := rowsP_of (els := rest) fun r hr => h r (List.mem_cons_of_mem _ hr)
    have t := h row (List.mem_cons_self ..)
    obtain ⟨a, y0, rfl, t1⟩ := ty_bool t
    obtain ⟨b, y1, rfl, b0, _, t⟩ := ty_int t1
    obtain ⟨c, y2, rfl, _, _, t⟩ := ty_int t
    obtain ⟨d, y3, rfl, t2⟩ := ty_bool t
    obtain ⟨e, y4, rfl, _, _, t⟩ := ty_int t2
    obtain rfl := ty_nil t
    refine ⟨⟨a, b, c, d, e⟩ :: xs, rfl, fun x h => ?_⟩
    rcases List.mem_cons.1 h with rfl | h
    · exact b0
    · exact hp x h
theorem rowsS_of : ∀ {els : List (List SV)}, (∀ row ∈ els, TypedL [.int .u16, .int .u16] row) → ∃ xs : List STQ, els = xs.map stQ
  | [], _ => ⟨[], rfl⟩
  | row :: rest, h => by
    obtain ⟨xs, rfl⟩ := rowsS_of (els := rest) fun r hr => h r (List.mem_cons_of_mem _ hr)
    have t := h row (List.mem_cons_self ..)
    obtain ⟨a, y0, rfl, _, _, t⟩ := ty_int t
    obtain ⟨b, y1, rfl, _, _, t⟩ := ty_int t
    obtain rfl := ty_nil t
    exact ⟨⟨a, b⟩ :: xs, rfl⟩
theorem rowsQ_of : ∀ {els : List (List SV)}, (∀ row ∈ els, TypedL [.int .u8, .int .u8, .int .u8, .bool, .int .u8, .int .u16] row) → ∃ xs : List FRQ, els = xs.map fqC ∧ ∀ y ∈ xs, 0 ≤ y.lo ∧ y.lo ≤ 65535 ∧ 0 ≤ y.po
  | [], _ => ⟨[], rfl, fun _ h => by cases h⟩
  | row :: rest, h => by
    obtain ⟨xs, rfl, hp⟩ := rowsQ_of (els := rest) fun r hr => h r (List.mem_cons_of_mem _ hr)
    have t := h row (List.mem_cons_self ..)
    obtain ⟨a, y0, rfl, a0, _, t⟩ := ty_int t
    obtain ⟨b, y1, rfl, _, _, t⟩ := ty_int t
    obtain ⟨c, y2, rfl, _, _, t⟩ := ty_int t
    obtain ⟨d, y3, rfl, t2⟩ := ty_bool t
    obtain ⟨e, y4, rfl, _, _, t⟩ := ty_int t2
    obtain ⟨g, y5, rfl, g0, g1, t⟩ := ty_int t
    obtain rfl := ty_nil t
    refine ⟨⟨a, b, c, d, e, g⟩ :: xs, rfl, fun x h => ?_⟩
    rcases List.mem_cons.1 h with rfl | h
    · exact ⟨g0, g1, a0⟩
    · exact hp x h
theorem planePasses_fun (o : Obj) (ho : GoodO o) (ivs : List IV) (H0 : Heap) (h : TypedQ 0 [(29, .mix [.sl 86 [.bool, .int .u8, .int .u8, .bool, .int .u8], .sc [.int .u16, .int .u16, .int .u16, .int .u16, .int .u16, .int .u16], .sl 24 [.int .u16, .int .u16], .sc [.int .u8], .sl 45 [.int .u8, .int .u8, .int .u8, .bool, .int .u8, .int .u16]])] ivs H0) : FunRG 0 o Tryd.prog 3 H0 ivs (.s (.raw (.bool true))) := by
  obtain ⟨xs, H1, H2, ivs', rfl, m, rfl, q⟩ := q_mix h
  obtain ⟨rfl, rfl⟩ := q_nil q
  obtain ⟨e0, z0, H3, he0, rfl, rfl, mq1⟩ := m_sl m
  obtain ⟨y1, z1, rfl, t1, mq2⟩ := m_sc mq1
  obtain ⟨e2, z2, H4, he2, rfl, rfl, mq3⟩ := m_sl mq2
  obtain ⟨y3, z3, rfl, t3, mq4⟩ := m_sc mq3
  obtain ⟨e4, z4, H5, he4, rfl, rfl, mq5⟩ := m_sl mq4
  obtain ⟨rfl, rfl⟩ := m_nil mq5
  obtain ⟨a0, w1, rfl, _, _, t1⟩ := ty_int t1
  obtain ⟨b0, w2, rfl, _, _, t1⟩ := ty_int t1
  obtain ⟨a1, w3, rfl, _, _, t1⟩ := ty_int t1
  obtain ⟨b1, w4, rfl, _, _, t1⟩ := ty_int t1
  obtain ⟨a2, w5, rfl, _, _, t1⟩ := ty_int t1
  obtain ⟨b2, w6, rfl, _, _, t1⟩ := ty_int t1
  obtain rfl := ty_nil t1
  obtain ⟨room, w7, rfl, r0, r1, t3⟩ := ty_int t3
  obtain rfl := ty_nil t3
  obtain ⟨ps, rfl, hps⟩ := rowsP_of he0
  obtain ⟨ss, rfl⟩ := rowsS_of he2
  obtain ⟨fs, rfl, hfs⟩ := rowsQ_of he4
  have := law3 o ho ⟨ps, ss, fs, ⟨a0, b0, a1, b1, a2, b2⟩, room⟩ r0 r1 hps hfs
  unfold playC at this
  simp only [List.length_map, List.append_nil, List.cons_append, List.nil_append, List.length_cons, List.length_nil]
  exact this
def laidL : List (String × DataW Unit) := Rows.planePassesRow.laid
theorem door_met (os : Os) (args : Array Value) : laidMetH Tryd.prog laidL ((World.doorLaid Tryd.prog 400 os).forCall (fun _ _ => 0) ⟨#[], args, []⟩).memory :=
  laidMetH_of_parts3 (fuel := 8) (laidMet_of_run' 8 (by kernel_rfl) (by kernel_rfl)) (by kernel_rfl) (by kernel_rfl)
theorem tab_data : (Rows.laid_girder_plane_whys : DataW Unit) = Lib.tabData .i64 [0, 3, 4, 5] := by kernel_rfl
theorem glob_of (W : World) (h : laidMetH Tryd.prog laidL W) : ∃ o, GoodO o ∧ W.heap[0]? = some o := by
  rw [MakeChecks.laidMetH_plain _ _ _ (by kernel_rfl)] at h
  have h2 : laidMet Tryd.prog (("girder/plane.whys", Rows.laid_girder_plane_whys) :: []) W := h
  rw [tab_data] at h2
  have ht := Lib.tabIs_of_head (g := 0) (t := 61) (e := 3) (n := 4) (by kernel_rfl) (by kernel_rfl) (by kernel_rfl) (by kernel_rfl) (by kernel_rfl) (by kernel_rfl) h2
  unfold Lib.TabIs World.var? at ht
  rw [show Tryd.prog.globalNamed "girder/plane.whys" = some 0 by kernel_rfl] at ht
  simp only [Option.bind_some] at ht
  split at ht
  · rename_i cs t z hh
    cases ht
    exact ⟨_, ⟨t, z, rfl⟩, hh⟩
  · cases ht
theorem planePasses_lifted (os : Os) (started : os.Started) (H : Type) (enc : TypeId × Value → H) :
    ReturnsInHanded {} Tryd.checked os 3 .any (fun w args => (Rows.planePassesSpec.pre enc Tryd.prog Tryd.f3 [] false w args ∧ laidMetH Tryd.prog laidL w) ∧ sizedMet enc Tryd.prog Tryd.f3 (OpenSpec.ofChange Rows.planePassesSpec) false w args)
      (Rows.planePassesSpec.post enc Tryd.prog Tryd.f3 false true false false) :=
  law_liftedT (bt := 4) (C := Tryd.checked) (XL := fun w => laidMetH Tryd.prog laidL w) (fun _ _ hh h => h.of_heap hh) Tryd.own started (by kernel_rfl) Tryd.func3
    (ChangeSpec.witness_shaped (enc := enc) (C := Tryd.checked) (os := os) (X := fun w _ => laidMetH Tryd.prog laidL w) false (World.doorLaid Tryd.prog 400 os) #[.agg #[(.slice none 0 0), (.int .u16 0), (.int .u16 0), (.int .u16 0), (.int .u16 0), (.int .u16 0), (.int .u16 0), (.slice none 0 0), (.int .u8 0), (.slice none 0 0)]] 8 rfl (World.shaped_of_RefB (by kernel_rfl) (by kernel_rfl)) (by kernel_rfl) (by kernel_rfl) (by kernel_rfl) (door_met os _))
    rfl Tryd.underlying4 Tryd.laidOut rfl (by kernel_rfl)
    (fun ds hd => by
      obtain ⟨d0, rfl⟩ := ds_1 (n := 1) (ds := ds) hd
      rfl)
    (hcall_qG glob_of [(29, .mix [.sl 86 [.bool, .int .u8, .int .u8, .bool, .int .u8], .sc [.int .u16, .int .u16, .int .u16, .int .u16, .int .u16, .int .u16], .sl 24 [.int .u16, .int .u16], .sc [.int .u8], .sl 45 [.int .u8, .int .u8, .int .u8, .bool, .int .u8, .int .u16]])] rfl (by
      intro e he
      simp only [List.mem_cons, List.not_mem_nil, or_false] at he
      rcases he with rfl
      · exact ⟨_, [22, 23, 23, 23, 23, 23, 23, 26, 5, 27], Tryd.underlying29, by kernel_rfl, rfl, by kernel_rfl, rfl, by kernel_rfl, by kernel_rfl, by kernel_rfl, by decide, by kernel_rfl, by kernel_rfl, rfl, by kernel_rfl, by kernel_rfl, rfl, by kernel_rfl, by kernel_rfl, by kernel_rfl, by decide, by kernel_rfl, by kernel_rfl, rfl, by kernel_rfl, by kernel_rfl, rfl, by kernel_rfl, by kernel_rfl, by kernel_rfl, by decide, by kernel_rfl, by kernel_rfl, trivial⟩) (planePasses_fun))
theorem planePasses_row_holds : Rows.PlanePassesSaid :=
  OpenClaim.holds_of_wide 3 Tryd.f3 rfl rfl rfl rfl rfl rfl rfl ⟨rfl, rfl, rfl, rfl, rfl⟩ rfl rfl rfl rfl rfl (by kernel_rfl) Tryd.func3 (by kernel_rfl)
    (of_decide_eq_true (by kernel_rfl)) (by unfold Func.isWrapper; rw [if_neg (by decide +kernel)]; exact ⟨rfl, rfl⟩)
    (fun os started H enc _ => planePasses_lifted os started H enc)
theorem planePasses_holds : Rows.PlanePassesCardSaid :=
  Claim7.holds_tied_plain_at .later [] [.data] true (true, "d32208d81e80abe15be41311d0ef8b5e4de641af4d96e7f2c913bf5179814991") false
    planePasses_row_holds (fun _ h => by cases h) (by kernel_rfl) (fun _ h => by cases h) planePasses_row_tie rfl ⟨rfl, rfl⟩ (by kernel_rfl) rfl
    (fun f fn hf hfn => by
      obtain rfl : f = 3 := Option.some.inj ((show Tryd.prog.funcNamed "girder/girderlaw19.PlanePasses" = some 3 by kernel_rfl).symm.trans hf) |>.symm
      obtain rfl : fn = Tryd.f3 := (Option.some.inj (Tryd.func3.symm.trans hfn)).symm
      exact ⟨by kernel_rfl, fun j t ht => by
        rw [Tryd.params3] at ht
        have hm : t ∈ [29] := by simpa using Array.mem_of_getElem? ht
        have hall : ([29].all fun u => !Tryd.prog.wantsStandIn u) = true := by kernel_rfl
        exact (show Tryd.prog.wantsStandIn t = false by simpa using List.all_eq_true.1 hall t hm)⟩)
    (by kernel_rfl)
end Go.Proofs.YtpjgbfddlagcaaaDoor
