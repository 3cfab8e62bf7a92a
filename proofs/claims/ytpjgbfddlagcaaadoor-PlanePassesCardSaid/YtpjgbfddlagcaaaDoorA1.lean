/- The iterator of a set's ports: it hands out each port that the set has, from 1 to 16. -/
import Derived.Test.YtpjgbfddlagcaaaDoorTysG
import Derived.Test.YtpjgbfddlagcaaaDoorEvX
import Derived.Shelf.Abstract
import Derived.WalkKit
import Derived.OwnWalkIn
import Derived.TacticsInMore
import Derived.LoopNIn
import Derived.LoopIn
set_option linter.unusedVariables false
namespace Go.Proofs
open Go.RowKit Go.Shelf Go.Ev
attribute [local go_sem] Oper.semAt_some
/-- The numbers from 1 to n that satisfy h. -/
def upN (h : Int → Bool) : Nat → List Int
  | 0 => []
  | n + 1 => upN h n ++ if h (n + 1 : Nat) then [((n + 1 : Nat) : Int)] else []
theorem upN_pre (h : Int → Bool) (m : Nat) : ∀ k, upN h m <+: upN h (m + k)
  | 0 => List.prefix_refl _
  | k + 1 => (upN_pre h m k).trans (List.prefix_append _ _)
theorem upN_le (h : Int → Bool) {m n : Nat} (hmn : m ≤ n) : upN h m <+: upN h n := by
  obtain ⟨k, rfl⟩ := Nat.exists_eq_add_of_le hmn
  exact upN_pre h m k

theorem upN_at (h : Int → Bool) {q : Int} (hq : 1 ≤ q) : upN h q.toNat = upN h (q.toNat - 1) ++ if h q then [q] else [] := by
  obtain ⟨k, rfl⟩ : ∃ k : Nat, q = ((k + 1 : Nat) : Int) := ⟨q.toNat - 1, by omega⟩
  rw [show ((k + 1 : Nat) : Int).toNat = k + 1 by omega, Nat.add_sub_cancel]; rfl
theorem wrap_q {q : Int} (hq : 1 ≤ q ∧ q ≤ 17) : IntKind.i64.wrap (q + 1) = q + 1 := by
  obtain ⟨k, rfl⟩ : ∃ k : Fin 18, q = (k.val : Int) := ⟨⟨q.toNat, by omega⟩, by simp; omega⟩
  revert k; decide
set_option maxRecDepth 100000 in
set_option maxHeartbeats 1000000 in
theorem all1_iter (h : Int → Bool) (s : Int) (hh : ∀ p : Int, Fun Tryd.prog 19 [.s (.raw (.int .u32 s)), .s (.raw (.int .i64 p))] (.s (.raw (.bool (h p))))) (B o : Nat) :
    Iter Tryd.prog 44 #[.pointer (some ⟨B, o, none⟩)] (fun x : Int => .int .i64 x) (upN h 16) (fun W => W.cell? ⟨B, o, none⟩ = some (.int .u32 s)) := by
  intro l Js hmono hIC hY W h0
  show CallsIn Fence.wide 0 Tryd.prog 44 #[.func (.yield l) #[] #[], .pointer (some ⟨B, o, none⟩)] W _
  have hc19 : ∀ (q : Int) (wr : World), CallsIn Fence.wide 0 Tryd.prog 19 #[.int .u32 s, .int .i64 q] wr fun e w' => e = .returned (.bool (h q)) ∧ BelowD wr.heap.size wr w' := fun q wr =>
    (callsIn_wide (n := 0)).2 (((hh q).2 wr [.int .u32 s, .int .i64 q] ⟨⟨rfl, rfl⟩, ⟨rfl, rfl⟩, trivial⟩).mono fun e w' ⟨v, he, hv, hbd⟩ => ⟨by rw [he, show v = .bool (h q) from hv.1], hbd⟩)
  have f44 : Fence.wide.fn 44 := trivial
  have f19 : Fence.wide.fn 19 := trivial
  have hro : Fence.wide.round = none := rfl
  have hde : Fence.wide.depth = none := rfl
  generalize Fence.wide = F at *
  refine callsIn_of_wp Tryd.func44 rfl f44 ?_ hro
  simp only [Tryd.ntmps44, List.size_toArray, List.length_cons, List.length_nil, Nat.reduceAdd, Nat.reduceSub, Array.replicate_succ, Array.replicate_zero, List.push_toArray, List.append_toArray, List.nil_append, List.cons_append]
  gi_wp2
  gi_loopw [3] (fun p wr => ∃ q : Int, p = .int .i64 q ∧ (1 ≤ q ∧ q ≤ 17) ∧ Js (upN h (q.toNat - 1)) wr)
    (fun p _ => match p with | .int _ i => (17 - i).toNat | _ => 0)
  case atStart => exact ⟨1, rfl, by omega, h0⟩
  case round =>
    obtain ⟨q, rfl, hq, hJs⟩ := hrel
    have hcell := hIC _ _ hJs
    by_cases hc : q ≤ 16
    · have hw : IntKind.i64.wrap (q + 1) = q + 1 := wrap_q hq
      have hcall := hc19 q wr
      have hup := upN_at h hq.1
      cases hb : h q with
      | false =>
        rw [hb, if_neg (by decide), List.append_nil] at hup
        rw [hb] at hcall
        gi_wp2_with (gi_at_call 19; refine hcall.mono ?_; rintro e w' ⟨rfl, hbd⟩)
        refine ⟨(fun _ hn => by cases hn), ?_⟩
        gi_wp2
        go_roundw
        case rel => exact ⟨_, rfl, by omega, by rw [show (q + 1).toNat - 1 = q.toNat by omega, hup]; exact hmono _ _ _ hJs hbd⟩
        case measure => show (17 - (q + 1)).toNat < (17 - q).toNat; omega
      | true =>
        rw [hb, if_pos rfl] at hup
        rw [hb] at hcall
        gi_wp2_with (gi_at_call 19; refine hcall.mono ?_; rintro e w' ⟨rfl, hbd⟩)
        obtain ⟨fn, tmps, assign, body, hy, hR⟩ := hY _ q _ (hmono _ _ _ hJs hbd) (by rw [← hup]; exact upN_le h (by omega))
        gi_wp2
        rw [hy]
        gi_wp2
        refine hR.mono ?_
        rintro e W3 ⟨rfl, hJ3⟩
        gi_wp2
        go_roundw
        case rel => exact ⟨_, rfl, by omega, by rw [show (q + 1).toNat - 1 = q.toNat by omega, hup]; exact hJ3⟩
        case measure => show (17 - (q + 1)).toNat < (17 - q).toNat; omega
    · have h17 : Js (upN h 16) wr := by
        rw [show q.toNat - 1 = 16 by omega] at hJs; exact hJs
      gi_wp2
      go_end0
      exact ⟨⟨_, rfl⟩, h17⟩
end Go.Proofs
