/- A region that draws its order, by an invariant over which operations are done. -/
import Derived.Test.YtnmobamjinponaaEvMaps
namespace Go.Ev
open Go.RowKit

section
variable {P : Program} {n : Nat} {X : Ctx} {all : Array Oper} {ρ' : Ren} {tm : TM} {H : Heap} {a : Act} {w : World} {k : TM → Heap → Prop} {K : Act → World → Prop} {Q : Exit → Act → World → Prop}

/-- One operation, as the evaluator tells it. -/
theorem one_sound {i : Nat} {o : Oper} (hall : ∀ (j : Nat) (q : Oper), all[j]? = some q → operOk n q = true) (ho : all[i]? = some o) (ha : RelA n ρ' tm a) (hi : Inv X ρ' H w)
    (h : gd (guardB all tm o.guard) (evOp P X o k) (junkK k o.dst) tm H)
    (next : ∀ (ρ2 : Ren) (tm2 : TM) (H2 : Heap) (a2 : Act) (w2 : World), Le ρ' ρ2 → RelA n ρ2 tm2 a2 → Inv X ρ2 H2 w2 → k tm2 H2 → K a2 w2) : wpOp P all Q i K a w := by
  have hdst := operOk_dst (hall i o ho)
  unfold wpOp
  simp only [ho]
  simp only [gd] at h
  split at h
  · rename_i b hg
    rw [guard_wanted ha hall hg]
    cases b with
    | false =>
      rw [gdb_false] at h
      simp only [Bool.false_eq_true, if_false]
      exact next ρ' _ _ _ _ (Le.refl _) (ha.put (Le.refl _) hdst (v := .t []) (rel_undef _)) hi h
    | true =>
      rw [gdb_true] at h
      simp only [if_true]
      left
      unfold Oper.wp
      unfold evOp at h
      split at h
      · rename_i c hop
        split at h
        · rename_i f hcal
          obtain ⟨hent, hcall⟩ := h
          have hargs := relA_list ha c.args.toList
          have hc := hcall ρ' _ w hargs hi
          have hex : (execOp a.eval o).run P w = .ok (.enter f (c.args.map a.eval)) w := by
            unfold enters at hent
            split at hent
            · rename_i fn hfn
              simp only [Bool.and_eq_true, Bool.not_eq_true', Option.isSome_iff_exists] at hent
              obtain ⟨⟨body, hbody⟩, hname⟩ := hent
              have hn : ¬ fn.name = "runtime.NumGoroutine" := by simpa using hname
              simp [execOp, hop, resolve, hcal, Act.eval, Deferred.ofValue, invoke, callFunc, hfn, hn, hbody]
            · cases hent
          rw [hex, Oper.upon_enter]
          have e : (List.map a.eval c.args.toList).toArray = c.args.map a.eval := by apply Array.ext'; simp only [Array.toList_map]
          rw [e] at hc
          refine hc.mono ?_
          rintro _ w' ⟨v, r, H', ρ2, rfl, hk, hr, hpre, hinv⟩
          exact next ρ2 _ _ _ _ hpre (ha.put hpre hdst hr) hinv hk
        · rename_i tc hcal
          obtain ⟨f, fst, cap, hv, hent, hc⟩ := cloK_spec ha hi h (relA_list ha c.args.toList)
          rw [clo_run hop hcal hv hent, Oper.upon_enter]
          have e : (List.map a.eval c.args.toList).toArray = c.args.map a.eval := by apply Array.ext'; simp only [Array.toList_map]
          rw [e] at hc
          refine hc.mono ?_
          rintro _ w' ⟨v, r, H', ρ2, rfl, hk, hr, hpre, hinv⟩
          exact next ρ2 _ _ _ _ hpre (ha.put hpre hdst hr) hinv hk
        · unfold stepG at h
          split at h
          · rename_i cc v W hst
            obtain ⟨hc, hk⟩ := h
            obtain ⟨ρ2, x, w', hpre, _, hr, hinv, hrun⟩ := step_sound ha hi (.inl rfl) hst hc
            rcases hrun with hrun | ⟨hrun, rfl⟩
            · rw [hrun, Oper.upon_value]
              exact next ρ2 _ _ _ _ hpre (ha.put hpre hdst hr) hinv hk
            · rw [hrun, Oper.upon_skip]
              exact next ρ2 _ _ _ _ hpre (ha.put hpre hdst hr) hinv hk
          · obtain ⟨x, w', v, H', ρ2, hrun, hr, hpre, hinv, hk⟩ := h n ρ' a w ha hi
            rcases hrun with hrun | ⟨hrun, rfl⟩
            · rw [hrun, Oper.upon_value]
              exact next ρ2 _ _ _ _ hpre (ha.put hpre hdst hr) hinv hk
            · rw [hrun, Oper.upon_skip]
              exact next ρ2 _ _ _ _ hpre (ha.put hpre hdst hr) hinv hk
        · unfold stepK at h
          split at h
          · rename_i cc v W hst
            obtain ⟨hc, hk⟩ := h
            obtain ⟨ρ2, x, w', hpre, _, hr, hinv, hrun⟩ := step_sound ha hi (.inl rfl) hst hc
            rcases hrun with hrun | ⟨hrun, rfl⟩
            · rw [hrun, Oper.upon_value]
              exact next ρ2 _ _ _ _ hpre (ha.put hpre hdst hr) hinv hk
            · rw [hrun, Oper.upon_skip]
              exact next ρ2 _ _ _ _ hpre (ha.put hpre hdst hr) hinv hk
          · exact h.elim
      · rename_i cnd x y hop
        simp only [gd] at h
        split at h
        · rename_i b hb
          have hcv := relI_bool (rd_rel ha cnd) hb
          have hex : (execOp a.eval o).run P w = .ok (.value (if b then a.eval x else a.eval y)) w := by
            simp [execOp, hop, hcv, asBool]
          rw [hex, Oper.upon_value]
          cases b with
          | true => rw [gdb_true] at h; exact next ρ' _ _ _ _ (Le.refl _) (ha.put (Le.refl _) hdst (rd_rel ha x)) hi h
          | false => rw [gdb_false] at h; exact next ρ' _ _ _ _ (Le.refl _) (ha.put (Le.refl _) hdst (rd_rel ha y)) hi h
        · exact h.elim
      iterate 10
        · obtain ⟨x, w', v, H', ρ2, hrun, hr, hpre, hinv, hk⟩ := h n ρ' a w ha hi
          rcases hrun with hrun | ⟨hrun, rfl⟩
          · rw [hrun, Oper.upon_value]
            exact next ρ2 _ _ _ _ hpre (ha.put hpre hdst hr) hinv hk
          · rw [hrun, Oper.upon_skip]
            exact next ρ2 _ _ _ _ hpre (ha.put hpre hdst hr) hinv hk
      · unfold stepK at h
        split at h
        · rename_i c v W hst
          obtain ⟨hc, hk⟩ := h
          obtain ⟨ρ2, x, w', hpre, _, hr, hinv, hrun⟩ := step_sound ha hi (.inl rfl) hst hc
          rcases hrun with hrun | ⟨hrun, rfl⟩
          · rw [hrun, Oper.upon_value]
            exact next ρ2 _ _ _ _ hpre (ha.put hpre hdst hr) hinv hk
          · rw [hrun, Oper.upon_skip]
            exact next ρ2 _ _ _ _ hpre (ha.put hpre hdst hr) hinv hk
        · exact h.elim
  · exact h.elim

/-- What is done: the operations of an index list. -/
theorem drawK_inv {id : Nat} {K : TM → Heap → Prop} (hmix : P.follows .mixedOrders = true) (hok : all.toList.all (operOk n) = true) (hback : backOk 0 all.toList = true)
    (I : (Nat → Bool) → TM → Heap → Prop) (h0 : I (fun _ => false) tm H)
    (hstep : ∀ (i : Nat) (o : Oper), all[i]? = some o → ∀ (dn : Nat → Bool) (tm : TM) (H : Heap), I dn tm H → dn i = false → (∀ x ∈ depsOf o, dn x = true) →
      gd (guardB all tm o.guard) (evOp P X o (I fun j => if j = i then true else dn j)) (junkK (I fun j => if j = i then true else dn j) o.dst) tm H)
    (hend : ∀ (dn : Nat → Bool) (tm : TM) (H : Heap), (∀ i, i < all.size → dn i = true) → I dn tm H → K tm H) : drawK P n X id all K tm H := by
  have hall : ∀ (j : Nat) (q : Oper), all[j]? = some q → operOk n q = true := fun j q hj => by
    simp only [List.all_eq_true] at hok
    exact hok q (by simpa using Array.mem_of_getElem? hj)
  intro ρ a w ha hi
  refine wp_region_any hmix ?_
  have fin : ∀ (listed : Array Bool) (ρ' : Ren) (tm : TM) (H : Heap) (a : Act) (w : World), listed.size = all.size → I (fun i => listed.getD i false) tm H → RelA n ρ' tm a → Inv X ρ' H w → Le ρ ρ' →
      Region.ready .any all listed = [] → LQ n X ρ (seqQ K fun _ _ _ => False) .normal a w := by
    intro listed ρ' tm H a w hsz hI ha hi hle hready
    have alld : ∀ i, i < all.size → listed.getD i false = true := by
      intro i
      induction i using Nat.strongRecOn with
      | _ i ih =>
        intro hi'
        cases hb : listed.getD i false with
        | true => rfl
        | false =>
          exfalso
          have : i ∈ Region.ready .any all listed := by
            rw [mem_ready]
            refine ⟨?_, all[i], by simp [hi'], fun e he hbind => ?_⟩
            · have hlt : i < listed.size := by omega
              simp only [Array.getD_eq_getD_getElem?, Array.getElem?_eq_getElem hlt, Option.getD_some] at hb ⊢; exact hb
            · have hd : e.on ∈ depsOf all[i] := List.mem_map.2 ⟨e, List.mem_filter.2 ⟨by simpa using he, hbind⟩, rfl⟩
              have := backOk_spec hback (k := i) (by simp [hi']) _ hd
              exact ih e.on (by omega) (by omega)
          rw [hready] at this; cases this
    exact ⟨ρ', tm, H, hend _ tm H alld hI, hle.toN _, ha, hi⟩
  have main : ∀ (fuel : Nat) (listed : Array Bool) (ρ' : Ren) (tm : TM) (H : Heap) (a : Act) (w : World), listed.size = all.size → ((List.range all.size).filter fun i => !listed.getD i true).length ≤ fuel →
      I (fun i => listed.getD i false) tm H → RelA n ρ' tm a → Inv X ρ' H w → Le ρ ρ' → wpAny P .any all (LQ n X ρ (seqQ K fun _ _ _ => False)) fuel listed a w := by
    intro fuel
    induction fuel with
    | zero =>
      intro listed ρ' tm H a w hsz hcnt hI ha hi hle
      have hr : Region.ready .any all listed = [] := by
        rw [List.eq_nil_iff_forall_not_mem]
        intro i hi
        rw [mem_ready] at hi
        obtain ⟨h0, o, ho, _⟩ := hi
        have : i ∈ (List.range all.size).filter fun i => !listed.getD i true := by
          rw [List.mem_filter]; exact ⟨by simp; exact (Array.getElem?_eq_some_iff.1 ho).1, by simp only [h0]; rfl⟩
        rw [List.eq_nil_of_length_eq_zero (Nat.le_zero.1 hcnt)] at this; cases this
      exact ⟨hr, fin listed ρ' tm H a w hsz hI ha hi hle hr⟩
    | succ fuel ih =>
      intro listed ρ' tm H a w hsz hcnt hI ha hi hle
      refine ⟨fun hr => fin listed ρ' tm H a w hsz hI ha hi hle hr, fun i hir => ?_⟩
      rw [mem_ready] at hir
      obtain ⟨h0, o, ho, haf⟩ := hir
      have hil : i < all.size := (Array.getElem?_eq_some_iff.1 ho).1
      have hlt : i < listed.size := by omega
      have hd0 : listed.getD i false = false := by
        simp only [Array.getD_eq_getD_getElem?, Array.getElem?_eq_getElem hlt, Option.getD_some] at h0 ⊢; exact h0
      have hset : (fun j => (listed.setIfInBounds i true).getD j false) = fun j => if j = i then true else listed.getD j false := by
        funext j
        by_cases e : j = i
        · subst e; rw [if_pos rfl]; simp [hlt]
        · rw [if_neg e]; exact getD_set_ne false (Ne.symm e)
      refine one_sound hall ho ha hi (hstep i o ho _ tm H hI hd0 fun x hx => by
        obtain ⟨e, he, rfl⟩ := List.mem_map.1 hx
        obtain ⟨he, hb⟩ := List.mem_filter.1 he
        exact haf e (by simpa using he) hb) fun ρ2 tm2 H2 a2 w2 hle2 ha2 hi2 hI2 => ?_
      refine ih _ ρ2 tm2 H2 a2 w2 (by simp [hsz]) ?_ (by rw [hset]; exact hI2) ha2 hi2 (hle.trans hle2)
      have := filter_lt (l := List.range all.size) (p := fun i => !listed.getD i true) (q := fun j => !(listed.setIfInBounds i true).getD j true) (fun j hj hq => by
          by_cases e : j = i
          · subst e; simp [hlt] at hq
          · rw [getD_set_ne true (Ne.symm e)] at hq; exact hq) (x := i) (by simp; exact hil) (by simp only [h0]; rfl) (by simp [hlt])
      omega
  have hi0 := hi.drew
  refine main all.size (Array.replicate all.size false) ρ tm H a _ (by simp) (Nat.le_trans (List.length_filter_le _ _) (by simp)) ?_ ha hi0 (Le.refl _)
  have : (fun i => (Array.replicate all.size false).getD i false) = fun _ => false := by
    funext i
    simp only [Array.getD_eq_getD_getElem?, Array.getElem?_replicate]
    split <;> rfl
  rw [this]; exact h0
end
end Go.Ev
