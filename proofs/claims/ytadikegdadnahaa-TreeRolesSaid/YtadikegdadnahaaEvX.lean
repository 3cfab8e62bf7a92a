/- A law's argument that is a struct whose fields are plain data or slices of plain data. -/
import Derived.Test.YtadikegdadnahaaEvC
import Derived.Test.YtadikegdadnahaaEvD
import Derived.Test.YtadikegdadnahaaEvB
import Derived.RangeFuncWrites
import Derived.RangeFuncLeaves
namespace Go.Ev
open Go.RowKit Go.ChangeShapes Go.WideShapes Go.ChangeAt
inductive MK where
  | sc (ls : List Leaf)
  | sl (e : TypeId) (ls : List Leaf)
def MK.n : MK → Nat
  | .sc ls => ls.length
  | .sl _ _ => 1
def sizeM : List MK → Nat
  | [] => 0
  | m :: ms => m.n + sizeM ms

def TypedM : Nat → List MK → List SV → Heap → Prop
  | _, [], [], [] => True
  | k, .sc ls :: L, xs, H => ∃ ys zs, xs = ys ++ zs ∧ TypedL ls ys ∧ TypedM k L zs H
  | k, .sl _ ls :: L, x :: xs, ch :: H => (∃ els : List (List SV), (∀ row ∈ els, TypedL ls row) ∧ x = .slice k 0 els.length ∧ ch = .rows false ls.length els) ∧ TypedM (k + 1) L xs H
  | _, _, _, _ => False

def okM (P : Program) (ts : List TypeId) : Nat → List Field → List MK → Prop
  | _, [], [] => True
  | off, f :: fs, .sc ls :: ms => f.offset = off ∧ leavesOf P 60 f.type = some ls ∧ szT P f.type = some ls.length ∧ okM P ts (off + ls.length) fs ms
  | off, f :: fs, .sl e ls :: ms => f.offset = off ∧ P.underlying f.type = some (.slice e) ∧ leavesOf P 60 e = some ls ∧ szT P e = some ls.length ∧ 0 < ls.length ∧ szT P f.type = some 1 ∧ ts[off]? = some f.type ∧ okM P ts (off + 1) fs ms
  | _, _, _ => False

section
variable {H : Type} {enc : TypeId × Value → H} {P : Program} {W : World} {b0 : Nat}

def SatAll (W : World) (H0 : Heap) (pls : List Pl) : Prop :=
  ∀ (i : Nat) (ch : Chunk), H0[i]? = some ch → ∃ pl sz els, pls[i]? = some pl ∧ ch = .rows false sz els ∧ (∀ ρ : Ren, SatC ρ W pl ch) ∧ ∀ b u, pl ≠ .obj b u

theorem TypedL.rel_any {ls : List Leaf} {xs : List SV} {cs : List Value} (h : TypedL ls xs) (hr : relL [] xs cs) (ρ : Ren) : relL ρ xs cs := rawL_rel h.raw hr

theorem mix_fields {ts : List TypeId} : ∀ (ms : List MK) (fs : List Field) (off k : Nat) (cs : List Value) (fuel : Nat) (rs : List (DataW H × List MemPlace)), okM P ts off fs ms → off + sizeM ms = cs.length →
    fs.mapM (fun f => DataW.trod enc P W 0 (fun _ => true) true fuel f.type ((cs.drop f.offset).take (P.cellsOf f.type))) = some rs →
    (∀ (i : Nat) (v : Value), cs[i]? = some v → ∃ u, ts[i]? = some u ∧ Cell.okWide P W .any b0 u v) →
    ∃ (xs : List SV) (H0 : Heap) (pls : List Pl), TypedM k ms xs H0 ∧ pls.length = H0.length ∧ (∀ ρ : Ren, (∀ (i : Nat) (pl : Pl), pls[i]? = some pl → ρ[k + i]? = some pl) → relL ρ xs (cs.drop off)) ∧ SatAll W H0 pls
  | [], fs, off, k, cs, fuel, rs, hok, hlen, hrs, hc => by
    cases fs with
    | nil =>
      refine ⟨[], [], [], trivial, rfl, fun ρ _ => ?_, fun i ch h => by simp at h⟩
      rw [List.drop_eq_nil_of_le (by simp [sizeM] at hlen; omega)]; trivial
    | cons f fs => exact hok.elim
  | .sc ls :: ms, fs, off, k, cs, fuel, rs, hok, hlen, hrs, hc => by
    cases fs with
    | nil => exact hok.elim
    | cons f fs =>
      obtain ⟨ho, hl, hsz, hok'⟩ := hok
      rw [List.mapM_cons] at hrs
      simp only [bind, Option.bind_eq_some_iff, pure, Option.some.injEq] at hrs
      obtain ⟨r, hr, rs', hrs', rfl⟩ := hrs
      rw [ho, cellsOf_of hsz] at hr
      obtain ⟨x1, h1, h2, _⟩ := (trod_leaves 60).1 f.type ls hl fuel _ r hr
      obtain ⟨x2, H0, pls, h3, h4, h5, h6⟩ := mix_fields ms fs (off + ls.length) k cs fuel rs' hok' (by simp [sizeM, MK.n] at hlen; omega) hrs' hc
      refine ⟨x1 ++ x2, H0, pls, ⟨x1, x2, rfl, h2, h3⟩, h4, fun ρ hρ => ?_, h6⟩
      have e : cs.drop off = (cs.drop off).take ls.length ++ cs.drop (off + ls.length) := by
        rw [← List.drop_drop, List.take_append_drop]
      rw [e]; exact (h2.rel_any h1 ρ).append (h5 ρ hρ)
  | .sl e ls :: ms, fs, off, k, cs, fuel, rs, hok, hlen, hrs, hc => by
    cases fs with
    | nil => exact hok.elim
    | cons f fs =>
      obtain ⟨ho, hu, hl, hsz, hpos, hs1, ht, hok'⟩ := hok
      rw [List.mapM_cons] at hrs
      simp only [bind, Option.bind_eq_some_iff, pure, Option.some.injEq] at hrs
      obtain ⟨r, hr, rs', hrs', rfl⟩ := hrs
      rw [ho, cellsOf_of hs1] at hr
      have hoff : off < cs.length := by simp [sizeM, MK.n] at hlen; omega
      obtain ⟨v, hv⟩ : ∃ v, cs[off]? = some v := ⟨_, List.getElem?_eq_getElem hoff⟩
      have hdrop : cs.drop off = v :: cs.drop (off + 1) := by
        rw [List.drop_eq_getElem_cons hoff]
        rw [List.getElem?_eq_getElem hoff] at hv; cases hv; rfl
      have htake : (cs.drop off).take 1 = [v] := by rw [hdrop]; rfl
      rw [htake] at hr
      obtain ⟨u, hu2, hcell⟩ := hc off v hv
      rw [ht] at hu2; cases hu2
      have hokv : Value.okWide P W .any b0 f.type v := by
        unfold Value.okWide
        rw [hu]
        exact hcell
      have hcells : v.cells.toList = [v] := by
        unfold Cell.okWide at hcell
        rw [hu] at hcell
        cases v with
        | slice a n c => simp [Value.cells]
        | _ => first | exact hcell.elim | (simp only at hcell; unfold Cell.ok at hcell; rw [hu] at hcell; exact hcell.elim)
      obtain ⟨els, pl, hty, hrel, hs, hob⟩ := arg_slice (d := r.1) (p := r.2) hu hl hsz hpos hokv ⟨fuel, by rw [hcells]; exact hr⟩
      obtain ⟨x2, H0, pls, h3, h4, h5, h6⟩ := mix_fields ms fs (off + 1) (k + 1) cs fuel rs' hok' (by simp [sizeM, MK.n] at hlen; omega) hrs' hc
      refine ⟨.slice k 0 els.length :: x2, .rows false ls.length els :: H0, pl :: pls, ⟨⟨els, hty, rfl, rfl⟩, h3⟩, by simp [h4], fun ρ hρ => ?_, fun i ch hi => ?_⟩
      · rw [hdrop]
        refine ⟨hrel ρ k (by simpa using hρ 0 pl rfl), h5 ρ fun i q hq => ?_⟩
        have := hρ (i + 1) q (by simpa using hq)
        rwa [show k + (i + 1) = k + 1 + i by omega] at this
      · cases i with
        | zero => simp at hi; subst hi; exact ⟨pl, _, _, rfl, rfl, hs, hob⟩
        | succ i => exact h6 i ch (by simpa using hi)

theorem arg_mix {t : TypeId} {fs : Array Field} {ts : List TypeId} {ms : List MK} {v : Value} {d : DataW H} {p : List MemPlace} (hu : P.underlying t = some (.struct fs)) (hts : P.cellTypes P.depth t = some ts) (hlen : ts.length = sizeM ms) (hsz : szT P t = some (sizeM ms))
    (hok : okM P ts 0 fs.toList ms) (hv : Value.okWide P W .any b0 t v) (h : DataW.Trod enc P W 0 (fun _ => true) true t v d p) (k : Nat) :
    ∃ (xs : List SV) (H0 : Heap) (pls : List Pl), TypedM k ms xs H0 ∧ pls.length = H0.length ∧ (∀ ρ : Ren, (∀ (i : Nat) (pl : Pl), pls[i]? = some pl → ρ[k + i]? = some pl) → relI ρ (.a xs) v) ∧ SatAll W H0 pls := by
  obtain ⟨fuel, hf⟩ := h
  unfold Value.okWide at hv
  rw [hu] at hv
  obtain ⟨cs, rfl, hcs, ts', hts', _, hrow⟩ := hv
  rw [hts] at hts'; cases hts'
  have hct := cellsOf_of hsz
  have hn : cs.toList.length = sizeM ms := by rw [Array.length_toList, hcs, hct]
  cases fuel with
  | zero => simp [DataW.trod] at hf
  | succ fuel =>
    unfold DataW.trod at hf
    rw [hu] at hf
    simp only at hf
    split at hf
    · simp only [Option.map_eq_some_iff] at hf
      obtain ⟨rs, hrs, _⟩ := hf
      have hcc : (Value.agg cs).cells.toList = cs.toList := by simp [Value.cells]
      rw [hcc] at hrs
      obtain ⟨xs, H0, pls, h1, h2, h3, h4⟩ := mix_fields (b0 := b0) ms fs.toList 0 k cs.toList fuel rs hok (by rw [hn]; simp) hrs (fun i u hi => by
        have hi' : cs[i]? = some u := by simpa using hi
        obtain ⟨w, hw, hc⟩ := hrow i u hi'
        have hlt : i < ts.length := by
          have := (List.getElem?_eq_some_iff.1 hi).1
          rw [hlen, ← hn]; exact this
        rw [Nat.mod_eq_of_lt hlt] at hw
        exact ⟨w, hw, hc⟩)
      exact ⟨xs, H0, pls, h1, h2, fun ρ hρ => ⟨cs.toList, by simp, h3 ρ hρ⟩, h4⟩
    · cases hf

/-! #### arguments: plain data, slices of plain data, structs of both -/
inductive AQ where
  | scal (ls : List Leaf) (ag : Bool)
  | sl (e : TypeId) (ls : List Leaf)
  | mix (ms : List MK)

def TypedQ : Nat → List (TypeId × AQ) → List IV → Heap → Prop
  | _, [], [], [] => True
  | k, (_, .scal ls ag) :: L, v :: vs, H => (∃ xs, TypedL ls xs ∧ v = ldIV ag xs) ∧ TypedQ k L vs H
  | k, (_, .sl _ ls) :: L, v :: vs, ch :: H => (∃ els : List (List SV), (∀ row ∈ els, TypedL ls row) ∧ v = .s (.slice k 0 els.length) ∧ ch = .rows false ls.length els) ∧ TypedQ (k + 1) L vs H
  | k, (_, .mix ms) :: L, v :: vs, H => ∃ xs H1 H2, H = H1 ++ H2 ∧ TypedM k ms xs H1 ∧ v = .a xs ∧ TypedQ (k + H1.length) L vs H2
  | _, _, _, _ => False

def okQ (P : Program) : TypeId × AQ → Prop
  | (t, .scal ls ag) => leavesOf P 60 t = some ls ∧ aggT P t = some ag
  | (t, .sl e ls) => P.underlying t = some (.slice e) ∧ leavesOf P 60 e = some ls ∧ szT P e = some ls.length ∧ 0 < ls.length
  | (t, .mix ms) => ∃ fs ts, P.underlying t = some (.struct fs) ∧ P.cellTypes P.depth t = some ts ∧ ts.length = sizeM ms ∧ szT P t = some (sizeM ms) ∧ okM P ts 0 fs.toList ms

theorem args_q : ∀ (L : List (TypeId × AQ)) (k : Nat) {ts : List TypeId} {vs : List Value} {ds : List (DataW H)} {p : List MemPlace}, ts = L.map (·.1) → (∀ e ∈ L, okQ P e) →
    DataW.TrodAll enc P W 0 (fun _ => true) true ts vs ds p → (∀ (j : Nat) t v, ts[j]? = some t → vs[j]? = some v → Value.okWide P W .any b0 t v) →
    ∃ (ivs : List IV) (H0 : Heap) (pls : List Pl), TypedQ k L ivs H0 ∧ pls.length = H0.length ∧ (∀ ρ : Ren, (∀ (i : Nat) (pl : Pl), pls[i]? = some pl → ρ[k + i]? = some pl) → relA ρ ivs vs) ∧ SatAll W H0 pls
  | [], k, ts, vs, ds, p, e, _, h, _ => by
    subst e
    cases vs with
    | nil => exact ⟨[], [], [], trivial, rfl, fun _ _ => trivial, fun i ch h => by simp at h⟩
    | cons _ _ => cases ds <;> exact h.elim
  | ⟨t, kd⟩ :: L, k, ts, vs, ds, p, e, hL, h, hv => by
    subst e
    cases vs with
    | nil => cases ds <;> exact h.elim
    | cons v vs =>
      cases ds with
      | nil => exact h.elim
      | cons d ds =>
        obtain ⟨p1, p2, h1, h2, _⟩ := h
        have hvs : ∀ (j : Nat) t v, (L.map (·.1))[j]? = some t → vs[j]? = some v → Value.okWide P W .any b0 t v := fun j t v h1 h2 => hv (j + 1) t v (by simpa using h1) (by simpa using h2)
        have hL' := fun e he => hL e (List.mem_cons_of_mem _ he)
        have h0 := hL _ List.mem_cons_self
        cases kd with
        | scal ls ag =>
          obtain ⟨hl, ha⟩ := h0
          obtain ⟨xs, hx, hr, _⟩ := arg_scal hl ha (hv 0 t v rfl rfl) h1
          obtain ⟨ivs, H0, pls, ht, hlen, hrs, hsat⟩ := args_q L k rfl hL' h2 hvs
          exact ⟨_ :: ivs, H0, pls, ⟨⟨xs, hx, rfl⟩, ht⟩, hlen, fun ρ hρ => ⟨hr ρ, hrs ρ hρ⟩, hsat⟩
        | sl e ls =>
          obtain ⟨hu, hl, hsz, hpos⟩ := h0
          obtain ⟨els, pl, hty, hrel, hs, ho⟩ := arg_slice hu hl hsz hpos (hv 0 t v rfl rfl) h1
          obtain ⟨ivs, H0, pls, ht, hlen, hrs, hsat⟩ := args_q L (k + 1) rfl hL' h2 hvs
          refine ⟨.s (.slice k 0 els.length) :: ivs, .rows false ls.length els :: H0, pl :: pls, ⟨⟨els, hty, rfl, rfl⟩, ht⟩, by simp [hlen], fun ρ hρ => ⟨?_, hrs ρ fun i q hq => ?_⟩, fun i ch hi => ?_⟩
          · exact hrel ρ k (by simpa using hρ 0 pl rfl)
          · have := hρ (i + 1) q (by simpa using hq)
            rwa [show k + (i + 1) = k + 1 + i by omega] at this
          · cases i with
            | zero => simp at hi; subst hi; exact ⟨pl, _, _, rfl, rfl, hs, ho⟩
            | succ i => exact hsat i ch (by simpa using hi)
        | mix ms =>
          obtain ⟨fs, ts, hu, hts, hl, hsz, hok⟩ := h0
          obtain ⟨xs, H1, pl1, m1, m2, m3, m4⟩ := arg_mix hu hts hl hsz hok (hv 0 t v rfl rfl) h1 k
          obtain ⟨ivs, H2, pl2, ht, hlen, hrs, hsat⟩ := args_q L (k + H1.length) rfl hL' h2 hvs
          refine ⟨.a xs :: ivs, H1 ++ H2, pl1 ++ pl2, ⟨xs, H1, H2, rfl, m1, rfl, ht⟩, by simp [m2, hlen], fun ρ hρ => ⟨m3 ρ fun i pl hi => hρ i pl ?_, hrs ρ fun i q hq => ?_⟩, fun i ch hi => ?_⟩
          · rw [List.getElem?_append_left (List.getElem?_eq_some_iff.1 hi).1]; exact hi
          · have := hρ (H1.length + i) q (by rw [← m2, List.getElem?_append_right (Nat.le_add_right _ _), Nat.add_sub_cancel_left]; exact hq)
            rwa [← Nat.add_assoc] at this
          · by_cases hlt : i < H1.length
            · rw [List.getElem?_append_left hlt] at hi
              obtain ⟨pl, sz, els, a, b⟩ := m4 i ch hi
              exact ⟨pl, sz, els, by rw [List.getElem?_append_left (by omega)]; exact a, b⟩
            · rw [List.getElem?_append_right (by omega)] at hi
              obtain ⟨pl, sz, els, a, b⟩ := hsat _ ch hi
              exact ⟨pl, sz, els, by rw [List.getElem?_append_right (by omega), m2]; exact a, b⟩

theorem hcall_q {f : FuncId} {fn : Func} (L : List (TypeId × AQ)) (hts : fn.params.toList = L.map (·.1)) (hL : ∀ e ∈ L, okQ P e)
    (hf : ∀ ivs H0, TypedQ 0 L ivs H0 → FunR P f H0 ivs (.s (.raw (.bool true)))) (W : World) (base : Nat) (args : Array Value) (ds : List (DataW H)) (p : List MemPlace)
    (h : DataW.TrodAll enc P W 0 (fun _ => true) true fn.params.toList args.toList ds p) (hv : ∀ (j : Nat) t v, fn.params[j]? = some t → args[j]? = some v → Value.okWide P W .any base t v) :
    Calls P f args W fun e W' => e = .returned (.bool true) ∧ Below W.heap.size W W' := by
  obtain ⟨ivs, H0, pls, ht, hlen, hr, hsat⟩ := args_q L 0 hts hL h (fun j t v h1 h2 => hv j t v (by simpa using h1) (by simpa using h2))
  have hro : ∀ (c : Nat) (ch : Chunk), H0[c]? = some ch → ch.owned = false := fun c ch hc => by
    obtain ⟨_, _, _, _, rfl, _⟩ := hsat c ch hc; rfl
  have hi : Inv (ctx0 W) pls H0 W := by
    refine ⟨rfl, rfl, rfl, Nat.le_refl _, Nat.le_refl _, fun _ _ _ => rfl, hlen, ?_, ?_, ?_, ?_, ?_⟩
    · intro c b u hc
      have hlt : c < H0.length := by rw [← hlen]; exact (List.getElem?_eq_some_iff.1 hc).1
      obtain ⟨pl, _, _, hpl, _, _, ho⟩ := hsat c _ (List.getElem?_eq_getElem hlt)
      rw [hc] at hpl; cases hpl
      exact absurd rfl (ho b u)
    · intro c ch hc
      obtain ⟨pl, _, _, hpl, _, hs, _⟩ := hsat c ch hc
      exact ⟨pl, hpl, hs _⟩
    · intro c ch l b hc ho; rw [hro c ch hc] at ho; cases ho
    · intro c sz els l b hc hl hb
      obtain ⟨pl, _, _, hpl, _, hs, _⟩ := hsat c _ hc
      rw [hl] at hpl; cases hpl
      refine ⟨?_, fun h => h⟩
      rcases hs [] with ⟨rfl, _⟩ | ⟨b', base, lim, cells, T, lo, hi, rfl, h2, _⟩
      · cases hb
      · simp only [Pl.blk, Option.some.injEq] at hb
        subst hb
        exact (Array.getElem?_eq_some_iff.1 h2).1
    · intro c d ch dh l m b _ hc _ ho; rw [hro c ch hc] at ho; cases ho
  refine ((hf ivs H0 ht).2 W pls args.toList hi (hr pls fun i pl h => by simpa using h)).mono ?_
  rintro e w' ⟨v, rfl, hv, hb⟩
  exact ⟨by rw [show v = .bool true from hv.1], hb.toBelow⟩
theorem q_mix {k : Nat} {t : TypeId} {ms : List MK} {L : List (TypeId × AQ)} {ivs : List IV} {H0 : Heap} (h : TypedQ k ((t, .mix ms) :: L) ivs H0) :
    ∃ xs H1 H2 ivs', H0 = H1 ++ H2 ∧ TypedM k ms xs H1 ∧ ivs = .a xs :: ivs' ∧ TypedQ (k + H1.length) L ivs' H2 := by
  cases ivs with
  | nil => simp [TypedQ] at h
  | cons v vs =>
    cases H0 <;> (simp only [TypedQ] at h; obtain ⟨xs, H1, H2, e, m, rfl, q⟩ := h; exact ⟨xs, H1, H2, vs, e, m, rfl, q⟩)
theorem q_nil {k : Nat} {ivs : List IV} {H0 : Heap} (h : TypedQ k [] ivs H0) : ivs = [] ∧ H0 = [] := by
  cases ivs <;> cases H0 <;> simp [TypedQ] at h ⊢
theorem q_sl {k : Nat} {t e : TypeId} {ls : List Leaf} {L : List (TypeId × AQ)} {ivs : List IV} {H0 : Heap} (h : TypedQ k ((t, .sl e ls) :: L) ivs H0) :
    ∃ els ivs' H', (∀ row ∈ els, TypedL ls row) ∧ ivs = .s (.slice k 0 els.length) :: ivs' ∧ H0 = .rows false ls.length els :: H' ∧ TypedQ (k + 1) L ivs' H' := by
  cases ivs with
  | nil => simp [TypedQ] at h
  | cons v vs => cases H0 with
    | nil => simp [TypedQ] at h
    | cons ch H' =>
      simp only [TypedQ] at h
      obtain ⟨⟨els, h1, rfl, rfl⟩, h2⟩ := h
      exact ⟨els, vs, H', h1, rfl, rfl, h2⟩
theorem m_sc {k : Nat} {ls : List Leaf} {L : List MK} {xs : List SV} {H0 : Heap} (h : TypedM k (.sc ls :: L) xs H0) : ∃ ys zs, xs = ys ++ zs ∧ TypedL ls ys ∧ TypedM k L zs H0 := by
  cases xs <;> cases H0 <;> simpa only [TypedM] using h
theorem m_sl {k : Nat} {e : TypeId} {ls : List Leaf} {L : List MK} {xs : List SV} {H0 : Heap} (h : TypedM k (.sl e ls :: L) xs H0) :
    ∃ els zs H', (∀ row ∈ els, TypedL ls row) ∧ xs = .slice k 0 els.length :: zs ∧ H0 = .rows false ls.length els :: H' ∧ TypedM (k + 1) L zs H' := by
  cases xs with
  | nil => cases H0 <;> simp [TypedM] at h
  | cons x xs => cases H0 with
    | nil => simp [TypedM] at h
    | cons ch H' =>
      simp only [TypedM] at h
      obtain ⟨⟨els, h1, rfl, rfl⟩, h2⟩ := h
      exact ⟨els, xs, H', h1, rfl, rfl, h2⟩
theorem m_nil {k : Nat} {xs : List SV} {H0 : Heap} (h : TypedM k [] xs H0) : xs = [] ∧ H0 = [] := by
  cases xs <;> cases H0 <;> simp [TypedM] at h ⊢
end
end Go.Ev

/- A range over a function: the law, in the evaluator's terms. -/
set_option linter.unusedVariables false
set_option linter.unusedSimpArgs false
namespace Go.Ev
open Go.RowKit

section
variable {P : Program} {X : Ctx}

theorem SatC.other {ρ : Ren} {w w' : World} {l : Pl} {ch : Chunk} (h : SatC ρ w l ch) (hh : ∀ (b : Nat) (o : Obj), w.heap[b]? = some o → (o.isCells = true ∨ o.isWalk = true) → w'.heap[b]? = some o) : SatC ρ w' l ch := by
  cases ch with
  | rows own sz els =>
    rcases h with h | ⟨b, base, lim, cells, T, lo, hi, e, hb, rest⟩
    · exact .inl h
    · exact .inr ⟨b, base, lim, cells, T, lo, hi, e, hh _ _ hb (.inl rfl), rest⟩
  | map clock es =>
    obtain ⟨b, ents, e, hb, rest⟩ := h
    exact ⟨b, ents, e, hh _ _ hb (.inr rfl), rest⟩
  | iter _ _ _ _ =>
    obtain ⟨b, mo, e, hb, rest⟩ := h
    exact ⟨b, mo, e, hh _ _ hb (.inr rfl), rest⟩
  | clo _ _ _ => exact h
  | gone => trivial

/-- Only what no chunk is was changed. -/
theorem Inv.other {ρ : Ren} {H : Heap} {w w' : World} (h : Inv X ρ H w) (hos : w'.os = w.os) (htape : w'.tape = w.tape) (hout : w'.output = w.output) (hdr : w.drawn ≤ w'.drawn) (hsize : w.heap.size ≤ w'.heap.size)
    (hh : ∀ (b : Nat) (o : Obj), w.heap[b]? = some o → (o.isCells = true ∨ o.isWalk = true ∨ b < X.w0.heap.size) → w'.heap[b]? = some o) : Inv X ρ H w' where
  os := hos.trans h.os
  tape := htape.trans h.tape
  output := hout.trans h.output
  drawn := Nat.le_trans h.drawn hdr
  size := Nat.le_trans h.size hsize
  old := fun b hb hF => by
    have e := h.old b hb hF
    rw [← e]
    have hlt : b < w.heap.size := Nat.lt_of_lt_of_le hb h.size
    exact (hh b _ (Array.getElem?_eq_getElem hlt) (.inr (.inr hb))).trans (Array.getElem?_eq_getElem hlt).symm
  len := h.len
  obj1 := h.obj1
  sat := fun c ch hc => let ⟨l, hl, hs⟩ := h.sat c ch hc; ⟨l, hl, hs.other fun b o hb ho => hh b o hb (ho.elim .inl fun h => .inr (.inl h))⟩
  own := h.own
  ro := h.ro
  apart := h.apart

end
end Go.Ev

/- A function whose act has put something off behind a range over a function: its walk along the spine of its code, and its end. -/
set_option linter.unusedVariables false
namespace Go.Ev
open Go.RowKit

section
variable {P : Program} {n : Nat} {X : Ctx}

end
end Go.Ev

/- The range's surroundings taken apart: what stands ahead of it in the same part of the spine. -/
set_option linter.unusedVariables false
namespace Go.Ev
open Go.RowKit

section
variable {P : Program} {n : Nat} {X : Ctx}

end
end Go.Ev

/- A range over a function whose iterator has a state of its own, and may hand out its values in any order (the keys of a map). -/
set_option linter.unusedVariables false
set_option linter.unusedSimpArgs false
namespace Go.Ev
open Go.RowKit

section
variable {P : Program} {X : Ctx}

variable {n : Nat}
end
end Go.Ev

/- Package variables: an element's address, and what lies there as long as the world keeps it. -/
set_option linter.unusedVariables false
namespace Go.Ev
open Go.RowKit Go.ChangeShapes Go.WideShapes Go.ChangeAt
section
variable {P : Program} {X : Ctx} {d : Option Nat} {t : TypeId} {p : String} {af : Array Edge} {gu : Option (Nat × Bool)} {tm : TM} {H : Heap} {k : TM → Heap → Prop}

/-- The variable's block lies in the world from the start, and nothing that may be written is in it. -/
structure KeepG (g : Nat) (o : Obj) (X : Ctx) : Prop where
  lt : g < X.w0.heap.size
  no : ¬ X.F0 g
  eq : X.w0.heap[g]? = some o
variable {g : Nat} {o : Obj}
theorem KeepG.same {X Y : Ctx} (h : KeepG g o X) (e1 : Y.w0 = X.w0) (e2 : Y.F0 = X.F0) : KeepG g o Y := ⟨by rw [e1]; exact h.lt, by rw [e2]; exact h.no, by rw [e1]; exact h.eq⟩
theorem KeepG.at (h : KeepG g o X) (N : Nat) : KeepG g o (X.at N) := h.same rfl rfl
theorem KeepG.has (h : KeepG g o X) {ρ : Ren} {w : World} (hi : Inv X ρ H w) : w.heap[g]? = some o := (hi.old g h.lt h.no).trans h.eq
theorem KeepG.sub (h : KeepG g o X) {ρ : Ren} {w : World} (hi : Inv X ρ H w) (σw : List Nat) (N : Nat) (dl : List Deferred) (ro : Option Nat) (alt : Ren → Act → World → Prop) : KeepG g o ⟨w, FW ρ H σw, N, dl, ro, alt⟩ where
  lt := Nat.lt_of_lt_of_le h.lt hi.size
  no := fun hF => (FW_lt hi hF).elim h.no fun hge => Nat.lt_irrefl _ (Nat.lt_of_lt_of_le h.lt hge)
  eq := h.has hi
theorem KeepG.start {w : World} (h : w.heap[g]? = some o) : KeepG g o (ctx0 w) := ⟨(Array.getElem?_eq_some_iff.1 h).1, fun h => h, h⟩

end
end Go.Ev
