/- From a law's ideal call to its row: the arguments as the row hands them, typed; what is left behind the call. -/
import Derived.Test.YtnmobamjinponaaEvDraw
import Derived.ProofKit
namespace Go.Ev
open Go.RowKit Go.ChangeShapes Go.WideShapes Go.ChangeAt

def LeafOK : Leaf → SV → Prop
  | .int k, x => ∃ n, x = .raw (.int k n) ∧ k.min ≤ n ∧ n ≤ k.max
  | .bool, x => ∃ b, x = .raw (.bool b)
  | .string, x => ∃ s : ByteArray, x = .raw (.string s) ∧ s.size ≤ 9223372036854775807
def TypedL : List Leaf → List SV → Prop
  | [], [] => True
  | l :: ls, x :: xs => LeafOK l x ∧ TypedL ls xs
  | _, _ => False

theorem TypedL.append : ∀ {l1 l2 : List Leaf} {x1 x2 : List SV}, TypedL l1 x1 → TypedL l2 x2 → TypedL (l1 ++ l2) (x1 ++ x2)
  | [], _, [], _, _, h => h
  | _ :: _, _, _ :: _, _, h, h2 => ⟨h.1, h.2.append h2⟩
  | [], _, _ :: _, _, h, _ => h.elim
  | _ :: _, _, [], _, h, _ => h.elim
theorem TypedL.len : ∀ {l : List Leaf} {x : List SV}, TypedL l x → x.length = l.length
  | [], [], _ => rfl
  | _ :: _, _ :: _, h => by simp [h.2.len]
  | [], _ :: _, h => h.elim
  | _ :: _, [], h => h.elim

section
variable {H : Type} {enc : TypeId × Value → H} {P : Program} {W : World} {base : Nat} {spare : Nat → Bool} {held : Bool}

theorem wf_bounds {k : IntKind} {n : Int} (h : (Lit.int k n).wf = true) : k.min ≤ n ∧ n ≤ k.max := by
  simpa [Lit.wf] using h

/-- What reads as data of a type without pointers: its cells, typed. -/
theorem trod_items {e : TypeId} {l : List Leaf} {fuel : Nat} (ih : ∀ (cs : List Value) (r : DataW H × List MemPlace), DataW.trod enc P W base spare held fuel e cs = some r → ∃ xs, relL [] xs cs ∧ TypedL l xs ∧ r.2 = []) (hl : 0 < l.length ∨ l = []) :
    ∀ (n k : Nat) (cs : List Value) (rs : List (DataW H × List MemPlace)), cs.length = (k + n) * l.length → (List.range' k n).mapM (fun i => DataW.trod enc P W base spare held fuel e ((cs.drop (i * l.length)).take l.length)) = some rs →
      ∃ xs, relL [] xs (cs.drop (k * l.length)) ∧ TypedL (List.replicate n l).flatten xs ∧ rs.flatMap (·.2) = []
  | 0, k, cs, rs, hcs, h => by
    simp at h; subst h
    refine ⟨[], ?_, trivial, rfl⟩
    rw [List.drop_eq_nil_of_le (by rw [hcs]; simp)]; trivial
  | n + 1, k, cs, rs, hcs, h => by
    rw [List.range'_succ, List.mapM_cons] at h
    simp only [bind, Option.bind_eq_some_iff, pure, Option.some.injEq] at h
    obtain ⟨r, hr, rs', hrs, rfl⟩ := h
    obtain ⟨x1, h1, h2, h3⟩ := ih _ _ hr
    obtain ⟨x2, h4, h5, h6⟩ := trod_items ih hl n (k + 1) cs rs' (by rw [hcs]; congr 1; omega) hrs
    refine ⟨x1 ++ x2, ?_, ?_, by simp [h3, h6]⟩
    · have e : cs.drop (k * l.length) = (cs.drop (k * l.length)).take l.length ++ cs.drop ((k + 1) * l.length) := by
        rw [Nat.add_mul, Nat.one_mul, ← List.drop_drop, List.take_append_drop]
      rw [e]; exact h1.append h4
    · rw [List.replicate_succ, List.flatten_cons]; exact h2.append h5

theorem trod_leaves : ∀ (d : Nat), (∀ (t : TypeId) (ls : List Leaf), leavesOf P d t = some ls → ∀ (fuel : Nat) (cs : List Value) (r : DataW H × List MemPlace), DataW.trod enc P W base spare held fuel t cs = some r →
      ∃ xs, relL [] xs cs ∧ TypedL ls xs ∧ r.2 = []) ∧
    (∀ (off : Nat) (fs : List Field) (ls : List Leaf), leavesFields P d off fs = some ls → ∀ (fuel : Nat) (cs : List Value) (rs : List (DataW H × List MemPlace)), cs.length = off + ls.length →
      fs.mapM (fun f => DataW.trod enc P W base spare held fuel f.type ((cs.drop f.offset).take (P.cellsOf f.type))) = some rs → ∃ xs, relL [] xs (cs.drop off) ∧ TypedL ls xs ∧ rs.flatMap (·.2) = [])
  | 0 => ⟨fun t ls h => by simp [leavesOf] at h, fun off fs ls h => by simp [leavesFields] at h⟩
  | d + 1 => by
    obtain ⟨ih1, ih2⟩ := trod_leaves d
    constructor
    · intro t ls h fuel cs r hr
      cases fuel with
      | zero => simp [DataW.trod] at hr
      | succ fuel =>
        unfold leavesOf at h
        unfold DataW.trod at hr
        split at h
        · rename_i k hu
          cases h
          rw [hu] at hr
          split at hr <;> first
            | (rename_i e; cases e; done)
            | (rename_i k1 k2 n e
               cases e
               split at hr
               · rename_i hk
                 cases hr
                 obtain ⟨rfl, hwf⟩ := hk
                 exact ⟨[.raw (.int _ n)], ⟨⟨rfl, rfl⟩, trivial⟩, ⟨⟨n, rfl, wf_bounds hwf⟩, trivial⟩, rfl⟩
               · cases hr)
            | (cases hr; done)
            | (simp_all; done)
        · rename_i hu
          cases h
          rw [hu] at hr
          split at hr <;> first
            | (rename_i b e; cases hr; exact ⟨[.raw (.bool b)], ⟨⟨rfl, rfl⟩, trivial⟩, ⟨⟨b, rfl⟩, trivial⟩, rfl⟩)
            | (rename_i e; cases e; done)
            | (cases hr; done)
            | (simp_all; done)
        · rename_i hu
          cases h
          rw [hu] at hr
          split at hr <;> first
            | (rename_i e; cases e; done)
            | (rename_i s e
               split at hr
               · rename_i hs
                 cases hr
                 exact ⟨[.raw (.string s)], ⟨⟨rfl, rfl⟩, trivial⟩, ⟨⟨s, rfl, hs⟩, trivial⟩, rfl⟩
               · cases hr)
            | (cases hr; done)
            | (simp_all; done)
        · rename_i n e hu
          split at h
          · rename_i l hl
            split at h
            · rename_i hsz
              cases h
              rw [hu] at hr
              have hce := cellsOf_of hsz.1
              have hct := cellsOf_of hsz.2
              simp only at hr
              split at hr
              · rename_i hlen
                simp only [Option.map_eq_some_iff] at hr
                obtain ⟨rs, hrs, rfl⟩ := hr
                rw [hce, List.range_eq_range'] at hrs
                obtain ⟨xs, h1, h2, h3⟩ := trod_items (fun cs r h => ih1 e l hl fuel cs r h) (by cases l <;> simp) n 0 cs rs (by rw [hlen, hct]; simp) hrs
                exact ⟨xs, by simpa using h1, h2, h3⟩
              · cases hr
            · cases h
          · cases h
        · rename_i fs hu
          split at h
          · cases h
          · split at h
            · rename_i ls' hls
              split at h
              · rename_i hsz
                cases h
                rw [hu] at hr
                have hct := cellsOf_of hsz
                simp only at hr
                split at hr
                · rename_i hlen
                  simp only [Option.map_eq_some_iff] at hr
                  obtain ⟨rs, hrs, rfl⟩ := hr
                  obtain ⟨xs, h1, h2, h3⟩ := ih2 0 fs.toList _ hls fuel cs rs (by rw [hlen, hct]; simp) hrs
                  exact ⟨xs, by simpa using h1, h2, h3⟩
                · cases hr
              · cases h
            · cases h
        · cases h
    · intro off fs ls h fuel cs rs hcs hrs
      cases fs with
      | nil =>
        simp [leavesFields] at h hrs; subst h; subst hrs
        exact ⟨[], by rw [List.drop_eq_nil_of_le (by simp at hcs; omega)]; trivial, trivial, rfl⟩
      | cons f fs =>
        unfold leavesFields at h
        simp only at h
        split at h
        · rename_i hfo
          split at h
          · rename_i l hl
            split at h
            · rename_i hsz
              split at h
              · rename_i l2 hl2
                cases h
                rw [List.mapM_cons] at hrs
                simp only [bind, Option.bind_eq_some_iff, pure, Option.some.injEq] at hrs
                obtain ⟨r, hr, rs', hrs', rfl⟩ := hrs
                rw [hfo.2, cellsOf_of hsz] at hr
                obtain ⟨x1, h1, h2, h3⟩ := ih1 f.type l hl fuel _ r hr
                obtain ⟨x2, h4, h5, h6⟩ := ih2 (off + l.length) fs l2 hl2 fuel cs rs' (by rw [hcs]; simp; omega) hrs'
                refine ⟨x1 ++ x2, ?_, h2.append h5, by simp [h3, h6]⟩
                have e : cs.drop off = (cs.drop off).take l.length ++ cs.drop (off + l.length) := by
                  rw [← List.drop_drop, List.take_append_drop]
                rw [e]; exact h1.append h4
              · cases h
            · cases h
          · cases h
        · cases h

/-- An argument of a type without pointers. -/
theorem arg_scal {t : TypeId} {ls : List Leaf} {ag : Bool} {v : Value} {d : DataW H} {p : List MemPlace} {b0 : Nat} (hl : leavesOf P 60 t = some ls) (hag : aggT P t = some ag) (hok : Value.okWide P W .any b0 t v)
    (h : DataW.Trod enc P W base spare held t v d p) : ∃ xs, TypedL ls xs ∧ (∀ ρ, relI ρ (ldIV ag xs) v) ∧ p = [] := by
  obtain ⟨fuel, hf⟩ := h
  obtain ⟨xs, h1, h2, h3⟩ := (trod_leaves 60).1 t ls hl fuel _ _ hf
  refine ⟨xs, h2, fun ρ => ?_, h3⟩
  have hraw : ∀ (ls : List Leaf) (xs : List SV), TypedL ls xs → rawL xs = true := by
    intro ls
    induction ls with
    | nil => intro xs h; cases xs with | nil => rfl | cons _ _ => exact h.elim
    | cons l ls ih =>
      intro xs h
      cases xs with
      | nil => exact h.elim
      | cons x xs =>
        simp only [rawL, ih xs h.2, Bool.and_true]
        cases l with
        | int k => obtain ⟨n, rfl, _⟩ := h.1; rfl
        | bool => obtain ⟨b, rfl⟩ := h.1; rfl
        | string => obtain ⟨b, rfl, _⟩ := h.1; rfl
  have hr := rawL_rel (ρ' := ρ) (hraw ls xs h2) h1
  cases ag with
  | true =>
    have : ∃ cs, v = .agg cs := by
      unfold aggT at hag
      unfold Value.okWide at hok
      split at hag
      · rename_i hu; rw [hu] at hok; obtain ⟨cs, hv, _⟩ := hok; exact ⟨cs, hv⟩
      · rename_i hu; rw [hu] at hok; obtain ⟨cs, hv, _⟩ := hok; exact ⟨cs, hv⟩
      · cases hag
      · cases hag
    obtain ⟨cs, rfl⟩ := this
    exact ⟨cs.toList, by simp, by simpa [Value.cells] using hr⟩
  | false =>
    obtain ⟨ag', hag', h1'⟩ := aggT_leaf hl
    rw [hag] at hag'; cases hag'
    have hlen := h2.len
    rw [h1' rfl] at hlen
    obtain ⟨x, rfl⟩ := List.length_eq_one_iff.1 hlen
    have hvl := hr.len
    have hone : ∃ u, v.cells.toList = [u] := by
      obtain ⟨u, hu⟩ := List.length_eq_one_iff.1 hvl; exact ⟨u, hu⟩
    obtain ⟨u, hu⟩ := hone
    rw [hu] at hr
    -- a value of a type that is no aggregate is its own cell
    have hv : v = u := by
      cases v with
      | agg cs =>
        exfalso
        unfold aggT at hag
        unfold Value.okWide at hok
        split at hag
        · cases hag
        · cases hag
        · rename_i d2 hne1 hne2 hu2
          rw [hu2] at hok
          cases d2 <;> first | (exact (hne1 _ rfl).elim) | (exact (hne2 _ _ rfl).elim) | (simp [Cell.okWide, hu2, Cell.ok] at hok; done) | (simp only [Cell.okWide, hu2, Cell.ok] at hok)
        · cases hag
      | _ => simpa [Value.cells] using hu
    rw [hv]; exact hr.1

theorem trodAll_below (hl : laidOutB P = true) : ∀ {ts : List TypeId} {vs : List Value} {ds : List (DataW H)} {ps : List MemPlace} {W W' : World}, (ts.all fun t => P.readableRec t && decide (t < P.types.size)) = true →
    DataW.TrodAll enc P W 0 (fun _ => true) true ts vs ds ps → Below W.heap.size W W' → (∀ x ∈ ps, x.block < W.heap.size) → DataW.TrodAll enc P W' 0 (fun b => decide (b < W.heap.size)) true ts vs ds ps
  | [], [], [], _, _, _, _, h, _, _ => h
  | t :: ts, v :: vs, d :: ds, ps, W, W', hr, h, hb, hlt => by
    obtain ⟨p, q, h1, h2, rfl⟩ := h
    simp only [List.all_cons, Bool.and_eq_true, decide_eq_true_eq] at hr
    exact ⟨p, q, Below.trod hl hr.1.1 hr.1.2 h1 hb fun x hx => hlt x (List.mem_append_left _ hx), trodAll_below hl hr.2 h2 hb fun x hx => hlt x (List.mem_append_right _ hx), rfl⟩
  | [], _ :: _, _, _, _, _, _, h, _, _ => h.elim
  | [], [], _ :: _, _, _, _, _, h, _, _ => h.elim
  | _ :: _, [], _, _, _, _, _, h, _, _ => h.elim
  | _ :: _, _ :: _, [], _, _, _, _, h, _, _ => h.elim

theorem trodAll_len : ∀ {ts : List TypeId} {vs : List Value} {ds : List (DataW H)} {ps : List MemPlace}, DataW.TrodAll enc P W base spare held ts vs ds ps → ds.length = ts.length
  | [], [], [], _, _ => rfl
  | t :: ts, v :: vs, d :: ds, ps, h => by obtain ⟨p, q, _, h2, _⟩ := h; simp [trodAll_len h2]
  | [], _ :: _, _, _, h => h.elim
  | [], [], _ :: _, _, h => h.elim
  | _ :: _, [], _, _, h => h.elim
  | _ :: _, _ :: _, [], _, h => h.elim
end

/-- A law's row, but for its call. -/
theorem law_lifted {H : Type} {enc : TypeId × Value → H} {C : Checked} {os : Os} {f : FuncId} {fn : Func} {s : ChangeSpec} {bt : TypeId} (own : ownKnob C.prog.godebug = none) (started : os.Started)
    (noInit : C.prog.inits.idxOf? f = none) (hfn : C.prog.funcs[f]? = some fn)
    (witness : ∃ (w : World) (tape : Tape) (i : Input), w.os = os ∧ (w.forCall tape i).Shaped C.prog ∧ i.vars = [] ∧ Input.okWide C.prog (w.forCall tape i) .any w.heap.size f i ∧
      s.pre6 enc C.prog fn [] false (w.forCall tape i).memory i.args ∧ ({} : Assume).holds C.prog (lone (Frame.enter C.prog f i.args .normal) [] (w.forCall tape i)))
    (hbt : fn.resultTypes = #[bt]) (hbool : C.prog.underlying bt = some .bool) (hl : laidOutB C.prog = true) (hvars : s.vars = [])
    (hpar : (fn.params.toList.all fun t => C.prog.readableRec t && decide (t < C.prog.types.size)) = true)
    (hspec : ∀ ds : List (DataW H), ds.length = fn.params.size → s.fn H ds = { results := [.lit (.bool true)], args := ds })
    (hcall : ∀ (W : World) (base : Nat) (args : Array Value) (ds : List (DataW H)) (p : List MemPlace), DataW.TrodAll enc C.prog W 0 (fun _ => true) true fn.params.toList args.toList ds p →
      (∀ (j : Nat) t v, fn.params[j]? = some t → args[j]? = some v → Value.okWide C.prog W .any base t v) → Calls C.prog f args W fun e W' => e = .returned (.bool true) ∧ Below W.heap.size W W') :
    ReturnsInHanded {} C os f .any (s.pre6 enc C.prog fn [] false) (s.post enc C.prog fn false true false false) := by
  refine returnsInHanded_of_change own started noInit hfn witness ?_
  intro W base args ds gs before hval hW _ _
  have hW' := hW
  obtain ⟨p, q, hA, hV, rfl, hfz, hnd⟩ := hW
  rw [hvars] at hV
  have hgs : gs = [] ∧ q = [] := by
    cases gs with
    | nil => exact ⟨rfl, hV⟩
    | cons _ _ => exact hV.elim
  obtain ⟨rfl, rfl⟩ := hgs
  refine (hcall W base args ds p hA hval).mono ?_
  rintro e W' ⟨rfl, hb⟩
  have hlt := hW'.lt
  rw [List.append_nil] at hlt
  have hsp := hspec ds (by rw [trodAll_len hA]; simp)
  refine ⟨_, rfl, ds, [], p ++ [], [], p, [], hW', ?_, ?_, ?_, hb.frame _, fun h => by cases h⟩
  · rw [List.append_nil, hsp, hbt]
    exact trodAll_mk1 (shut_bool hbool true)
  · rw [List.append_nil, hsp]
    exact trodAll_below hl hpar hA hb hlt
  · rw [hvars, List.append_nil, hsp]; rfl
end Go.Ev
