/- One operation, ideally; and that the model's run of it comes to the same. -/
import Derived.Test.YtnmobamjinponaaEvOps
namespace Go.Ev
open Go.RowKit


def ldIV (agg : Bool) (l : List SV) : IV := match agg, l with
  | true, l => .a l
  | false, [x] => .s x
  | _, _ => .j

def stLoad (P : Program) (T : TypeId) (p : IV) (H : Heap) : Res :=
  match p with
  | .s (.ptr c i o) => match H[c]? with
    | some (.rows _ _ els) => match szT P T, aggT P T with
      | some n, some ag => match rdCells els i o (if ag then n else 1) with
        | some l => some (True, ldIV ag l, [])
        | none => none
      | _, _ => none
    | _ => none
  | _ => none

def stStore (P : Program) (T : TypeId) (p x : IV) (H : Heap) : Res :=
  match p with
  | .s (.ptr c i o) => match H[c]? with
    | some (.rows true sz els) => match els[i]? with
      | some row => match szT P T with
        | some n => if x.cells.length = n ∧ n ≠ 0 then match spl row o x.cells with
          | some l => some (True, .j, [(c, .rows true sz (els.set i l))])
          | none => none
          else none
        | none => none
      | none => none
    | _ => none
  | _ => none

def stBox (m : Nat) (x : IV) : Res :=
  if x.cells.length ≠ 0 then some (True, .s (.ptr m 0 0), [(m, .rows true x.cells.length [x.cells])]) else none

def stAlloc (P : Program) (m : Nat) (T : TypeId) : Res :=
  match zeroT P T with
  | some z => if z.length ≠ 0 then some (True, .s (.ptr m 0 0), [(m, .rows true z.length [z])]) else none
  | none => none

def stField (P : Program) (T : TypeId) (p : IV) (f : Nat) : Res :=
  match p, offT P T f with
  | .s (.ptr c i o), some (off, _) => some (True, .s (.ptr c i (o + off)), [])
  | _, _ => none

def stExtract (x : IV) (i : Nat) : Res :=
  match x with
  | .t l => match l[i]? with
    | some v => some (True, v, [])
    | none => none
  | _ => none

theorem cells_one {v : Value} (h : v.oneCell' = true) : v.cells = #[v] := by cases v <;> first | rfl | cases h

theorem relI_cells {ρ : Ren} {x : IV} {v : Value} (h : relI ρ x v) (hx : x.cells.length ≠ 0) (hobj : ∀ (c b : Nat) (u : Value), ρ[c]? = some (Pl.obj b u) → u.oneCell' = true) :
    relL ρ x.cells v.cells.toList := by
  cases x with
  | s x => rw [cells_one (relS_one h hobj)]; exact ⟨h, trivial⟩
  | a l => obtain ⟨cs, rfl, h⟩ := h; simpa [Value.cells, IV.cells] using h
  | t l => simp [IV.cells] at hx
  | j => simp [IV.cells] at hx

theorem relL_one {ρ : Ren} (hobj : ∀ (c b : Nat) (u : Value), ρ[c]? = some (Pl.obj b u) → u.oneCell' = true) : ∀ {l : List SV} {vs : List Value}, relL ρ l vs → ∀ v ∈ vs, v.oneCell' = true
  | [], [], _, v, hv => by cases hv
  | x :: l, u :: vs, h, v, hv => by
    rcases List.mem_cons.1 hv with rfl | hv
    · exact relS_one h.1 hobj
    · exact relL_one hobj h.2 v hv
  | [], _ :: _, h, _, _ => h.elim
  | _ :: _, [], h, _, _ => h.elim

section
variable {P : Program} {X : Ctx} {ρ : Ren} {H : Heap} {W : List (Nat × Chunk)} {m : Nat} {w : World} {n : Nat} {tm : TM} {a : Act} {c : Prop} {v : IV}

theorem stLoad_sound {T : TypeId} {p : IV} {pv : Value} (hi : Inv X ρ H w) (hp : relI ρ p pv) (h : stLoad P T p H = some (c, v, W)) :
    StepOK P X ρ (do pure (.value (← Instr.loadAt T pv))) w v H W := by
  unfold stLoad at h
  split at h
  · rename_i ci i o
    split at h
    · rename_i own sz' els hc
      split at h
      · rename_i n ag hsz hag
        split at h
        · rename_i l hs
          cases h
          obtain ⟨b, base, sz, lim, hρ, rfl⟩ := hp
          obtain ⟨hl, vs, hrel, hcell⟩ := read_cells2 hi hc hρ hs
          have hlen := hrel.len
          cases ag with
          | true =>
            refine StepOK.pure hi (x := .agg vs.toArray) ⟨vs, rfl, hrel⟩ ?_
            have hld : (loadCells ⟨b, base + i * sz + o, none⟩ n).run P w = .ok vs.toArray w := by
              have := run_loadCells_list (P := P) w ⟨b, base + i * sz + o, none⟩ vs (fun j v hj => by rw [addr_add]; exact hcell j v hj)
              rw [show vs.length = n by rw [hlen, hl]; rfl] at this; exact this
            simp [Instr.loadAt, Instr.sureAddr, loadVar, run_isAgg' P w hag, run_sizeOf' P w hsz, hld]
          | false =>
            obtain ⟨x0, rfl⟩ := List.length_eq_one_iff.1 (hl.trans rfl)
            obtain ⟨v0, rfl⟩ := List.length_eq_one_iff.1 hlen
            refine StepOK.pure hi (x := v0) hrel.1 ?_
            have hc0 := hcell 0 v0 rfl
            simp only [Nat.add_zero] at hc0
            simp [Instr.loadAt, Instr.sureAddr, loadVar, run_isAgg' P w hag, hc0]
        · cases h
      · cases h
    · cases h
  · cases h

theorem stStore_sound {T : TypeId} {p x : IV} {pv xv : Value} (hi : Inv X ρ H w) (hp : relI ρ p pv) (hx : relI ρ x xv) (h : stStore P T p x H = some (c, v, W)) :
    StepOK P X ρ (do Instr.storeAt T pv xv; pure .skip) w v H W := by
  unfold stStore at h
  split at h
  · rename_i ci i o
    split at h
    · rename_i sz els hc
      split at h
      · rename_i row hrow
        split at h
        · rename_i n hsz
          split at h
          · rename_i hcond
            obtain ⟨hlen, hn⟩ := hcond
            split at h
            · rename_i l hspl
              cases h
              obtain ⟨b, base, sz1, lim, hρ, rfl⟩ := hp
              obtain ⟨l', hl', hsat⟩ := hi.sat ci _ hc
              rw [hρ] at hl'; cases hl'
              rcases hsat with ⟨h, _⟩ | ⟨b', base', lim', cells, T', lo, hi', he, hw, hsz0, hlim, hfit, hfz, hone, hrows⟩
              · cases h
              · cases he
                have hcells := relI_cells hx (by omega) hi.obj1
                have hvl := hcells.len
                obtain ⟨hll, hle, hget⟩ := spl_spec hspl
                obtain ⟨hrl, hr⟩ := hrows i row hrow
                have hi_lt : i < els.length := (List.getElem?_eq_some_iff.1 hrow).1
                have hmul : (i + 1) * sz ≤ lim * sz := Nat.mul_le_mul_right _ (by omega)
                have hmul2 : (i + 1) * sz = i * sz + sz := by rw [Nat.add_mul, Nat.one_mul]
                obtain ⟨cs', hrun, hcsz, hin, hout⟩ := run_storeList P (T := T') xv.cells.toList 0 (base + i * sz + o) w cells hw (by omega) (hfz rfl) (relL_one hi.obj1 hcells)
                refine ⟨ρ, undef, setBlk w b (.cells cs' T' (lo, hi')), Le.refl _, VK.refl _ _, trivial, ?_, .inr ⟨?_, rfl⟩⟩
                · have hci : ci < H.length := (List.getElem?_eq_some_iff.1 hc).1
                  simp only [upd, up1]
                  rw [if_neg (by omega)]
                  refine hi.upd hc hρ rfl rfl rfl rfl (by simp [setBlk]) (fun b' hb' => ?_) (.inr ⟨b, base, lim, cs', T', lo, hi', rfl, ?_, hsz0, by simpa using hlim, by omega, fun _ => by rw [hcsz]; exact hfz rfl, fun _ u hu => ?_, ?_⟩) rfl
                  · have : b ≠ b' := fun e => hb' (by rw [e]; rfl)
                    simp [setBlk, this]
                  · simp [setBlk, (Array.getElem?_eq_some_iff.1 hw).1]
                  · obtain ⟨j, hj⟩ := Array.mem_iff_getElem?.1 hu
                    by_cases h1 : base + i * sz + o + 0 ≤ j ∧ j < base + i * sz + o + 0 + xv.cells.toList.length
                    · rw [hin j h1.1 h1.2] at hj
                      exact relL_one hi.obj1 hcells u (List.mem_of_getElem? hj)
                    · rw [hout j (by omega)] at hj
                      exact hone rfl u (Array.mem_of_getElem? hj)
                  · intro i' row' hr'
                    by_cases e : i' = i
                    · subst e
                      rw [List.getElem?_set_self hi_lt] at hr'; cases hr'
                      refine ⟨by omega, fun o' y hy => ?_⟩
                      rcases hget o' y hy with ⟨h1, h2, h3⟩ | ⟨h1, h2⟩
                      · obtain ⟨u, hu, hrel⟩ := hcells.get h3
                        refine ⟨u, ?_, hrel⟩
                        rw [hin _ (by omega) (by omega), ← hu]; congr 1; omega
                      · obtain ⟨u, hu, hrel⟩ := hr o' y h2
                        refine ⟨u, ?_, hrel⟩
                        rw [hout _ (by omega)]; exact hu
                    · rw [List.getElem?_set_ne (Ne.symm e)] at hr'
                      obtain ⟨h1, h2⟩ := hrows i' row' hr'
                      refine ⟨h1, fun o' y hy => ?_⟩
                      obtain ⟨u, hu, hrel⟩ := h2 o' y hy
                      refine ⟨u, ?_, hrel⟩
                      have ho' := (List.getElem?_eq_some_iff.1 hy).1
                      rw [hout _ ?_]
                      · exact hu
                      · rcases Nat.lt_or_gt_of_ne e with hlt | hgt
                        · left
                          have : (i' + 1) * sz ≤ i * sz := Nat.mul_le_mul_right _ (by omega)
                          have : (i' + 1) * sz = i' * sz + sz := by rw [Nat.add_mul, Nat.one_mul]
                          omega
                        · right
                          have : (i + 1) * sz ≤ i' * sz := Nat.mul_le_mul_right _ (by omega)
                          omega
                · have hs : xv.cells.size = n := by simpa [hlen] using hvl
                  simp [Instr.storeAt, Instr.sureAddr, storeVar, run_sizeOf' P w hsz, hs, hrun]
            · cases h
          · cases h
        · cases h
      · cases h
    · cases h
  · cases h

theorem newBlock (hi : Inv X ρ H w) (hm : PlaceOK ρ H m) {l : List SV} {vs : List Value} (T : TypeId) (hr : relL ρ l vs) (h0 : l.length ≠ 0) :
    Inv X (addR ρ m (.mem w.heap.size 0 l.length 1)) (up1 H m (.rows true l.length [l])) (w.alloc (.cells vs.toArray T)) ∧ relI (addR ρ m (.mem w.heap.size 0 l.length 1)) (.s (.ptr m 0 0)) (.pointer (some ⟨w.heap.size, 0, none⟩)) := by
  have hl := hr.len
  refine ⟨hi.add hm _ _ rfl rfl rfl (by simp) (fun b hb => heap_push_old w _ hb) (fun _ _ h => by cases h) ?_ (fun _ b hb => by simp [Pl.blk] at hb; omega) (fun _ _ h => by cases h), ?_⟩
  · refine .inr ⟨_, _, _, vs.toArray, T, 0, 0, rfl, heap_push_new _ _, by omega, by simp, by simp; omega, fun _ o _ => by omega, fun _ v hv => relL_one hi.obj1 hr v (by simpa using hv), ?_⟩
    intro i row hi'
    match i with
    | 0 =>
      simp at hi'; subst hi'
      refine ⟨rfl, fun o x ho => ?_⟩
      obtain ⟨v, hv, h⟩ := hr.get ho
      exact ⟨v, by simpa using hv, h.pre (addR_le hi.len hm _)⟩
    | i + 1 => simp at hi'
  · exact ⟨w.heap.size, 0, l.length, 1, addR_get hi.len hm _, by simp⟩

theorem stBox_sound {T : TypeId} {x : IV} {xv : Value} (hi : Inv X ρ H w) (hx : relI ρ x xv) (hm : PlaceOK ρ H m) (h : stBox m x = some (c, v, W)) :
    StepOK P X ρ (do pure (.value (← Instr.box T xv))) w v H W := by
  unfold stBox at h
  split at h
  · rename_i h0
    cases h
    have hc := relI_cells hx h0 hi.obj1
    obtain ⟨h1, h2⟩ := newBlock hi hm T hc h0
    refine ⟨_, _, _, addR_le hi.len hm _, VK.add, h2, h1, .inl ?_⟩
    simp [Instr.box, newVar, newRow]
  · cases h

theorem rawCells_rel {ρ : Ren} {z : Value} {l : List SV} (h : rawCells z = some l) : relL ρ l z.cells.toList := by
  unfold rawCells at h
  split at h
  · rename_i hall
    cases h
    refine relL_of_get (by simp) fun i x hx => ?_
    simp at hx
    obtain ⟨v, hv, rfl⟩ := hx
    refine ⟨v, by simpa using hv, rfl, ?_⟩
    simp only [List.all_eq_true] at hall
    exact hall v (by simpa using Array.mem_of_getElem? hv)
  · cases h

theorem stAlloc_sound {T : TypeId} (hi : Inv X ρ H w) (hm : PlaceOK ρ H m) (h : stAlloc P m T = some (c, v, W)) :
    StepOK P X ρ (do pure (.value (← Instr.alloc T true (.tuple #[])))) w v H W := by
  unfold stAlloc at h
  split at h
  · rename_i z hz
    split at h
    · rename_i h0
      cases h
      unfold zeroT at hz
      split at hz
      · rename_i i hinfo
        split at hz
        · rename_i zv hzv
          split at hz
          · obtain ⟨h1, h2⟩ := newBlock hi hm T (rawCells_rel (ρ := ρ) hz) h0
            refine ⟨_, _, _, addR_le hi.len hm _, VK.add, h2, h1, .inl ?_⟩
            simp [Instr.alloc, run_zeroValue' P w hinfo hzv, newVar, newRow]
          · cases hz
        · cases hz
      · cases hz
    · cases h
  · cases h

theorem stField_sound {T : TypeId} {p : IV} {pv : Value} {f : Nat} (hi : Inv X ρ H w) (hp : relI ρ p pv) (h : stField P T p f = some (c, v, W)) :
    StepOK P X ρ (do pure (.value (← Instr.fieldAt T pv f))) w v H W := by
  unfold stField at h
  split at h
  · rename_i ci i o off fs hoff
    cases h
    obtain ⟨b, base, sz, lim, hρ, rfl⟩ := hp
    unfold offT at hoff
    split at hoff
    · rename_i flds hu
      split at hoff
      · rename_i fl hf
        split at hoff
        · rename_i inf hinf
          split at hoff
          · cases hoff
          · rename_i hne
            cases hoff
            refine StepOK.pure hi (x := .pointer (some ⟨b, base + i * sz + (o + fl.offset), none⟩)) ⟨b, base, sz, lim, hρ, rfl⟩ ?_
            have hs : szT P fl.type = some inf.size := by simp [szT, hinf]
            simp [Instr.fieldAt, run_underlying' P w hu, hf, Instr.sureAddr, fieldPlace, run_sizeOf' P w hs, hne, addr_add, Nat.add_assoc]
        · cases hoff
      · cases hoff
    · cases hoff
  · cases h

theorem relT.get {ρ : Ren} : ∀ {l : List IV} {vs : List Value} {i : Nat} {x : IV}, relT ρ l vs → l[i]? = some x → ∃ v, vs[i]? = some v ∧ relC ρ x v
  | [], [], i, x, _, h => by simp at h
  | y :: l, v :: vs, 0, x, h, hi => by simp at hi; subst hi; exact ⟨v, by simp, h.1⟩
  | y :: l, v :: vs, i + 1, x, h, hi => by simp at hi; obtain ⟨u, hu, hr⟩ := h.2.get hi; exact ⟨u, by simpa using hu, hr⟩
  | [], _ :: _, _, _, h, _ => h.elim
  | _ :: _, [], _, _, h, _ => h.elim

theorem relC.toI {ρ : Ren} {x : IV} {v : Value} (h : relC ρ x v) : relI ρ x v := by
  cases x with
  | t l => exact h.elim
  | _ => exact h

theorem stExtract_sound {x : IV} {xv : Value} {i : Nat} (hi : Inv X ρ H w) (hx : relI ρ x xv) (h : stExtract x i = some (c, v, W)) :
    StepOK P X ρ (do pure (.value (← Instr.extract xv i))) w v H W := by
  unfold stExtract at h
  split at h
  · rename_i l
    split at h
    · rename_i y hy
      cases h
      obtain ⟨vs, rfl, hr⟩ := hx
      obtain ⟨u, hu, hrel⟩ := hr.get hy
      refine StepOK.pure hi (x := u) hrel.toI ?_
      simp [Instr.extract, hu]
    · cases h
  · cases h
end
end Go.Ev
