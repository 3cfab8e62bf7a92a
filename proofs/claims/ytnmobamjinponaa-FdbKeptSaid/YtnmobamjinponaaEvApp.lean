/- Append, ideally: the slice's elements and the new ones are a new chunk; the old chunk is let go. -/
import Derived.Test.YtnmobamjinponaaEvStep5
import Derived.Test.YtnmobamjinponaaEvMove
import Derived.Laws.AppendOwn
import Derived.Laws.Strings
import Derived.Laws.Strings2
namespace Go.Ev
open Go.RowKit

/-- Values, row by row. -/
def rowsV (ρ : Ren) (sz : Nat) (r : List (List SV)) (vs : List Value) : Prop :=
  vs.length = r.length * sz ∧ ∀ (i : Nat) (row : List SV), r[i]? = some row → row.length = sz ∧ ∀ (o : Nat) (x : SV), row[o]? = some x → ∃ v, vs[i * sz + o]? = some v ∧ relS ρ x v

theorem rowsV.pre {ρ ρ' : Ren} (p : Le ρ ρ') {sz : Nat} {r : List (List SV)} {vs : List Value} (h : rowsV ρ sz r vs) : rowsV ρ' sz r vs :=
  ⟨h.1, fun i row hr => ⟨(h.2 i row hr).1, fun o x hx => let ⟨v, hv, hs⟩ := (h.2 i row hr).2 o x hx; ⟨v, hv, hs.pre p⟩⟩⟩

theorem rowsV.nil {ρ : Ren} {sz : Nat} : rowsV ρ sz [] [] := ⟨by simp, fun i row h => by simp at h⟩

theorem rowsV.append {ρ : Ren} {sz : Nat} {r1 r2 : List (List SV)} {v1 v2 : List Value} (h1 : rowsV ρ sz r1 v1) (h2 : rowsV ρ sz r2 v2) : rowsV ρ sz (r1 ++ r2) (v1 ++ v2) := by
  refine ⟨by rw [List.length_append, List.length_append, h1.1, h2.1, Nat.add_mul], fun i row hr => ?_⟩
  rw [List.getElem?_append] at hr
  split at hr
  · rename_i hlt
    obtain ⟨hl, hx⟩ := h1.2 i row hr
    refine ⟨hl, fun o x ho => ?_⟩
    obtain ⟨v, hv, hs⟩ := hx o x ho
    exact ⟨v, by rw [List.getElem?_append_left (List.getElem?_eq_some_iff.1 hv).1]; exact hv, hs⟩
  · rename_i hge
    obtain ⟨hl, hx⟩ := h2.2 _ row hr
    refine ⟨hl, fun o x ho => ?_⟩
    obtain ⟨v, hv, hs⟩ := hx o x ho
    have e : i * sz = r1.length * sz + (i - r1.length) * sz := by rw [← Nat.add_mul]; congr 1; omega
    refine ⟨v, ?_, hs⟩
    rw [List.getElem?_append_right (by rw [h1.1]; omega), h1.1]
    rw [show i * sz + o - r1.length * sz = (i - r1.length) * sz + o by omega]; exact hv

theorem rowsV.at {ρ : Ren} {sz base : Nat} {r : List (List SV)} {vs : List Value} {cells : Array Value} (h : rowsV ρ sz r vs) (hc : ∀ (j : Nat) (v : Value), vs[j]? = some v → cells[base + j]? = some v) : rowsAt ρ cells base sz r := by
  intro i row hr
  obtain ⟨hl, hx⟩ := h.2 i row hr
  refine ⟨hl, fun o x ho => ?_⟩
  obtain ⟨v, hv, hs⟩ := hx o x ho
  exact ⟨v, by rw [Nat.add_assoc]; exact hc _ _ hv, hs⟩

section
variable {P : Program} {X : Ctx} {ρ : Ren} {H : Heap} {W : List (Nat × Chunk)} {m : Nat} {w : World} {c : Prop} {v : IV}

/-- A slice's rows, read. -/
theorem read_rows (hi : Inv X ρ H w) {c s n : Nat} {own : Bool} {els r : List (List SV)} {b base sz sz' lim : Nat} (hc : H[c]? = some (.rows own sz' els)) (hρ : ρ[c]? = some (.mem b base sz lim)) (hs : segR els s n = some r) :
    ∃ vs : List Value, rowsV ρ sz' r vs ∧ sz = sz' ∧ (∀ v ∈ vs, own = true → v.oneCell' = true) ∧ ∀ j v, vs[j]? = some v → w.cell? ⟨b, base + s * sz + j, none⟩ = some v := by
  obtain ⟨l', hl', hsat⟩ := hi.sat c _ hc
  rw [hρ] at hl'; cases hl'
  rcases hsat with ⟨h, _⟩ | ⟨b', base', lim', cells, T, lo, hi', he, hw, hsz, hlen, hfit, hfz, hone, hrows⟩
  · cases h
  · cases he
    obtain ⟨hl, hle, hget⟩ := segR_spec hs
    have hm : (s + n) * sz ≤ lim * sz := Nat.mul_le_mul_right _ (by omega)
    have hm2 : (s + n) * sz = s * sz + n * sz := Nat.add_mul _ _ _
    have hv : ∀ (j : Nat) (v : Value), ((List.range (n * sz)).map fun j => cells.getD (base + s * sz + j) undef)[j]? = some v → cells[base + s * sz + j]? = some v := by
      intro j v hj
      have hlt := (List.getElem?_eq_some_iff.1 hj).1
      simp at hlt
      have hlt2 : base + s * sz + j < cells.size := by omega
      simp [hlt, hlt2] at hj
      rw [Array.getElem?_eq_getElem hlt2, hj]
    refine ⟨(List.range (n * sz)).map fun j => cells.getD (base + s * sz + j) undef, ⟨by simp [hl], fun i row hr => ?_⟩, rfl, fun v hvm ho => ?_, fun j v hj => ?_⟩
    · have hil := (List.getElem?_eq_some_iff.1 hr).1
      obtain ⟨hrl, hx⟩ := hrows (s + i) row (hget i row hr)
      refine ⟨hrl, fun o x ho => ?_⟩
      obtain ⟨u, hu, hrel⟩ := hx o x ho
      have hol := (List.getElem?_eq_some_iff.1 ho).1
      have hlt : i * sz + o < n * sz := mul_lt_of (by omega) (by omega)
      refine ⟨u, ?_, hrel⟩
      have e : base + (s + i) * sz + o = base + s * sz + (i * sz + o) := by rw [Nat.add_mul]; omega
      rw [e] at hu
      simp [hlt, hu]
    · obtain ⟨j, hj⟩ := List.mem_iff_getElem?.1 hvm
      exact hone ho v (Array.mem_of_getElem? (hv j v hj))
    · simp only [World.cell?, hw, Option.isSome_none, Bool.false_eq_true, if_false]
      exact hv j v hj

theorem rowsV.one {sz : Nat} {r : List (List SV)} {vs : List Value} (hobj : ∀ (c b : Nat) (u : Value), ρ[c]? = some (Pl.obj b u) → u.oneCell' = true) (h : rowsV ρ sz r vs) (hsz : 0 < sz) : ∀ v ∈ vs, v.oneCell' = true := by
  intro v hv
  obtain ⟨j, hj⟩ := List.mem_iff_getElem?.1 hv
  have hlt := (List.getElem?_eq_some_iff.1 hj).1
  rw [h.1] at hlt
  have hi : j / sz < r.length := by rw [Nat.div_lt_iff_lt_mul hsz]; exact hlt
  obtain ⟨hl, hx⟩ := h.2 (j / sz) r[j / sz] (List.getElem?_eq_getElem hi)
  have hm : j % sz < (r[j / sz]).length := by rw [hl]; exact Nat.mod_lt _ hsz
  obtain ⟨u, hu, hs⟩ := hx (j % sz) _ (List.getElem?_eq_getElem hm)
  have e : j / sz * sz + j % sz = j := by rw [Nat.mul_comm]; exact Nat.div_add_mod j sz
  rw [e, hj] at hu; cases hu
  exact relS_one hs hobj

/-! #### append, run -/
/-- A source of so many elements: its length, its cells. -/
def SrcOK (P : Program) (w : World) (sz : Nat) (news : List (List SV)) (yv : Value) (vs : List Value) : Prop :=
  (∀ w' : World, (Builtin.lenOf yv).run P w' = .ok news.length w') ∧
    ∀ (w' : World) (n : Nat), w'.heap = w.heap → n ≤ news.length → (Builtin.firstCells sz n yv).run P w' = .ok (vs.take (n * sz)).toArray w'

theorem run_app_grow {t t2 ty e : TypeId} {d2 : TypeDesc} {i : TypeInfo} {z : Value} (ht : P.underlying t = some (.slice e)) (ht2 : P.underlying t2 = some d2) (hd2 : (∃ e2, d2 = .slice e2) ∨ d2 = .string) (hi : P.info? e = some i) (hz : i.zero = some z)
    {base : Option Addr} {sLen sCap n : Nat} {yv : Value} {olds news : List Value} (ho : (Builtin.firstCells i.size sLen (.slice base sLen sCap)).run P w.drew = .ok olds.toArray w.drew)
    (hlen : ∀ w' : World, (Builtin.lenOf yv).run P w' = .ok n w')
    (hn : (Builtin.firstCells i.size n yv).run P w.drew = .ok news.toArray w.drew) (hg : sCap < sLen + n) (h63 : ((sLen + n : Nat) : Int) ≤ 9223372036854775807)
    (hfit : Builtin.nextslicecap (sLen + n) sCap * i.bytes ≤ 281474976710656) :
    (Builtin.append_ #[t, t2] ty #[.slice base sLen sCap, yv]).run P w =
      .ok (.slice (some ⟨w.heap.size, 0, none⟩) (sLen + n) (grownCap w (sLen + n) sCap e))
        (w.drew.alloc (.cells (olds.toArray ++ news.toArray ++ Builtin.zeroCells z.cells (grownCap w (sLen + n) sCap e - (sLen + n))) e)) := by
  have hn' : ¬ (sLen + n ≤ sCap) := by omega
  have h63' : ¬ (9223372036854775807 < ((sLen : Int) + (n : Int))) := by omega
  have h48' : ¬ (281474976710656 < Builtin.nextslicecap (sLen + n) sCap * i.bytes) := by omega
  rcases hd2 with ⟨e2, rfl⟩ | rfl
  all_goals
    simp [Builtin.append_, run_underlying ht, run_underlying ht2, sizeOf, typeInfo, zeroValue, hi, hz, hlen, hn', h63', h48', Question.forced, hn, ho, newRow, grownCap]
    congr 2
    apply Array.ext'
    simp [List.append_assoc]

theorem run_app_room {t t2 ty e : TypeId} {d2 : TypeDesc} {i : TypeInfo} (ht : P.underlying t = some (.slice e)) (ht2 : P.underlying t2 = some d2) (hd2 : (∃ e2, d2 = .slice e2) ∨ d2 = .string) (hi : P.info? e = some i)
    {a : Addr} {sLen sCap n : Nat} {yv : Value} {news : List Value} {w' : World} (hlen : ∀ w' : World, (Builtin.lenOf yv).run P w' = .ok n w') (hn : (Builtin.firstCells i.size n yv).run P w = .ok news.toArray w)
    (hst : (storeCells (a.add (sLen * i.size)) news).run P w = .ok () w') (hroom : sLen + n ≤ sCap) :
    (Builtin.append_ #[t, t2] ty #[.slice (some a) sLen sCap, yv]).run P w = .ok (.slice (some a) (sLen + n) sCap) w' := by
  rcases hd2 with ⟨e2, rfl⟩ | rfl <;> simp [Builtin.append_, run_underlying ht, run_underlying ht2, sizeOf, typeInfo, hi, hlen, hroom, hn, hst]

theorem run_app_nil0 {t t2 ty e : TypeId} {d2 : TypeDesc} {i : TypeInfo} (ht : P.underlying t = some (.slice e)) (ht2 : P.underlying t2 = some d2) (hd2 : (∃ e2, d2 = .slice e2) ∨ d2 = .string) (hi : P.info? e = some i) {yv : Value}
    (hlen : ∀ w' : World, (Builtin.lenOf yv).run P w' = .ok 0 w') (hn : (Builtin.firstCells i.size 0 yv).run P w = .ok #[] w) :
    (Builtin.append_ #[t, t2] ty #[.slice none 0 0, yv]).run P w = .ok (.slice none 0 0) w := by
  rcases hd2 with ⟨e2, rfl⟩ | rfl <;> simp [Builtin.append_, run_underlying ht, run_underlying ht2, sizeOf, typeInfo, hi, hlen, hn]

/-! #### append, ideally -/
/-- A string's bytes, as rows. -/
def bytesR (s : ByteArray) : List (List SV) := s.toList.map fun b => [.raw (.int .u8 (b.toNat : Int))]
/-- So many rows of so many cells. -/
def cutR (k : Nat) : Nat → List SV → List (List SV)
  | 0, _ => []
  | n + 1, l => l.take k :: cutR k n (l.drop k)

theorem bytesR_len (s : ByteArray) : (bytesR s).length = s.size := by
  rw [bytesR, List.length_map, ByteArray.toList_eq]; rfl

theorem bytesR_rows (s : ByteArray) : rowsV ρ 1 (bytesR s) (s.toList.map fun b => Value.int .u8 (b.toNat : Int)) := by
  refine ⟨by simp [bytesR], fun i row hr => ?_⟩
  simp only [bytesR, List.getElem?_map] at hr
  cases hb : s.toList[i]? with
  | none => rw [hb] at hr; cases hr
  | some b =>
    rw [hb] at hr
    simp at hr
    subst hr
    refine ⟨rfl, fun o x hx => ?_⟩
    cases o with
    | zero =>
      simp at hx; subst hx
      exact ⟨.int .u8 b.toNat, by simp [hb], rfl, rfl⟩
    | succ o => simp at hx

theorem cutR_len (k : Nat) : ∀ (n : Nat) (l : List SV), (cutR k n l).length = n
  | 0, _ => rfl
  | n + 1, l => by simp [cutR, cutR_len k n]

theorem cutR_rows {k : Nat} : ∀ {n : Nat} {l : List SV} {vs : List Value}, l.length = n * k → relL ρ l vs → rowsV ρ k (cutR k n l) vs
  | 0, l, vs, hl, hr => by
    have : l = [] := List.eq_nil_of_length_eq_zero (by simpa using hl)
    subst this
    cases vs with
    | nil => exact rowsV.nil
    | cons _ _ => exact hr.elim
  | n + 1, l, vs, hl, hr => by
    have hle : k ≤ l.length := by rw [hl, Nat.add_mul]; omega
    have e : l = l.take k ++ l.drop k := (List.take_append_drop k l).symm
    rw [e] at hr
    obtain ⟨v1, v2, rfl, h1, h2⟩ := relL_append hr
    have ih := cutR_rows (k := k) (n := n) (l := l.drop k) (vs := v2) (by simp [hl, Nat.add_mul]) h2
    have hl1 := h1.len
    have ht : (l.take k).length = k := by simp; omega
    rw [ht] at hl1
    have one : rowsV ρ k [l.take k] v1 := by
      refine ⟨by simp [hl1], fun i row hr => ?_⟩
      cases i with
      | zero =>
        simp at hr; subst hr
        refine ⟨ht, fun o x hx => ?_⟩
        obtain ⟨u, hu, hs⟩ := h1.get hx
        exact ⟨u, by simpa using hu, hs⟩
      | succ i => simp at hr
    exact one.append ih

def srcR (sz : Nat) (y : IV) (H : Heap) : Option (List (List SV)) :=
  match y with
  | .s (.raw (.slice none 0 0)) => some []
  | .s (.raw (.string s)) => if sz = 1 then some (bytesR s) else none
  | .s (.slice c s n) => match H[c]? with
    | some (.rows _ sz' els) => if sz' = sz then segR els s n else none
    | _ => none
  | .s (.sub c i o k n) => match H[c]? with
    | some (.rows _ _ els) => if k = sz then match rdCells els i o (n * k) with
      | some l => some (cutR k n l)
      | none => none
      else none
    | _ => none
  | _ => none

theorem firstCells_take {sz n len cap m : Nat} {a : Addr} {vs : List Value} {w' : World} (hl : vs.length = m * sz) (hn : n ≤ m) (h : ∀ j v, vs[j]? = some v → w'.cell? (a.add j) = some v) :
    (Builtin.firstCells sz n (.slice (some a) len cap)).run P w' = .ok (vs.take (n * sz)).toArray w' := by
  have : n * sz ≤ m * sz := Nat.mul_le_mul_right _ hn
  refine run_firstCells_some w' _ _ _ _ _ _ (by simp; omega) fun j v hj => ?_
  have hlt := (List.getElem?_eq_some_iff.1 hj).1
  simp at hlt
  rw [List.getElem?_take_of_lt (by omega)] at hj
  exact h j v hj

theorem extract_data (s : ByteArray) (n : Nat) : (s.extract 0 n).data.map (fun b => Value.int .u8 (b.toNat : Int)) = ((s.toList.map fun b => Value.int .u8 (b.toNat : Int)).take n).toArray := by
  have e : s = ByteArray.mk s.data.toList.toArray := by simp
  rw [ByteArray.toList_eq]
  conv => lhs; rw [e, ByteArray.extract_mk]
  apply Array.ext'
  simp

theorem src_spec {sz : Nat} {y : IV} {yv : Value} {news : List (List SV)} (hi : Inv X ρ H w) (hy : relI ρ y yv) (h : srcR sz y H = some news) : ∃ vs : List Value, rowsV ρ sz news vs ∧ SrcOK P w sz news yv vs := by
  unfold srcR at h
  have empty : ∀ {b2 : Option Addr} {c2 : Nat}, news = [] → ∃ vs : List Value, rowsV ρ sz news vs ∧ SrcOK P w sz news (.slice b2 0 c2) vs := by
    rintro b2 c2 rfl
    refine ⟨[], rowsV.nil, fun w' => by simp [Builtin.lenOf], fun w' n _ hn => ?_⟩
    have : n = 0 := by simpa using hn
    subst this
    cases b2 with
    | none => simp [run_firstCells_none]
    | some a => simpa using run_firstCells_some (P := P) w' sz 0 a 0 c2 [] (by simp) fun j u hj => by simp at hj
  split at h
  · cases h
    obtain ⟨rfl, _⟩ := hy
    exact empty rfl
  · rename_i s
    split at h
    · rename_i h1
      cases h
      subst h1
      obtain ⟨rfl, _⟩ := hy
      refine ⟨_, bytesR_rows s, fun w' => by simp [Builtin.lenOf, bytesR_len], fun w' n _ hn => ?_⟩
      simp only [Builtin.firstCells, Nat.mul_one, Sem.run_pure, extract_data]
    · cases h
  · rename_i c s n
    split at h
    · rename_i own sz' els hc
      split at h
      · rename_i hsz; subst hsz
        obtain ⟨hl, hle, _⟩ := segR_spec h
        rcases hy with ⟨hρ, rfl, rfl, rfl⟩ | ⟨b, base, sz1, lim, cap, hρ, rfl, _, _⟩ | ⟨b, base, sz1, lim, off, hρ, rfl, rfl⟩
        · exact empty (List.eq_nil_of_length_eq_zero hl)
        · obtain ⟨vs, hv, rfl, _, hcell⟩ := read_rows hi hc hρ h
          refine ⟨vs, hv, fun w' => by simp [Builtin.lenOf, hl], fun w' n' hw hn => ?_⟩
          refine firstCells_take hv.1 hn fun j u hj => ?_
          rw [addr_add, ← hcell j u hj]
          simp [World.cell?, hw]
        · exact empty (List.eq_nil_of_length_eq_zero hl)
      · cases h
    · cases h
  · rename_i c i o k n
    split at h
    · rename_i own sz' els hc
      split at h
      · rename_i hk; subst hk
        split at h
        · rename_i l hl
          cases h
          rcases hy with ⟨b, base, sz1, lim, cap, hρ, rfl, _⟩ | ⟨b, base, sz1, lim, off, hρ, rfl, rfl⟩
          · obtain ⟨hll, vs, hv, hcell⟩ := read_cells2 hi hc hρ hl
            have hr := cutR_rows hll hv
            refine ⟨vs, hr, fun w' => by simp [Builtin.lenOf, cutR_len], fun w' n' hw hn => ?_⟩
            refine firstCells_take (m := n) (by rw [hv.len, hll]) (by simpa [cutR_len] using hn) fun j u hj => ?_
            rw [addr_add, ← hcell j u hj]
            simp [World.cell?, hw]
          · exact empty rfl
        · cases h
      · cases h
    · cases h
  · cases h

/-- What append and copy take from: a slice or a string. -/
def srcT (P : Program) (T : TypeId) : Bool :=
  match P.underlying T with
  | some (.slice _) => true
  | some .string => true
  | _ => false
theorem srcT_spec {T : TypeId} (h : srcT P T = true) : ∃ d, P.underlying T = some d ∧ ((∃ e2, d = .slice e2) ∨ d = .string) := by
  unfold srcT at h
  split at h
  · rename_i e hu; exact ⟨_, hu, .inl ⟨_, rfl⟩⟩
  · rename_i hu; exact ⟨_, hu, .inr rfl⟩
  · cases h

def stAppend (P : Program) (m : Nat) (T T2 : TypeId) (x y : IV) (H : Heap) : Res :=
  match zeroE P T, bytesE P T, srcT P T2 with
  | some z, some k, true => if z.length ≠ 0 ∧ k ≠ 0 then match srcR z.length y H with
    | some news => match x with
      | .s (.raw (.slice none 0 0)) => some (news.length * k ≤ 140737488355328, .s (.slice m 0 news.length), [(m, .rows true z.length news)])
      | .s (.slice c s n) => match H[c]? with
        | some (.rows true sz els) => if sz = z.length then match segR els s n with
          | some olds => some ((n + news.length) * k ≤ 140737488355328, .s (.slice m 0 (n + news.length)), [(c, .gone), (m, .rows true z.length (olds ++ news))])
          | none => none
          else none
        | _ => none
      | _ => none
    | none => none
    else none
  | _, _, _ => none
end
end Go.Ev
