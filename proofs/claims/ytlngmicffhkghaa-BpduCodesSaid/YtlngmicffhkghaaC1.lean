/- A part of the proof: contracts of the functions that the statement reaches. -/
import Derived.Test.YtlngmicffhkghaaTysB
namespace Go.Ev
open Go.Proofs
set_option maxRecDepth 100000
set_option linter.unusedSimpArgs false
set_option linter.unusedVariables false
set_option maxHeartbeats 4000000
/-- A PDU's fields. -/
structure PD where
  k : Int
  b1 : Bool
  b2 : Bool
  b3 : Bool
  b4 : Bool
  b5 : Bool
  b6 : Bool
  ro : Int
  rt : Int
  co : Int
  br : Int
  po : Int
  ag : Int
  mx : Int
  he : Int
  de : Int
def encP (p : PD) : List SV := [.raw (.int .u8 p.k), .raw (.bool p.b1), .raw (.bool p.b2), .raw (.bool p.b3), .raw (.bool p.b4), .raw (.bool p.b5), .raw (.bool p.b6), .raw (.int .u8 p.ro), .raw (.int .u64 p.rt), .raw (.int .u32 p.co), .raw (.int .u64 p.br), .raw (.int .u16 p.po), .raw (.int .u16 p.ag), .raw (.int .u16 p.mx), .raw (.int .u16 p.he), .raw (.int .u16 p.de)]
theorem und128 : Try.prog.underlying 128 = some (.map 3 130) := by kernel_rfl
theorem und3 : Try.prog.underlying 3 = some (.int .i64) := by kernel_rfl
def fkey (g : Nat) : Int := [0, 1, 4, 5, 6, 7].getD g 0
def fent (c : Nat) (s : Nat → Nat) (g : Nat) : IV × IV × Nat := (.s (.raw (.int .i64 (fkey g))), .s (.ptr c 0 (g + 1)), s g)
/-- The map of the flags: which stamps its entries have is open. -/
def fmap (c : Nat) (s : Nat → Nat) : Chunk := .map 6 [fent c s 0, fent c s 1, fent c s 2, fent c s 3, fent c s 4, fent c s 5]
def stampsOK (s : Nat → Nat) : Prop := (∀ i, i < 6 → s i < 6) ∧ ∀ i j, i < 6 → j < 6 → s i = s j → i = j
theorem fkey_inj (i j : Nat) (hi : i < 6) (hj : j < 6) (e : fkey i = fkey j) : i = j := by
  have h : ∀ i : Fin 6, ∀ j : Fin 6, fkey i = fkey j → i = j := by decide
  have := h ⟨i, hi⟩ ⟨j, hj⟩ e
  exact congrArg Fin.val this

/-- What the temporaries hold of the operations that are done. -/
def Tab (L : List (Nat × Nat × IV)) (dn : Nat → Bool) (tm : TM) : Prop := ∀ x ∈ L, dn x.1 = true → get tm x.2.1 = x.2.2
def keyed (L : List (Nat × Nat × IV)) : Bool := decide ((L.map (·.1)).Nodup) && decide ((L.map (·.2.1)).Nodup)
theorem nodup_fst {α β : Type} {f : α → β} : ∀ {L : List α} {x y : α}, (L.map f).Nodup → x ∈ L → y ∈ L → f x = f y → x = y
  | z :: L, x, y, hn, hx, hy, e => by
    rw [List.map_cons, List.nodup_cons] at hn
    rcases List.mem_cons.1 hx with rfl | hx
    · rcases List.mem_cons.1 hy with rfl | hy
      · rfl
      · exact absurd (List.mem_map.2 ⟨y, hy, e.symm⟩) hn.1
    · rcases List.mem_cons.1 hy with h | hy
      · rw [h] at e; exact absurd (List.mem_map.2 ⟨x, hx, e⟩) hn.1
      · exact nodup_fst hn.2 hx hy e
theorem Tab.put {L : List (Nat × Nat × IV)} {dn : Nat → Bool} {tm : TM} (h : Tab L dn tm) (hk : keyed L = true) {i t : Nat} {v : IV} (hin : (i, t, v) ∈ L) : Tab L (fun j => if j = i then true else dn j) (Ev.put tm (some t) v) := by
  simp only [keyed, Bool.and_eq_true, decide_eq_true_eq] at hk
  intro x hx hd
  simp only [Ev.put, Ev.get]
  by_cases e : t = x.2.1
  · rw [if_pos e]
    have := nodup_fst hk.2 hin hx e
    rw [← this]
  · rw [if_neg e]
    have hne : x.1 ≠ i := fun h2 => e (by have := nodup_fst hk.1 hin hx h2.symm; rw [← this])
    simp only [if_neg hne] at hd
    exact h x hx hd
theorem Tab.none {L : List (Nat × Nat × IV)} {dn : Nat → Bool} {tm : TM} (h : Tab L dn tm) {i : Nat} (hin : ∀ x ∈ L, x.1 ≠ i) : Tab L (fun j => if j = i then true else dn j) tm := by
  intro x hx hd
  simp only [if_neg (hin x hx)] at hd
  exact h x hx hd

def mapOf (l : List Nat) : List (IV × IV × Nat) := l.zipIdx.map fun p => (.s (.raw (.int .i64 (fkey p.1))), .s (.ptr 0 0 (p.1 + 1)), p.2)
/-- The map, as the entries that are done lie in it. -/
def MapI (row : List SV) (dn : Nat → Bool) (H : Heap) : Prop :=
  if dn 0 = true then ∃ l : List Nat, l.Nodup ∧ (∀ g, g < 6 → (g ∈ l ↔ dn (4 * g + 4) = true)) ∧ (∀ g ∈ l, g < 6) ∧ H = [.rows true 16 [row], .map l.length (mapOf l)]
  else H = [.rows true 16 [row]] ∧ ∀ g, g < 6 → dn (4 * g + 4) = false
theorem mapOf_snoc (l : List Nat) (g : Nat) : mapOf (l ++ [g]) = mapOf l ++ [(.s (.raw (.int .i64 (fkey g))), .s (.ptr 0 0 (g + 1)), l.length)] := by
  simp [mapOf, List.zipIdx_append]
theorem mapOf_key {l : List Nat} {y : IV × IV × Nat} (h : y ∈ mapOf l) : ∃ g ∈ l, y.1 = .s (.raw (.int .i64 (fkey g))) := by
  unfold mapOf at h
  obtain ⟨p, hp, rfl⟩ := List.mem_map.1 h
  exact ⟨p.1, by
    have := List.mem_zipIdx hp
    obtain ⟨_, _, h3⟩ := this
    rw [h3]; exact List.getElem_mem _, rfl⟩
theorem mapOf_perm {l : List Nat} (hn : l.Nodup) (hall : ∀ g, g < 6 → g ∈ l) (hlt : ∀ g ∈ l, g < 6) : ∃ s, stampsOK s ∧ l.length = 6 ∧ (mapOf l).Perm [fent 0 s 0, fent 0 s 1, fent 0 s 2, fent 0 s 3, fent 0 s 4, fent 0 s 5] := by
  have hp : l.Perm (List.range 6) := (List.perm_ext_iff_of_nodup hn List.nodup_range).2 fun g => ⟨fun h => List.mem_range.2 (hlt g h), fun h => hall g (List.mem_range.1 h)⟩
  have hl : l.length = 6 := by rw [hp.length_eq]; rfl
  refine ⟨fun g => l.idxOf g, ⟨fun i hi => ?_, fun i j hi hj e => ?_⟩, hl, ?_⟩
  · rw [← hl]; exact List.idxOf_lt_length_of_mem (hall i hi)
  · have h1 := List.getElem_idxOf (List.idxOf_lt_length_of_mem (hall i hi))
    have h2 := List.getElem_idxOf (List.idxOf_lt_length_of_mem (hall j hj))
    have e' : l.idxOf i = l.idxOf j := e
    rw [← h1, ← h2]
    congr 1
  · have e : mapOf l = l.map (fent 0 fun g => l.idxOf g) := by
      unfold mapOf
      apply List.ext_getElem
      · simp
      · intro i h1 h2
        simp only [List.getElem_map, List.getElem_zipIdx, Nat.zero_add, fent]
        have hil : i < l.length := by simpa using h2
        rw [hn.idxOf_getElem i hil]
    rw [e]
    exact hp.map _
theorem MapI.same {row : List SV} {dn : Nat → Bool} {H : Heap} (h : MapI row dn H) {i : Nat} (h0 : i ≠ 0) (hi : ∀ g, g < 6 → 4 * g + 4 ≠ i) : MapI row (fun j => if j = i then true else dn j) H := by
  unfold MapI at h ⊢
  simp only [if_neg (Ne.symm h0)]
  split at h
  · rename_i hd
    rw [if_pos hd]
    obtain ⟨l, h1, h2, h3⟩ := h
    exact ⟨l, h1, fun g hg => by simp only [if_neg (hi g hg)]; exact h2 g hg, h3⟩
  · rename_i hd
    rw [if_neg hd]
    exact ⟨h.1, fun g hg => by simp only [if_neg (hi g hg)]; exact h.2 g hg⟩
theorem MapI.make {row : List SV} {dn : Nat → Bool} {H : Heap} (h : MapI row dn H) (hd : dn 0 = false) : H = [.rows true 16 [row]] ∧ MapI row (fun j => if j = 0 then true else dn j) [.rows true 16 [row], .map 0 []] := by
  unfold MapI at h ⊢
  rw [if_neg (by simp [hd])] at h
  refine ⟨h.1, ?_⟩
  rw [if_pos (by simp)]
  refine ⟨[], by simp, fun g hg => ?_, by simp, rfl⟩
  simp [h.2 g hg]
theorem MapI.ins {row : List SV} {dn : Nat → Bool} {H : Heap} (h : MapI row dn H) (hd : dn 0 = true) {g : Nat} (hg : g < 6) (hn : dn (4 * g + 4) = false) :
    ∃ l : List Nat, H = [.rows true 16 [row], .map l.length (mapOf l)] ∧ (∀ y ∈ mapOf l, ∃ u, y.1 = .s (.raw (.int .i64 u)) ∧ u ≠ fkey g) ∧
      MapI row (fun j => if j = 4 * g + 4 then true else dn j) [.rows true 16 [row], .map (l.length + 1) (mapOf l ++ [(.s (.raw (.int .i64 (fkey g))), .s (.ptr 0 0 (g + 1)), l.length)])] := by
  unfold MapI at h ⊢
  rw [if_pos hd] at h
  obtain ⟨l, h1, h2, h3, rfl⟩ := h
  have hgl : g ∉ l := fun hm => by have := (h2 g hg).1 hm; rw [hn] at this; cases this
  refine ⟨l, rfl, fun y hy => ?_, ?_⟩
  · obtain ⟨g', hg', e⟩ := mapOf_key hy
    exact ⟨_, e, fun e2 => hgl (by rw [← fkey_inj g' g (h3 g' hg') hg e2]; exact hg')⟩
  · rw [if_pos (by show (if 0 = 4 * g + 4 then true else dn 0) = true; rw [hd]; simp)]
    refine ⟨l ++ [g], ?_, fun g' hg' => ?_, fun g' hg' => ?_, by rw [mapOf_snoc]; simp⟩
    · rw [List.nodup_append]
      exact ⟨h1, by simp, fun a ha b hb e => by simp at hb; subst hb; subst e; exact hgl ha⟩
    · show g' ∈ l ++ [g] ↔ (if 4 * g' + 4 = 4 * g + 4 then true else dn (4 * g' + 4)) = true
      by_cases e : g' = g
      · subst e; simp
      · rw [if_neg (by omega), ← h2 g' hg']; simp [e]
    · rcases List.mem_append.1 hg' with h | h
      · exact h3 g' h
      · simp at h; subst h; exact hg
def L65 : List (Nat × Nat × IV) := [(0, 3, .s (.ref 1)), (1, 4, .s (.ptr 0 0 0)), (2, 5, .s (.ptr 0 0 0)), (3, 6, .s (.ptr 0 0 1)), (5, 7, .s (.ptr 0 0 0)), (6, 8, .s (.ptr 0 0 0)), (7, 9, .s (.ptr 0 0 2)), (9, 10, .s (.ptr 0 0 0)), (10, 11, .s (.ptr 0 0 0)), (11, 12, .s (.ptr 0 0 3)), (13, 13, .s (.ptr 0 0 0)), (14, 14, .s (.ptr 0 0 0)), (15, 15, .s (.ptr 0 0 4)), (17, 16, .s (.ptr 0 0 0)), (18, 17, .s (.ptr 0 0 0)), (19, 18, .s (.ptr 0 0 5)), (21, 19, .s (.ptr 0 0 0)), (22, 20, .s (.ptr 0 0 0)), (23, 21, .s (.ptr 0 0 6)), (25, 22, .s (.ref 1)), (26, 2, .s (.ref 1))]
section
variable {P : Program} {X : Ctx} {all : Array Oper} {tm : TM} {H : Heap} {o : Oper} {k J : TM → Heap → Prop} {d : Option Nat} {t : Nat} {p : String} {af : Array Edge} {g : Option (Nat × Bool)}
theorem gd_none (hg : o.guard = none) (h : evOp P X o k tm H) : gd (guardB all tm o.guard) (evOp P X o k) J tm H := by
  rw [hg]; exact ⟨fun _ => h, fun e => by cases e⟩
theorem op_move {x : Operand} (h : k (put tm d (rd tm x)) H) : evOp P X ⟨d, .move x, t, p, af, g⟩ k tm H := ⟨trivial, h⟩
theorem op_assign {x : Operand} (h : k (put tm d (rd tm x)) H) : evOp P X ⟨d, .assign x, t, p, af, g⟩ k tm H := ⟨trivial, h⟩
theorem op_nil {x : Operand} {c i o : Nat} (hx : rd tm x = .s (.ptr c i o)) (h : k (put tm d (.s (.ptr c i o))) H) : evOp P X ⟨d, .nilCheck x, t, p, af, g⟩ k tm H := by
  show stepK (stNilCheck (rd tm x)) k tm d H
  rw [hx]; exact ⟨trivial, h⟩
theorem op_field {T f : Nat} {x : Operand} {c i o off s : Nat} (hx : rd tm x = .s (.ptr c i o)) (ho : offT P T f = some (off, s)) (h : k (put tm d (.s (.ptr c i (o + off)))) H) : evOp P X ⟨d, .fieldAddr T x f, t, p, af, g⟩ k tm H := by
  show stepK (stField P T (rd tm x) f) k tm d H
  rw [hx]; simp only [stField, ho]; exact ⟨trivial, h⟩
end
def I65 (row : List SV) (dn : Nat → Bool) (tm : TM) (H : Heap) : Prop := get tm 0 = .s (.ptr 0 0 0) ∧ Tab L65 dn tm ∧ MapI row dn H
theorem I65.at {row : List SV} {dn : Nat → Bool} {tm : TM} {H : Heap} (h : I65 row dn tm H) {i t : Nat} {v : IV} (hin : (i, t, v) ∈ L65) (hd : dn i = true) : get tm t = v := h.2.1 _ hin hd
theorem I65.put {row : List SV} {dn : Nat → Bool} {tm : TM} {H : Heap} (h : I65 row dn tm H) {i t : Nat} {v : IV} (hin : (i, t, v) ∈ L65) (h0 : i ≠ 0) (ht : t ≠ 0) (hi : ∀ g, g < 6 → 4 * g + 4 ≠ i) : I65 row (fun j => if j = i then true else dn j) (put tm (some t) v) H :=
  ⟨by simp only [Ev.put, get]; rw [if_neg ht]; exact h.1, h.2.1.put (by decide) hin, h.2.2.same h0 hi⟩
theorem f65 (row : List SV) : FunW Try.prog 65 [] [.rows true 16 [row]] [.s (.ptr 0 0 0)] fun r Hn => r = .s (.ref 1) ∧ ∃ s, stampsOK s ∧ Hn = [.rows true 16 [row], fmap 0 s] := by
  refine funW_of fun X => ?_
  refine callK_inline (rs := [.tmp 2]) (n := 23) Try.func65 rfl rfl rfl (by kernel_rfl) (by kernel_rfl) (by simp only [List.length_cons, List.length_nil]; decide) ?_
  repeat' first
  | with_reducible rfl
  | simp only [e_nil, e_cons, e_gd, e_gdt, e_gdf, e_g0, e_g1, e_op, e_step, e_ret, e_put, e_junk, e_skip, e_reg, e_draw, e_seq, e_cond, e_block, e_exit, e_r, e_label, e_loop, q_sn, q_sr, q_se, q_bn, q_br, q_be, q_rr, q_rn, e_res0, e_res1, e_res2, e_b, d_nil, d_cons, d_op, d_step, d_ret, d_put, d_junk, d_inf, d_fin, g_not, g_and, argsTM, stepE, stBuiltin, stBox, stAlloc, stLoad, stStore, stField, stExtract, stBin, stUn, stConv, stNilCheck, stFieldV, stIndex, stIndexAddr, stLen, stMin, stMax, stBuild, fillI, stBuildSlice, setRows, stMakeSlice, stAppend, srcR, segR, rdCells, stSlice, bnd, stArr, stCopy, stConv2, isIntV, cutR, byteRows, rowByte, binStr, Option.map_some, Option.map_none, eq_self, canTL, canT, canH, canL, patL, gcH, gcT, gcI, get_gcT, mapC, pullS, pullI, pushS, push1, pushI, pushC, pullHW, roC, ix, List.map_map, Function.comp_def, List.zip_cons_cons, List.zip_nil_left, List.zip_nil_right, List.range'_zero, List.range'_succ, rd, get, put, IV.cells, ofValue, seg, spl, ldIV, binInt, eqI, cellsEq, leafEq, resI, flat, isT, upd, up1, nextM, cR, ptrC, nAl, isAl, List.length_cons, List.length_nil, List.length_append, List.length_replicate, List.length_set, Nat.reduceAdd, Nat.reduceMul, Nat.reduceEqDiff, Nat.reduceLeDiff, Nat.zero_add, Nat.add_zero, ne_eq, reduceCtorEq, not_false_eq_true, not_true_eq_false, reduceIte, true_and, and_true, and_false, false_and, and_self, List.nil_append, List.cons_append, List.append_nil, List.getElem?_cons_zero, List.getElem?_cons_succ, List.drop_succ_cons, List.drop_zero, List.take_succ_cons, List.take_zero, List.set_cons_zero, List.set_cons_succ, List.getElem?_toArray, Option.bind_some, Bool.false_eq_true, Nat.add_one_ne_zero, Nat.succ_ne_self, List.map_cons, List.map_nil, Bool.not_true, Bool.not_false, List.replicate_succ, List.replicate_zero, List.mem_cons, List.not_mem_nil, or_false, false_or, or_true, true_or, forall_const, false_implies, implies_true, true_implies, Int.reduceToNat, Int.reduceLE, Int.reduceLT, Int.cast_ofNat_Int, bne, Int.reduceEq, Int.reduceNe, Int.reduceNeg, Int.reduceAdd, Int.reduceSub, Int.reduceMul, beq_self_eq_true, Int.reduceBEq, Int.reduceBNe, Bool.true_and, Bool.false_and, Bool.and_true, Bool.and_false, Bool.true_or, Bool.false_or, Bool.or_true, Bool.or_false, Nat.reduceLT, Nat.reduceSub, Nat.zero_min, Nat.min_zero, Nat.min_self, List.flatMap_cons, List.flatMap_nil, Int.toNat_natCast, strEq_self, Bool.not_eq_true', decide_true, decide_false, wl_u8_0, wl_u8_1, wl_u8_2, wl_u8_3, wl_u8_4, wl_u8_5, wl_u8_6, wl_u8_7, wl_u8_8, wl_u8_9, wl_u8_10, wl_u8_11, wl_u8_12, wl_u8_13, wl_u8_14, wl_u8_15, wl_u8_16, wl_u16_0, wl_u16_1, wl_u16_2, wl_u16_3, wl_u16_4, wl_u16_5, wl_u16_6, wl_u16_7, wl_u16_8, wl_u16_9, wl_u16_10, wl_u16_11, wl_u16_12, wl_u16_13, wl_u16_14, wl_u16_15, wl_u16_16, wl_u32_0, wl_u32_1, wl_u32_2, wl_u32_3, wl_u32_4, wl_u32_5, wl_u32_6, wl_u32_7, wl_u32_8, wl_u32_9, wl_u32_10, wl_u32_11, wl_u32_12, wl_u32_13, wl_u32_14, wl_u32_15, wl_u32_16, wl_u64_0, wl_u64_1, wl_u64_2, wl_u64_3, wl_u64_4, wl_u64_5, wl_u64_6, wl_u64_7, wl_u64_8, wl_u64_9, wl_u64_10, wl_u64_11, wl_u64_12, wl_u64_13, wl_u64_14, wl_u64_15, wl_u64_16, wl_i32_0, wl_i32_1, wl_i32_2, wl_i32_3, wl_i32_4, wl_i32_5, wl_i32_6, wl_i32_7, wl_i32_8, wl_i32_9, wl_i32_10, wl_i32_11, wl_i32_12, wl_i32_13, wl_i32_14, wl_i32_15, wl_i32_16, wl_i64_0, wl_i64_1, wl_i64_2, wl_i64_3, wl_i64_4, wl_i64_5, wl_i64_6, wl_i64_7, wl_i64_8, wl_i64_9, wl_i64_10, wl_i64_11, wl_i64_12, wl_i64_13, wl_i64_14, wl_i64_15, wl_i64_16, ty_of_58_1, ty_of_58_2, ty_of_58_3, ty_of_58_4, ty_of_58_5, ty_of_58_6]
  refine drawK_inv hmix (by kernel_rfl) (by kernel_rfl) (I65 row) ?_ ?_ ?_
  · refine ⟨rfl, (fun x hx hd => by simp at hd), ?_⟩
    unfold MapI
    rw [if_neg (by simp)]
    exact ⟨rfl, fun _ _ => rfl⟩
  · intro i o ho dn tm H hI hd haf
    have hlt := (Array.getElem?_eq_some_iff.1 ho).1
    have hcase : i = 0 ∨ i = 1 ∨ i = 2 ∨ i = 3 ∨ i = 4 ∨ i = 5 ∨ i = 6 ∨ i = 7 ∨ i = 8 ∨ i = 9 ∨ i = 10 ∨ i = 11 ∨ i = 12 ∨ i = 13 ∨ i = 14 ∨ i = 15 ∨ i = 16 ∨ i = 17 ∨ i = 18 ∨ i = 19 ∨ i = 20 ∨ i = 21 ∨ i = 22 ∨ i = 23 ∨ i = 24 ∨ i = 25 ∨ i = 26 := by
      have : i < 27 := hlt
      omega
    rcases hcase with rfl | rfl | rfl | rfl | rfl | rfl | rfl | rfl | rfl | rfl | rfl | rfl | rfl | rfl | rfl | rfl | rfl | rfl | rfl | rfl | rfl | rfl | rfl | rfl | rfl | rfl | rfl
    · cases ho
      refine gd_none rfl ?_
      obtain ⟨rfl, hm⟩ := hI.2.2.make hd
      exact makeMap_gen ⟨by simp only [Ev.put, get]; exact hI.1, hI.2.1.put (by decide) (List.mem_of_getElem? (i := 0) rfl), hm⟩
    · cases ho
      refine gd_none rfl ?_
      have e := hI.1
      refine op_move (show I65 _ _ (put _ _ (get tm 0)) _ from ?_)
      rw [e]
      exact hI.put (List.mem_of_getElem? (i := 1) rfl) (by decide) (by decide) (by omega)
    · cases ho
      refine gd_none rfl ?_
      have e := hI.at (i := 1) (t := 4) (v := .s (.ptr 0 0 0)) (List.mem_of_getElem? (i := 1) rfl) (haf _ (by decide))
      refine op_nil e ?_
      exact hI.put (List.mem_of_getElem? (i := 2) rfl) (by decide) (by decide) (by omega)
    · cases ho
      refine gd_none rfl ?_
      have e := hI.at (i := 2) (t := 5) (v := .s (.ptr 0 0 0)) (List.mem_of_getElem? (i := 2) rfl) (haf _ (by decide))
      refine op_field e ty_of_58_1 ?_
      exact hI.put (List.mem_of_getElem? (i := 3) rfl) (by decide) (by decide) (by omega)
    · cases ho
      refine gd_none rfl ?_
      have e3 := hI.at (i := 0) (t := 3) (v := .s (.ref 1)) (List.mem_of_getElem? (i := 0) rfl) (haf _ (by decide))
      have e6 := hI.at (i := 3) (t := 6) (v := .s (.ptr 0 0 1)) (List.mem_of_getElem? (i := 3) rfl) (haf _ (by decide))
      obtain ⟨l, rfl, hnew, hm⟩ := hI.2.2.ins (haf 0 (by decide)) (g := 0) (by decide) hd
      exact insert_gen (c := 1) (clock := l.length) (es := mapOf l) (v := fkey 0) (x := .s (.ptr 0 0 1)) und128 und3 e3 rfl e6 (by intro l h; cases h) rfl hnew ⟨hI.1, hI.2.1.none (by decide), hm⟩
    · cases ho
      refine gd_none rfl ?_
      have e := hI.1
      refine op_move (show I65 _ _ (put _ _ (get tm 0)) _ from ?_)
      rw [e]
      exact hI.put (List.mem_of_getElem? (i := 4) rfl) (by decide) (by decide) (by omega)
    · cases ho
      refine gd_none rfl ?_
      have e := hI.at (i := 5) (t := 7) (v := .s (.ptr 0 0 0)) (List.mem_of_getElem? (i := 4) rfl) (haf _ (by decide))
      refine op_nil e ?_
      exact hI.put (List.mem_of_getElem? (i := 5) rfl) (by decide) (by decide) (by omega)
    · cases ho
      refine gd_none rfl ?_
      have e := hI.at (i := 6) (t := 8) (v := .s (.ptr 0 0 0)) (List.mem_of_getElem? (i := 5) rfl) (haf _ (by decide))
      refine op_field e ty_of_58_2 ?_
      exact hI.put (List.mem_of_getElem? (i := 6) rfl) (by decide) (by decide) (by omega)
    · cases ho
      refine gd_none rfl ?_
      have e3 := hI.at (i := 0) (t := 3) (v := .s (.ref 1)) (List.mem_of_getElem? (i := 0) rfl) (haf _ (by decide))
      have e6 := hI.at (i := 7) (t := 9) (v := .s (.ptr 0 0 2)) (List.mem_of_getElem? (i := 6) rfl) (haf _ (by decide))
      obtain ⟨l, rfl, hnew, hm⟩ := hI.2.2.ins (haf 0 (by decide)) (g := 1) (by decide) hd
      exact insert_gen (c := 1) (clock := l.length) (es := mapOf l) (v := fkey 1) (x := .s (.ptr 0 0 2)) und128 und3 e3 rfl e6 (by intro l h; cases h) rfl hnew ⟨hI.1, hI.2.1.none (by decide), hm⟩
    · cases ho
      refine gd_none rfl ?_
      have e := hI.1
      refine op_move (show I65 _ _ (put _ _ (get tm 0)) _ from ?_)
      rw [e]
      exact hI.put (List.mem_of_getElem? (i := 7) rfl) (by decide) (by decide) (by omega)
    · cases ho
      refine gd_none rfl ?_
      have e := hI.at (i := 9) (t := 10) (v := .s (.ptr 0 0 0)) (List.mem_of_getElem? (i := 7) rfl) (haf _ (by decide))
      refine op_nil e ?_
      exact hI.put (List.mem_of_getElem? (i := 8) rfl) (by decide) (by decide) (by omega)
    · cases ho
      refine gd_none rfl ?_
      have e := hI.at (i := 10) (t := 11) (v := .s (.ptr 0 0 0)) (List.mem_of_getElem? (i := 8) rfl) (haf _ (by decide))
      refine op_field e ty_of_58_3 ?_
      exact hI.put (List.mem_of_getElem? (i := 9) rfl) (by decide) (by decide) (by omega)
    · cases ho
      refine gd_none rfl ?_
      have e3 := hI.at (i := 0) (t := 3) (v := .s (.ref 1)) (List.mem_of_getElem? (i := 0) rfl) (haf _ (by decide))
      have e6 := hI.at (i := 11) (t := 12) (v := .s (.ptr 0 0 3)) (List.mem_of_getElem? (i := 9) rfl) (haf _ (by decide))
      obtain ⟨l, rfl, hnew, hm⟩ := hI.2.2.ins (haf 0 (by decide)) (g := 2) (by decide) hd
      exact insert_gen (c := 1) (clock := l.length) (es := mapOf l) (v := fkey 2) (x := .s (.ptr 0 0 3)) und128 und3 e3 rfl e6 (by intro l h; cases h) rfl hnew ⟨hI.1, hI.2.1.none (by decide), hm⟩
    · cases ho
      refine gd_none rfl ?_
      have e := hI.1
      refine op_move (show I65 _ _ (put _ _ (get tm 0)) _ from ?_)
      rw [e]
      exact hI.put (List.mem_of_getElem? (i := 10) rfl) (by decide) (by decide) (by omega)
    · cases ho
      refine gd_none rfl ?_
      have e := hI.at (i := 13) (t := 13) (v := .s (.ptr 0 0 0)) (List.mem_of_getElem? (i := 10) rfl) (haf _ (by decide))
      refine op_nil e ?_
      exact hI.put (List.mem_of_getElem? (i := 11) rfl) (by decide) (by decide) (by omega)
    · cases ho
      refine gd_none rfl ?_
      have e := hI.at (i := 14) (t := 14) (v := .s (.ptr 0 0 0)) (List.mem_of_getElem? (i := 11) rfl) (haf _ (by decide))
      refine op_field e ty_of_58_4 ?_
      exact hI.put (List.mem_of_getElem? (i := 12) rfl) (by decide) (by decide) (by omega)
    · cases ho
      refine gd_none rfl ?_
      have e3 := hI.at (i := 0) (t := 3) (v := .s (.ref 1)) (List.mem_of_getElem? (i := 0) rfl) (haf _ (by decide))
      have e6 := hI.at (i := 15) (t := 15) (v := .s (.ptr 0 0 4)) (List.mem_of_getElem? (i := 12) rfl) (haf _ (by decide))
      obtain ⟨l, rfl, hnew, hm⟩ := hI.2.2.ins (haf 0 (by decide)) (g := 3) (by decide) hd
      exact insert_gen (c := 1) (clock := l.length) (es := mapOf l) (v := fkey 3) (x := .s (.ptr 0 0 4)) und128 und3 e3 rfl e6 (by intro l h; cases h) rfl hnew ⟨hI.1, hI.2.1.none (by decide), hm⟩
    · cases ho
      refine gd_none rfl ?_
      have e := hI.1
      refine op_move (show I65 _ _ (put _ _ (get tm 0)) _ from ?_)
      rw [e]
      exact hI.put (List.mem_of_getElem? (i := 13) rfl) (by decide) (by decide) (by omega)
    · cases ho
      refine gd_none rfl ?_
      have e := hI.at (i := 17) (t := 16) (v := .s (.ptr 0 0 0)) (List.mem_of_getElem? (i := 13) rfl) (haf _ (by decide))
      refine op_nil e ?_
      exact hI.put (List.mem_of_getElem? (i := 14) rfl) (by decide) (by decide) (by omega)
    · cases ho
      refine gd_none rfl ?_
      have e := hI.at (i := 18) (t := 17) (v := .s (.ptr 0 0 0)) (List.mem_of_getElem? (i := 14) rfl) (haf _ (by decide))
      refine op_field e ty_of_58_5 ?_
      exact hI.put (List.mem_of_getElem? (i := 15) rfl) (by decide) (by decide) (by omega)
    · cases ho
      refine gd_none rfl ?_
      have e3 := hI.at (i := 0) (t := 3) (v := .s (.ref 1)) (List.mem_of_getElem? (i := 0) rfl) (haf _ (by decide))
      have e6 := hI.at (i := 19) (t := 18) (v := .s (.ptr 0 0 5)) (List.mem_of_getElem? (i := 15) rfl) (haf _ (by decide))
      obtain ⟨l, rfl, hnew, hm⟩ := hI.2.2.ins (haf 0 (by decide)) (g := 4) (by decide) hd
      exact insert_gen (c := 1) (clock := l.length) (es := mapOf l) (v := fkey 4) (x := .s (.ptr 0 0 5)) und128 und3 e3 rfl e6 (by intro l h; cases h) rfl hnew ⟨hI.1, hI.2.1.none (by decide), hm⟩
    · cases ho
      refine gd_none rfl ?_
      have e := hI.1
      refine op_move (show I65 _ _ (put _ _ (get tm 0)) _ from ?_)
      rw [e]
      exact hI.put (List.mem_of_getElem? (i := 16) rfl) (by decide) (by decide) (by omega)
    · cases ho
      refine gd_none rfl ?_
      have e := hI.at (i := 21) (t := 19) (v := .s (.ptr 0 0 0)) (List.mem_of_getElem? (i := 16) rfl) (haf _ (by decide))
      refine op_nil e ?_
      exact hI.put (List.mem_of_getElem? (i := 17) rfl) (by decide) (by decide) (by omega)
    · cases ho
      refine gd_none rfl ?_
      have e := hI.at (i := 22) (t := 20) (v := .s (.ptr 0 0 0)) (List.mem_of_getElem? (i := 17) rfl) (haf _ (by decide))
      refine op_field e ty_of_58_6 ?_
      exact hI.put (List.mem_of_getElem? (i := 18) rfl) (by decide) (by decide) (by omega)
    · cases ho
      refine gd_none rfl ?_
      have e3 := hI.at (i := 0) (t := 3) (v := .s (.ref 1)) (List.mem_of_getElem? (i := 0) rfl) (haf _ (by decide))
      have e6 := hI.at (i := 23) (t := 21) (v := .s (.ptr 0 0 6)) (List.mem_of_getElem? (i := 18) rfl) (haf _ (by decide))
      obtain ⟨l, rfl, hnew, hm⟩ := hI.2.2.ins (haf 0 (by decide)) (g := 5) (by decide) hd
      exact insert_gen (c := 1) (clock := l.length) (es := mapOf l) (v := fkey 5) (x := .s (.ptr 0 0 6)) und128 und3 e3 rfl e6 (by intro l h; cases h) rfl hnew ⟨hI.1, hI.2.1.none (by decide), hm⟩
    · cases ho
      refine gd_none rfl ?_
      have e := hI.at (i := 0) (t := 3) (v := .s (.ref 1)) (List.mem_of_getElem? (i := 0) rfl) (haf _ (by decide))
      refine op_move (show I65 _ _ (put _ _ (get tm 3)) _ from ?_)
      rw [e]
      exact hI.put (List.mem_of_getElem? (i := 19) rfl) (by decide) (by decide) (by omega)
    · cases ho
      refine gd_none rfl ?_
      have e := hI.at (i := 25) (t := 22) (v := .s (.ref 1)) (List.mem_of_getElem? (i := 19) rfl) (haf _ (by decide))
      refine op_assign (show I65 _ _ (put _ _ (get tm 22)) _ from ?_)
      rw [e]
      exact hI.put (List.mem_of_getElem? (i := 20) rfl) (by decide) (by decide) (by omega)
  · intro dn tm H hall hI
    have e2 := hI.at (i := 26) (t := 2) (v := .s (.ref 1)) (List.mem_of_getElem? (i := 20) rfl) (hall 26 (by decide))
    have hm := hI.2.2
    unfold MapI at hm
    rw [if_pos (hall 0 (by decide))] at hm
    obtain ⟨l, h1, h2, h3, rfl⟩ := hm
    obtain ⟨s, hs, hl, hp⟩ := mapOf_perm h1 (fun g hg => (h2 g hg).2 (hall _ (by show 4 * g + 4 < 27; omega))) h3
    repeat' first
    | with_reducible rfl
    | simp only [e2, e_nil, e_cons, e_gd, e_gdt, e_gdf, e_g0, e_g1, e_op, e_step, e_ret, e_put, e_junk, e_skip, e_reg, e_draw, e_seq, e_cond, e_block, e_exit, e_r, e_label, e_loop, q_sn, q_sr, q_se, q_bn, q_br, q_be, q_rr, q_rn, e_res0, e_res1, e_res2, e_b, d_nil, d_cons, d_op, d_step, d_ret, d_put, d_junk, d_inf, d_fin, g_not, g_and, argsTM, stepE, stBuiltin, stBox, stAlloc, stLoad, stStore, stField, stExtract, stBin, stUn, stConv, stNilCheck, stFieldV, stIndex, stIndexAddr, stLen, stMin, stMax, stBuild, fillI, stBuildSlice, setRows, stMakeSlice, stAppend, srcR, segR, rdCells, stSlice, bnd, stArr, stCopy, stConv2, isIntV, cutR, byteRows, rowByte, binStr, Option.map_some, Option.map_none, eq_self, canTL, canT, canH, canL, patL, gcH, gcT, gcI, get_gcT, mapC, pullS, pullI, pushS, push1, pushI, pushC, pullHW, roC, ix, List.map_map, Function.comp_def, List.zip_cons_cons, List.zip_nil_left, List.zip_nil_right, List.range'_zero, List.range'_succ, rd, get, put, IV.cells, ofValue, seg, spl, ldIV, binInt, eqI, cellsEq, leafEq, resI, flat, isT, upd, up1, nextM, cR, ptrC, nAl, isAl, List.length_cons, List.length_nil, List.length_append, List.length_replicate, List.length_set, Nat.reduceAdd, Nat.reduceMul, Nat.reduceEqDiff, Nat.reduceLeDiff, Nat.zero_add, Nat.add_zero, ne_eq, reduceCtorEq, not_false_eq_true, not_true_eq_false, reduceIte, true_and, and_true, and_false, false_and, and_self, List.nil_append, List.cons_append, List.append_nil, List.getElem?_cons_zero, List.getElem?_cons_succ, List.drop_succ_cons, List.drop_zero, List.take_succ_cons, List.take_zero, List.set_cons_zero, List.set_cons_succ, List.getElem?_toArray, Option.bind_some, Bool.false_eq_true, Nat.add_one_ne_zero, Nat.succ_ne_self, List.map_cons, List.map_nil, Bool.not_true, Bool.not_false, List.replicate_succ, List.replicate_zero, List.mem_cons, List.not_mem_nil, or_false, false_or, or_true, true_or, forall_const, false_implies, implies_true, true_implies, Int.reduceToNat, Int.reduceLE, Int.reduceLT, Int.cast_ofNat_Int, bne, Int.reduceEq, Int.reduceNe, Int.reduceNeg, Int.reduceAdd, Int.reduceSub, Int.reduceMul, beq_self_eq_true, Int.reduceBEq, Int.reduceBNe, Bool.true_and, Bool.false_and, Bool.and_true, Bool.and_false, Bool.true_or, Bool.false_or, Bool.or_true, Bool.or_false, Nat.reduceLT, Nat.reduceSub, Nat.zero_min, Nat.min_zero, Nat.min_self, List.flatMap_cons, List.flatMap_nil, Int.toNat_natCast, strEq_self, Bool.not_eq_true', decide_true, decide_false, wl_u8_0, wl_u8_1, wl_u8_2, wl_u8_3, wl_u8_4, wl_u8_5, wl_u8_6, wl_u8_7, wl_u8_8, wl_u8_9, wl_u8_10, wl_u8_11, wl_u8_12, wl_u8_13, wl_u8_14, wl_u8_15, wl_u8_16, wl_u16_0, wl_u16_1, wl_u16_2, wl_u16_3, wl_u16_4, wl_u16_5, wl_u16_6, wl_u16_7, wl_u16_8, wl_u16_9, wl_u16_10, wl_u16_11, wl_u16_12, wl_u16_13, wl_u16_14, wl_u16_15, wl_u16_16, wl_u32_0, wl_u32_1, wl_u32_2, wl_u32_3, wl_u32_4, wl_u32_5, wl_u32_6, wl_u32_7, wl_u32_8, wl_u32_9, wl_u32_10, wl_u32_11, wl_u32_12, wl_u32_13, wl_u32_14, wl_u32_15, wl_u32_16, wl_u64_0, wl_u64_1, wl_u64_2, wl_u64_3, wl_u64_4, wl_u64_5, wl_u64_6, wl_u64_7, wl_u64_8, wl_u64_9, wl_u64_10, wl_u64_11, wl_u64_12, wl_u64_13, wl_u64_14, wl_u64_15, wl_u64_16, wl_i32_0, wl_i32_1, wl_i32_2, wl_i32_3, wl_i32_4, wl_i32_5, wl_i32_6, wl_i32_7, wl_i32_8, wl_i32_9, wl_i32_10, wl_i32_11, wl_i32_12, wl_i32_13, wl_i32_14, wl_i32_15, wl_i32_16, wl_i64_0, wl_i64_1, wl_i64_2, wl_i64_3, wl_i64_4, wl_i64_5, wl_i64_6, wl_i64_7, wl_i64_8, wl_i64_9, wl_i64_10, wl_i64_11, wl_i64_12, wl_i64_13, wl_i64_14, wl_i64_15, wl_i64_16, ty_of_58_1, ty_of_58_2, ty_of_58_3, ty_of_58_4, ty_of_58_5, ty_of_58_6]
    rw [hl]
    exact ⟨_, _, WkR.perm (c := 1) rfl hp, by simp, rfl, s, hs, rfl⟩
end Go.Ev
