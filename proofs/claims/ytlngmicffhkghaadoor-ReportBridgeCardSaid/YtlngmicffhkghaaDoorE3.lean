/- A part of the proof: contracts of the functions that the statement reaches. -/
import Derived.Test.YtlngmicffhkghaaDoorE2
import Derived.Test.YtlngmicffhkghaaDoorEvTab3
namespace Go.Ev
open Go.RowKit Go.Proofs
set_option maxRecDepth 100000
set_option linter.unusedSimpArgs false
set_option linter.unusedVariables false
set_option maxHeartbeats 4000000
structure PR where
  r : Int
  s : Int
  c : Nat
  deriving Inhabited
def portR (p : PR) : List SV := [.raw (.int .u16 0), .raw (.int .i64 0), .raw (.bool false), .raw (.int .u32 (p.c : Int)), .raw (.int .i64 0), .raw (.bool false), .raw (.bool false), .raw (.bool false), .raw (.bool false), .raw (.bool false), .raw (.int .i64 p.r), .raw (.int .i64 p.s), .raw (.int .i64 0), .raw (.int .u64 0), .raw (.int .u32 0), .raw (.int .u64 0), .raw (.int .u16 0), .raw (.int .i64 0), .raw (.int .i64 0), .raw (.int .i64 0), .raw (.int .i64 0)]
def headS (pr : Nat) (d : Int) (nf : Nat) : ByteArray := joinB [⟨#[98, 114, 105, 100, 103, 101]⟩, decB pr, macOf d, ⟨#[115, 116, 97, 116, 105, 111, 110, 115]⟩, decB nf] ⟨#[32]⟩
def lineP (i : Nat) (p : PR) : ByteArray := joinB [⟨#[112, 111, 114, 116]⟩, decB (i + 1), nameS roleN p.r, nameS stateN p.s, ⟨#[99, 111, 115, 116]⟩, decB p.c] ⟨#[32]⟩
def lastS (l : List Nat) : ByteArray := joinB [⟨#[99, 111, 117, 110, 116, 115]⟩, showL l] ⟨#[32]⟩
def lnsP (ps : List PR) : Nat → List ByteArray
  | 0 => []
  | i + 1 => lnsP ps i ++ [lineP i ((ps[i]?).getD default)]
def outP (pr : Nat) (d : Int) (nf : Nat) (ps : List PR) (i : Nat) : List ByteArray := headS pr d nf :: lnsP ps i
theorem lns_len (ps : List PR) : ∀ i, (lnsP ps i).length = i
  | 0 => rfl
  | i + 1 => by rw [lnsP, List.length_append, lns_len ps i]; rfl
theorem tail_le (sep : List UInt8) (hs : sep.length = 1) : ∀ (l : List (List UInt8)), (∀ x ∈ l, x.length ≤ 1000) → (Lib.joinTail sep l).length ≤ l.length * 1001
  | [], _ => by simp [Lib.joinTail]
  | x :: l, h => by
    have ih := tail_le sep hs l fun y hy => h y (List.mem_cons_of_mem _ hy)
    have hx := h x (by simp)
    simp only [Lib.joinTail, List.map_cons, List.flatten_cons, List.length_append, List.length_cons] at ih ⊢
    omega
theorem join_le (xs : List ByteArray) (h : ∀ x ∈ xs, x.size ≤ 1000) (hl : xs.length ≤ 100) : (Lib.join (xs.map (·.data.toList)) (⟨#[32]⟩ : ByteArray).data.toList).length ≤ 140737488355328 := by
  cases xs with
  | nil => rw [List.map_nil, Lib.join_nil]; simp
  | cons x r =>
    have hx := h x (by simp)
    have hj := tail_le (⟨#[32]⟩ : ByteArray).data.toList rfl (r.map (·.data.toList)) fun y hy => by
      obtain ⟨z, hz, rfl⟩ := List.mem_map.1 hy
      exact h z (List.mem_cons_of_mem _ hz)
    rw [List.map_cons, Lib.join_cons, List.length_append]
    have e : x.data.toList.length = x.size := rfl
    rw [List.length_map] at hj
    simp only [List.length_cons] at hl
    omega
theorem name_size (ss : List ByteArray) (n : Int) (h : ∀ x ∈ ss, x.size ≤ 1000) : (nameS ss n).size ≤ 1000 := by
  unfold nameS
  split
  · decide
  · split
    · decide
    · cases hx : ss[n.toNat]? with
      | none => decide
      | some x => exact h x (List.mem_of_getElem? hx)
theorem role_size (n : Int) : (nameS roleN n).size ≤ 1000 := name_size roleN n (by decide)
theorem state_size (n : Int) : (nameS stateN n).size ≤ 1000 := name_size stateN n (by decide)
theorem dec_size (u : Nat) (h : u ≤ 4294967295) : (decB u).size ≤ 1000 := by have := nd20 u h; rw [decB_size]; omega
theorem mac_size (d : Int) : (macOf d).size ≤ 1000 := by
  have : (macOf d).size = 17 := rfl
  omega
theorem showL_size (u : Nat) (l : List Nat) (h : ∀ x ∈ u :: l, x ≤ 4294967295) (hl : l.length ≤ 20) : (showL (u :: l)).size ≤ 1000 := by
  have hd := nd20 u (h u (by simp))
  have e : (decB u).data.toList.length = Lib.nDigits u := by rw [← decB_size u]; rfl
  have hj := jt_len (⟨#[32]⟩ : ByteArray).data.toList l fun x hx => h x (List.mem_cons_of_mem _ hx)
  have e2 : (⟨#[32]⟩ : ByteArray).data.toList.length = 1 := rfl
  rw [e2] at hj
  have e3 : (showL (u :: l)).size = (Lib.join (((u :: l).map decB).map (·.data.toList)) (⟨#[32]⟩ : ByteArray).data.toList).length := by
    simp [showL, joinB, ByteArray.size]
  rw [e3, List.map_cons, List.map_cons, Lib.join_cons, List.length_append, e]
  have : l.length * (1 + 20) ≤ 20 * 21 := Nat.mul_le_mul_right 21 hl
  omega
theorem words_head (pr nf : Nat) (d : Int) (h1 : pr ≤ 4294967295) (h2 : nf ≤ 4294967295) : FunR Tryd.prog 22 [.rows false 1 [[.raw (.string ⟨#[98, 114, 105, 100, 103, 101]⟩)], [.raw (.string (decB pr))], [.raw (.string (macOf d))], [.raw (.string ⟨#[115, 116, 97, 116, 105, 111, 110, 115]⟩)], [.raw (.string (decB nf))]]] [.s (.slice 0 0 5)] (.s (.raw (.string (headS pr d nf)))) := f22 [⟨#[98, 114, 105, 100, 103, 101]⟩, decB pr, macOf d, ⟨#[115, 116, 97, 116, 105, 111, 110, 115]⟩, decB nf] (by simp) (join_le _ (by
  intro x hx
  simp only [List.mem_cons, List.not_mem_nil, or_false] at hx
  rcases hx with rfl | rfl | rfl | rfl | rfl
  · decide
  · exact dec_size _ h1
  · exact mac_size d
  · decide
  · exact dec_size _ h2) (by simp))
theorem words_port (i : Nat) (p : PR) (h1 : i + 1 ≤ 4294967295) (h2 : p.c ≤ 4294967295) : FunR Tryd.prog 22 [.rows false 1 [[.raw (.string ⟨#[112, 111, 114, 116]⟩)], [.raw (.string (decB (i + 1)))], [.raw (.string (nameS roleN p.r))], [.raw (.string (nameS stateN p.s))], [.raw (.string ⟨#[99, 111, 115, 116]⟩)], [.raw (.string (decB p.c))]]] [.s (.slice 0 0 6)] (.s (.raw (.string (lineP i p)))) := f22 [⟨#[112, 111, 114, 116]⟩, decB (i + 1), nameS roleN p.r, nameS stateN p.s, ⟨#[99, 111, 115, 116]⟩, decB p.c] (by simp) (join_le _ (by
  intro x hx
  simp only [List.mem_cons, List.not_mem_nil, or_false] at hx
  rcases hx with rfl | rfl | rfl | rfl | rfl | rfl
  · decide
  · exact dec_size _ h1
  · exact role_size _
  · exact state_size _
  · decide
  · exact dec_size _ h2) (by simp))
theorem words_last (u : Nat) (l : List Nat) (h : ∀ x ∈ u :: l, x ≤ 4294967295) (hl : l.length ≤ 20) : FunR Tryd.prog 22 [.rows false 1 [[.raw (.string ⟨#[99, 111, 117, 110, 116, 115]⟩)], [.raw (.string (showL (u :: l)))]]] [.s (.slice 0 0 2)] (.s (.raw (.string (lastS (u :: l))))) := f22 [⟨#[99, 111, 117, 110, 116, 115]⟩, showL (u :: l)] (by simp) (join_le _ (by
  intro x hx
  simp only [List.mem_cons, List.not_mem_nil, or_false] at hx
  rcases hx with rfl | rfl
  · decide
  · exact showL_size u l h hl) (by simp))
def I17 (d : Int) (pr nf kf : Nat) (ps : List PR) (fd : List (List SV)) (c0 c1 c2 c3 c4 c5 c6 c7 c8 c9 c10 c11 c12 c13 : Nat) (m : Nat) (tm : TM) (H : Heap) : Prop := ∃ i : Nat, m = ps.length - i ∧ i ≤ ps.length ∧ get tm 1 = .s (.ptr 2 0 0) ∧ get tm 4 = .s (.slice 3 0 (i + 1)) ∧ get tm 25 = .s (.slice 0 0 ps.length) ∧ get tm 26 = .s (.raw (.int .i64 (ps.length : Int))) ∧ get tm 27 = .s (.raw (.int .i64 (i : Int))) ∧
  H = [.rows false 21 (ps.map portR), .rows false kf fd, .rows true 25 [[.raw (.int .u64 d), .raw (.int .i64 0), .raw (.int .i64 0), .raw (.int .i64 0), .raw (.int .i64 0), .raw (.int .i64 0), .slice 0 0 ps.length, .raw (.slice none 0 0), .raw (.slice none 0 0), .slice 1 0 nf, .raw (.int .u32 (c0 : Int)), .raw (.int .u32 (c1 : Int)), .raw (.int .u32 (c2 : Int)), .raw (.int .u32 (c3 : Int)), .raw (.int .u32 (c4 : Int)), .raw (.int .u32 (c5 : Int)), .raw (.int .u32 (c6 : Int)), .raw (.int .u32 (c7 : Int)), .raw (.int .u32 (c8 : Int)), .raw (.int .u32 (c9 : Int)), .raw (.int .u32 (c10 : Int)), .raw (.int .u32 (c11 : Int)), .raw (.int .u32 (c12 : Int)), .raw (.int .u32 (c13 : Int)), .raw (.int .i64 0)]], .rows true 1 ((outP pr d nf ps i).map sC)]
theorem f17 (d : Int) (pr nf kf : Nat) (ps : List PR) (fd : List (List SV)) (c0 c1 c2 c3 c4 c5 c6 c7 c8 c9 c10 c11 c12 c13 : Nat) (hpr : prioI d = (pr : Int)) (hpr2 : pr ≤ 65535) (hnf : nf ≤ 4294967295) (hps : ps.length ≤ 1000) (hpc : ∀ p ∈ ps, p.c ≤ 4294967295) (h0 : c0 ≤ 4294967295) (h1 : c1 ≤ 4294967295) (h2 : c2 ≤ 4294967295) (h3 : c3 ≤ 4294967295) (h4 : c4 ≤ 4294967295) (h5 : c5 ≤ 4294967295) (h6 : c6 ≤ 4294967295) (h7 : c7 ≤ 4294967295) (h8 : c8 ≤ 4294967295) (h9 : c9 ≤ 4294967295) (h10 : c10 ≤ 4294967295) (h11 : c11 ≤ 4294967295) (h12 : c12 ≤ 4294967295) (h13 : c13 ≤ 4294967295) (hfd : ∀ σ : List Nat, fd.map (fun r => r.map (pullS σ)) = fd) :
    FunWT TB Tryd.prog 17 [.rows false 21 (ps.map portR), .rows false kf fd] [.a [.raw (.int .u64 d), .raw (.int .i64 0), .raw (.int .i64 0), .raw (.int .i64 0), .raw (.int .i64 0), .raw (.int .i64 0), .slice 0 0 ps.length, .raw (.slice none 0 0), .raw (.slice none 0 0), .slice 1 0 nf, .raw (.int .u32 (c0 : Int)), .raw (.int .u32 (c1 : Int)), .raw (.int .u32 (c2 : Int)), .raw (.int .u32 (c3 : Int)), .raw (.int .u32 (c4 : Int)), .raw (.int .u32 (c5 : Int)), .raw (.int .u32 (c6 : Int)), .raw (.int .u32 (c7 : Int)), .raw (.int .u32 (c8 : Int)), .raw (.int .u32 (c9 : Int)), .raw (.int .u32 (c10 : Int)), .raw (.int .u32 (c11 : Int)), .raw (.int .u32 (c12 : Int)), .raw (.int .u32 (c13 : Int)), .raw (.int .i64 0)]] fun r Hn => r = .s (.slice 2 0 (ps.length + 2)) ∧ Hn = [.rows true 1 ((headS pr d nf :: (lnsP ps ps.length ++ [lastS [c0, c1, c2, c3, c4, c5, c6, c7, c8, c9, c10, c11, c12, c13]])).map sC)] := by
  refine funWT_of (by kernel_rfl) fun X hX => ?_
  have hT := hX.tt
  have wpr : IntKind.i64.wrap (pr : Int) = (pr : Int) := wr_i64 (by omega) (by omega)
  have n23 := f23 pr (by omega)
  have m23 := f23 nf hnf
  have c22 := words_head pr nf d (by omega) hnf
  have pullP : ∀ σ : List Nat, (ps.map portR).map (fun r => r.map (pullS σ)) = ps.map portR := fun σ => by rw [List.map_map]; rfl
  have pullL : ∀ (σ : List Nat) (l : List ByteArray), (l.map sC).map (fun r => r.map (pullS σ)) = l.map sC := fun σ l => by rw [List.map_map]; rfl
  refine callK_inline (rs := [.tmp 2]) (n := 61) Tryd.func17 rfl rfl rfl (by kernel_rfl) (by kernel_rfl) (by simp only [List.length_cons, List.length_nil]; decide) ?_
  repeat' first
    | with_reducible rfl
    | simp only [hpr, wpr, encM, e_nil, e_cons, e_gd, e_gdt, e_gdf, e_g0, e_g1, e_op, e_step, e_ret, e_put, e_junk, e_skip, e_reg, e_draw, e_seq, e_cond, e_block, e_exit, e_r, e_label, e_loop, q_sn, q_sr, q_se, q_bn, q_br, q_be, q_rr, q_rn, e_res0, e_res1, e_res2, e_b, d_nil, d_cons, d_op, d_step, d_ret, d_put, d_junk, d_inf, d_fin, g_not, g_and, argsTM, stepE, stBuiltin, stBox, stAlloc, stLoad, stStore, stField, stExtract, stBin, stUn, stConv, stNilCheck, stFieldV, stIndex, stIndexAddr, stLen, stMin, stMax, stBuild, fillI, stBuildSlice, setRows, stMakeSlice, stAppend, srcR, segR, rdCells, stSlice, bnd, stArr, stCopy, stConv2, isIntV, cutR, byteRows, rowByte, binStr, Option.map_some, Option.map_none, eq_self, canTL, canT, canH, canL, patL, gcH, gcT, gcI, get_gcT, mapC, pullS, pullI, pushS, push1, pushI, pushC, pullHW, roC, ix, List.map_map, Function.comp_def, List.zip_cons_cons, List.zip_nil_left, List.zip_nil_right, List.range'_zero, List.range'_succ, rd, get, put, IV.cells, ofValue, seg, spl, ldIV, binInt, eqI, cellsEq, leafEq, resI, flat, isT, upd, up1, nextM, cR, ptrC, nAl, isAl, List.length_cons, List.length_nil, List.length_append, List.length_replicate, List.length_set, Nat.reduceAdd, Nat.reduceMul, Nat.reduceEqDiff, Nat.reduceLeDiff, Nat.zero_add, Nat.add_zero, ne_eq, reduceCtorEq, not_false_eq_true, not_true_eq_false, reduceIte, true_and, and_true, and_false, false_and, and_self, List.nil_append, List.cons_append, List.append_nil, List.getElem?_cons_zero, List.getElem?_cons_succ, List.drop_succ_cons, List.drop_zero, List.take_succ_cons, List.take_zero, List.set_cons_zero, List.set_cons_succ, List.getElem?_toArray, Option.bind_some, Bool.false_eq_true, Nat.add_one_ne_zero, Nat.succ_ne_self, List.map_cons, List.map_nil, Bool.not_true, Bool.not_false, List.replicate_succ, List.replicate_zero, List.mem_cons, List.not_mem_nil, or_false, false_or, or_true, true_or, forall_const, false_implies, implies_true, true_implies, Int.reduceToNat, Int.reduceLE, Int.reduceLT, Int.cast_ofNat_Int, bne, Int.reduceEq, Int.reduceNe, Int.reduceNeg, Int.reduceAdd, Int.reduceSub, Int.reduceMul, beq_self_eq_true, Int.reduceBEq, Int.reduceBNe, Bool.true_and, Bool.false_and, Bool.and_true, Bool.and_false, Bool.true_or, Bool.false_or, Bool.or_true, Bool.or_false, Nat.reduceLT, Nat.reduceSub, Nat.zero_min, Nat.min_zero, Nat.min_self, List.flatMap_cons, List.flatMap_nil, Int.toNat_natCast, strEq_self, Bool.not_eq_true', decide_true, decide_false, wl_u8_0, wl_u8_1, wl_u8_2, wl_u8_3, wl_u8_4, wl_u8_5, wl_u8_6, wl_u8_7, wl_u8_8, wl_u8_9, wl_u8_10, wl_u8_11, wl_u8_12, wl_u8_13, wl_u8_14, wl_u8_15, wl_u8_16, wl_u16_0, wl_u16_1, wl_u16_2, wl_u16_3, wl_u16_4, wl_u16_5, wl_u16_6, wl_u16_7, wl_u16_8, wl_u16_9, wl_u16_10, wl_u16_11, wl_u16_12, wl_u16_13, wl_u16_14, wl_u16_15, wl_u16_16, wl_u32_0, wl_u32_1, wl_u32_2, wl_u32_3, wl_u32_4, wl_u32_5, wl_u32_6, wl_u32_7, wl_u32_8, wl_u32_9, wl_u32_10, wl_u32_11, wl_u32_12, wl_u32_13, wl_u32_14, wl_u32_15, wl_u32_16, wl_u64_0, wl_u64_1, wl_u64_2, wl_u64_3, wl_u64_4, wl_u64_5, wl_u64_6, wl_u64_7, wl_u64_8, wl_u64_9, wl_u64_10, wl_u64_11, wl_u64_12, wl_u64_13, wl_u64_14, wl_u64_15, wl_u64_16, wl_i32_0, wl_i32_1, wl_i32_2, wl_i32_3, wl_i32_4, wl_i32_5, wl_i32_6, wl_i32_7, wl_i32_8, wl_i32_9, wl_i32_10, wl_i32_11, wl_i32_12, wl_i32_13, wl_i32_14, wl_i32_15, wl_i32_16, wl_i64_0, wl_i64_1, wl_i64_2, wl_i64_3, wl_i64_4, wl_i64_5, wl_i64_6, wl_i64_7, wl_i64_8, wl_i64_9, wl_i64_10, wl_i64_11, wl_i64_12, wl_i64_13, wl_i64_14, wl_i64_15, wl_i64_16, Tryd.underlying22, Tryd.underlying3, Tryd.underlying30, Tryd.underlying55, ty_ag_22, ty_ag_26, ty_ag_3, ty_ag_38, ty_ag_41, ty_ag_42, ty_ag_61, ty_ar_62, ty_ar_63, ty_by_52, ty_of_40_0, ty_of_46_0, ty_of_46_1, ty_of_46_4, ty_of_46_5, ty_of_61_1, ty_of_61_8, ty_of_61_9, ty_sl_41, ty_sl_42, ty_sr_52, ty_sz_22, ty_sz_26, ty_sz_3, ty_sz_38, ty_sz_41, ty_sz_42, ty_sz_61, ty_ze_61, ty_zs_52]
    | with_reducible refine gdb_split (fun h => ?_) (fun h => ?_)
    | (with_reducible refine drawK_id ?_); refine drawK_auto hmix (by kernel_rfl) ?_
    | (with_reducible refine draw_fin ?_ ?_); · kernel_rfl
    | (with_reducible refine draw_id ?_); kernel_rfl
    | (with_reducible refine callD_id (f := 24) ?_); refine callD_of (f24 d) rfl rfl ?_
    | (with_reducible refine callD_id (f := 25) ?_); refine callD_of (f25 d) rfl rfl ?_
    | (with_reducible refine callD_id (f := 26) ?_); refine callD_of (f26n d) rfl rfl ?_
    | ((with_reducible refine callD_id (f := 23) (args := [.s (.raw (.int .i64 (pr : Int)))]) ?_); refine callD_funT (hT.at _) (n23) rfl rfl ?_)
    | ((with_reducible refine callD_id (f := 23) (args := [.s (.raw (.int .i64 (nf : Int)))]) ?_); refine callD_funT (hT.at _) (m23) rfl rfl ?_)
    | ((with_reducible refine callD_id (f := 22) ?_); refine callD_read [3] (c22) rfl rfl rfl ?_)
    | (with_reducible refine And.intro ?_ ?_; · omega)
  refine loopK_wk (by kernel_rfl) (I17 d pr nf kf ps fd c0 c1 c2 c3 c4 c5 c6 c7 c8 c9 c10 c11 c12 c13) ps.length ⟨_, _, Wk.gc [0, 1, 2, 4] rfl (by decide), 0, rfl, by omega, by simp [Function.comp_def, get_gcT, get, gcI, pullI, pullS, gcH, patL, canL, canH, canTL, canT, segR, mapC, ix], by simp [Function.comp_def, get_gcT, get, gcI, pullI, pullS, gcH, patL, canL, canH, canTL, canT, segR, mapC, ix], by simp [Function.comp_def, get_gcT, get, gcI, pullI, pullS, gcH, patL, canL, canH, canTL, canT, segR, mapC, ix], by simp [Function.comp_def, get_gcT, get, gcI, pullI, pullS, gcH, patL, canL, canH, canTL, canT, segR, mapC, ix], by simp [Function.comp_def, get_gcT, get, gcI, pullI, pullS, gcH, patL, canL, canH, canTL, canT, segR, mapC, ix], by (simp only [gcH, List.map_cons, List.map_nil, List.map_append, List.getElem?_cons_zero, List.getElem?_cons_succ, Option.getD_some, mapC, pullP, hfd, pullL]; rfl)⟩ ?_
  rintro m tm H ⟨i, rfl, hi, g1, g4, g25, g26, g27, rfl⟩
  have hlen : ((outP pr d nf ps i).map sC).length = i + 1 := by simp [outP, lns_len]
  by_cases hq : i < ps.length
  · have q : decide ((i : Int) < (ps.length : Int)) = true := decide_eq_true (by omega)
    have b0 : (0 : Int) ≤ (i : Int) := by omega
    have b1 : (i : Int) < (ps.length : Int) := by omega
    obtain ⟨p, hp⟩ : ∃ p, ps[i]? = some p := ⟨_, List.getElem?_eq_getElem hq⟩
    have hpl := hpc p (List.mem_of_getElem? hp)
    have hpr : (ps.map portR)[i]? = some (portR p) := by rw [List.getElem?_map, hp]; rfl
    have hi1 : IntKind.i64.wrap ((i : Int) + 1) = ((i + 1 : Nat) : Int) := by rw [wr_i64 (by omega) (by omega)]; rfl
    have wc : IntKind.u64.wrap (p.c : Int) = (p.c : Int) := wr_u64 (by omega) (by omega)
    have n1 := f23 (i + 1) (by omega)
    have n2 := f27r p.r
    have n3 := f27s p.s
    have n4 := f19 p.c (by omega)
    have n5 := words_port i p (by omega) hpl
    have hs1 : outP pr d nf ps (i + 1) = outP pr d nf ps i ++ [lineP i p] := by
      simp [outP, lnsP, hp]
    repeat' first
      | with_reducible rfl
      | simp only [q, b0, b1, hpr, portR, hi1, wc, hlen, Int.toNat_natCast, g1, g4, g25, g26, g27, e_nil, e_cons, e_gd, e_gdt, e_gdf, e_g0, e_g1, e_op, e_step, e_ret, e_put, e_junk, e_skip, e_reg, e_draw, e_seq, e_cond, e_block, e_exit, e_r, e_label, e_loop, q_sn, q_sr, q_se, q_bn, q_br, q_be, q_rr, q_rn, e_res0, e_res1, e_res2, e_b, d_nil, d_cons, d_op, d_step, d_ret, d_put, d_junk, d_inf, d_fin, g_not, g_and, argsTM, stepE, stBuiltin, stBox, stAlloc, stLoad, stStore, stField, stExtract, stBin, stUn, stConv, stNilCheck, stFieldV, stIndex, stIndexAddr, stLen, stMin, stMax, stBuild, fillI, stBuildSlice, setRows, stMakeSlice, stAppend, srcR, segR, rdCells, stSlice, bnd, stArr, stCopy, stConv2, isIntV, cutR, byteRows, rowByte, binStr, Option.map_some, Option.map_none, eq_self, canTL, canT, canH, canL, patL, gcH, gcT, gcI, get_gcT, mapC, pullS, pullI, pushS, push1, pushI, pushC, pullHW, roC, ix, List.map_map, Function.comp_def, List.zip_cons_cons, List.zip_nil_left, List.zip_nil_right, List.range'_zero, List.range'_succ, rd, get, put, IV.cells, ofValue, seg, spl, ldIV, binInt, eqI, cellsEq, leafEq, resI, flat, isT, upd, up1, nextM, cR, ptrC, nAl, isAl, List.length_cons, List.length_nil, List.length_append, List.length_replicate, List.length_set, Nat.reduceAdd, Nat.reduceMul, Nat.reduceEqDiff, Nat.reduceLeDiff, Nat.zero_add, Nat.add_zero, ne_eq, reduceCtorEq, not_false_eq_true, not_true_eq_false, reduceIte, true_and, and_true, and_false, false_and, and_self, List.nil_append, List.cons_append, List.append_nil, List.getElem?_cons_zero, List.getElem?_cons_succ, List.drop_succ_cons, List.drop_zero, List.take_succ_cons, List.take_zero, List.set_cons_zero, List.set_cons_succ, List.getElem?_toArray, Option.bind_some, Bool.false_eq_true, Nat.add_one_ne_zero, Nat.succ_ne_self, List.map_cons, List.map_nil, Bool.not_true, Bool.not_false, List.replicate_succ, List.replicate_zero, List.mem_cons, List.not_mem_nil, or_false, false_or, or_true, true_or, forall_const, false_implies, implies_true, true_implies, Int.reduceToNat, Int.reduceLE, Int.reduceLT, Int.cast_ofNat_Int, bne, Int.reduceEq, Int.reduceNe, Int.reduceNeg, Int.reduceAdd, Int.reduceSub, Int.reduceMul, beq_self_eq_true, Int.reduceBEq, Int.reduceBNe, Bool.true_and, Bool.false_and, Bool.and_true, Bool.and_false, Bool.true_or, Bool.false_or, Bool.or_true, Bool.or_false, Nat.reduceLT, Nat.reduceSub, Nat.zero_min, Nat.min_zero, Nat.min_self, List.flatMap_cons, List.flatMap_nil, Int.toNat_natCast, strEq_self, Bool.not_eq_true', decide_true, decide_false, wl_u8_0, wl_u8_1, wl_u8_2, wl_u8_3, wl_u8_4, wl_u8_5, wl_u8_6, wl_u8_7, wl_u8_8, wl_u8_9, wl_u8_10, wl_u8_11, wl_u8_12, wl_u8_13, wl_u8_14, wl_u8_15, wl_u8_16, wl_u16_0, wl_u16_1, wl_u16_2, wl_u16_3, wl_u16_4, wl_u16_5, wl_u16_6, wl_u16_7, wl_u16_8, wl_u16_9, wl_u16_10, wl_u16_11, wl_u16_12, wl_u16_13, wl_u16_14, wl_u16_15, wl_u16_16, wl_u32_0, wl_u32_1, wl_u32_2, wl_u32_3, wl_u32_4, wl_u32_5, wl_u32_6, wl_u32_7, wl_u32_8, wl_u32_9, wl_u32_10, wl_u32_11, wl_u32_12, wl_u32_13, wl_u32_14, wl_u32_15, wl_u32_16, wl_u64_0, wl_u64_1, wl_u64_2, wl_u64_3, wl_u64_4, wl_u64_5, wl_u64_6, wl_u64_7, wl_u64_8, wl_u64_9, wl_u64_10, wl_u64_11, wl_u64_12, wl_u64_13, wl_u64_14, wl_u64_15, wl_u64_16, wl_i32_0, wl_i32_1, wl_i32_2, wl_i32_3, wl_i32_4, wl_i32_5, wl_i32_6, wl_i32_7, wl_i32_8, wl_i32_9, wl_i32_10, wl_i32_11, wl_i32_12, wl_i32_13, wl_i32_14, wl_i32_15, wl_i32_16, wl_i64_0, wl_i64_1, wl_i64_2, wl_i64_3, wl_i64_4, wl_i64_5, wl_i64_6, wl_i64_7, wl_i64_8, wl_i64_9, wl_i64_10, wl_i64_11, wl_i64_12, wl_i64_13, wl_i64_14, wl_i64_15, wl_i64_16, Tryd.underlying22, Tryd.underlying3, Tryd.underlying30, Tryd.underlying55, ty_ag_22, ty_ag_26, ty_ag_3, ty_ag_38, ty_ag_41, ty_ag_42, ty_ag_61, ty_ar_62, ty_ar_63, ty_by_52, ty_of_40_0, ty_of_46_0, ty_of_46_1, ty_of_46_4, ty_of_46_5, ty_of_61_1, ty_of_61_8, ty_of_61_9, ty_sl_41, ty_sl_42, ty_sr_52, ty_sz_22, ty_sz_26, ty_sz_3, ty_sz_38, ty_sz_41, ty_sz_42, ty_sz_61, ty_ze_61, ty_zs_52]
      | with_reducible refine gdb_split (fun h => ?_) (fun h => ?_)
      | (with_reducible refine drawK_id ?_); refine drawK_auto hmix (by kernel_rfl) ?_
      | (with_reducible refine draw_fin ?_ ?_); · kernel_rfl
      | (with_reducible refine draw_id ?_); kernel_rfl
      | ((with_reducible refine callD_id (f := 23) (args := [.s (.raw (.int .i64 ((i + 1 : Nat) : Int)))]) ?_); refine callD_funT (hT.at _) (n1) rfl rfl ?_)
      | ((with_reducible refine callD_id (f := 27) (args := [.s (.raw (.slice (some ⟨0, 0, none⟩) 5 5)), .s (.raw (.int .i64 p.r))]) ?_); refine callD_funT (hX.at _) (n2) rfl rfl ?_)
      | ((with_reducible refine callD_id (f := 27) (args := [.s (.raw (.slice (some ⟨1, 0, none⟩) 3 3)), .s (.raw (.int .i64 p.s))]) ?_); refine callD_funT (hX.at _) (n3) rfl rfl ?_)
      | ((with_reducible refine callD_id (f := 19) (args := [.s (.raw (.int .u64 (p.c : Int))), .s (.raw (.int .i64 10))]) ?_); refine callD_funT (hT.at _) (n4) rfl rfl ?_)
      | ((with_reducible refine callD_id (f := 22) ?_); refine callD_read [5] (n5) rfl rfl rfl ?_)
      | (with_reducible refine And.intro ?_ ?_; · omega)
    refine ⟨ps.length - (i + 1), _, _, by omega, Wk.gc [0, 1, 2, 7] rfl (by decide), i + 1, rfl, by omega, ?_, ?_, ?_, ?_, ?_, ?_⟩ <;> first | with_reducible rfl | (simp [Function.comp_def, get_gcT, get, gcI, pullI, pullS, gcH, patL, canL, canH, canTL, canT, segR, mapC, ix, g1, g4, g25, g26, g27]; done) | (simp only [gcH, List.map_cons, List.map_nil, List.map_append, List.getElem?_cons_zero, List.getElem?_cons_succ, Option.getD_some, mapC, pullP, hfd, pullL, hs1]; rfl)
  have hie : i = ps.length := by omega
  subst hie
  have q : decide ((ps.length : Int) < (ps.length : Int)) = false := decide_eq_false (by omega)
  have n11 := f11 c0 c1 c2 c3 c4 c5 c6 c7 c8 c9 c10 c11 c12 c13 h0 h1 h2 h3 h4 h5 h6 h7 h8 h9 h10 h11 h12 h13
  have n22 := words_last c0 [c1, c2, c3, c4, c5, c6, c7, c8, c9, c10, c11, c12, c13] (by simp only [List.mem_cons, List.not_mem_nil, or_false]; intro x hx; omega) (by simp)
  repeat' first
    | with_reducible rfl
    | simp only [q, hlen, g1, g4, g25, g26, g27, e_nil, e_cons, e_gd, e_gdt, e_gdf, e_g0, e_g1, e_op, e_step, e_ret, e_put, e_junk, e_skip, e_reg, e_draw, e_seq, e_cond, e_block, e_exit, e_r, e_label, e_loop, q_sn, q_sr, q_se, q_bn, q_br, q_be, q_rr, q_rn, e_res0, e_res1, e_res2, e_b, d_nil, d_cons, d_op, d_step, d_ret, d_put, d_junk, d_inf, d_fin, g_not, g_and, argsTM, stepE, stBuiltin, stBox, stAlloc, stLoad, stStore, stField, stExtract, stBin, stUn, stConv, stNilCheck, stFieldV, stIndex, stIndexAddr, stLen, stMin, stMax, stBuild, fillI, stBuildSlice, setRows, stMakeSlice, stAppend, srcR, segR, rdCells, stSlice, bnd, stArr, stCopy, stConv2, isIntV, cutR, byteRows, rowByte, binStr, Option.map_some, Option.map_none, eq_self, canTL, canT, canH, canL, patL, gcH, gcT, gcI, get_gcT, mapC, pullS, pullI, pushS, push1, pushI, pushC, pullHW, roC, ix, List.map_map, Function.comp_def, List.zip_cons_cons, List.zip_nil_left, List.zip_nil_right, List.range'_zero, List.range'_succ, rd, get, put, IV.cells, ofValue, seg, spl, ldIV, binInt, eqI, cellsEq, leafEq, resI, flat, isT, upd, up1, nextM, cR, ptrC, nAl, isAl, List.length_cons, List.length_nil, List.length_append, List.length_replicate, List.length_set, Nat.reduceAdd, Nat.reduceMul, Nat.reduceEqDiff, Nat.reduceLeDiff, Nat.zero_add, Nat.add_zero, ne_eq, reduceCtorEq, not_false_eq_true, not_true_eq_false, reduceIte, true_and, and_true, and_false, false_and, and_self, List.nil_append, List.cons_append, List.append_nil, List.getElem?_cons_zero, List.getElem?_cons_succ, List.drop_succ_cons, List.drop_zero, List.take_succ_cons, List.take_zero, List.set_cons_zero, List.set_cons_succ, List.getElem?_toArray, Option.bind_some, Bool.false_eq_true, Nat.add_one_ne_zero, Nat.succ_ne_self, List.map_cons, List.map_nil, Bool.not_true, Bool.not_false, List.replicate_succ, List.replicate_zero, List.mem_cons, List.not_mem_nil, or_false, false_or, or_true, true_or, forall_const, false_implies, implies_true, true_implies, Int.reduceToNat, Int.reduceLE, Int.reduceLT, Int.cast_ofNat_Int, bne, Int.reduceEq, Int.reduceNe, Int.reduceNeg, Int.reduceAdd, Int.reduceSub, Int.reduceMul, beq_self_eq_true, Int.reduceBEq, Int.reduceBNe, Bool.true_and, Bool.false_and, Bool.and_true, Bool.and_false, Bool.true_or, Bool.false_or, Bool.or_true, Bool.or_false, Nat.reduceLT, Nat.reduceSub, Nat.zero_min, Nat.min_zero, Nat.min_self, List.flatMap_cons, List.flatMap_nil, Int.toNat_natCast, strEq_self, Bool.not_eq_true', decide_true, decide_false, wl_u8_0, wl_u8_1, wl_u8_2, wl_u8_3, wl_u8_4, wl_u8_5, wl_u8_6, wl_u8_7, wl_u8_8, wl_u8_9, wl_u8_10, wl_u8_11, wl_u8_12, wl_u8_13, wl_u8_14, wl_u8_15, wl_u8_16, wl_u16_0, wl_u16_1, wl_u16_2, wl_u16_3, wl_u16_4, wl_u16_5, wl_u16_6, wl_u16_7, wl_u16_8, wl_u16_9, wl_u16_10, wl_u16_11, wl_u16_12, wl_u16_13, wl_u16_14, wl_u16_15, wl_u16_16, wl_u32_0, wl_u32_1, wl_u32_2, wl_u32_3, wl_u32_4, wl_u32_5, wl_u32_6, wl_u32_7, wl_u32_8, wl_u32_9, wl_u32_10, wl_u32_11, wl_u32_12, wl_u32_13, wl_u32_14, wl_u32_15, wl_u32_16, wl_u64_0, wl_u64_1, wl_u64_2, wl_u64_3, wl_u64_4, wl_u64_5, wl_u64_6, wl_u64_7, wl_u64_8, wl_u64_9, wl_u64_10, wl_u64_11, wl_u64_12, wl_u64_13, wl_u64_14, wl_u64_15, wl_u64_16, wl_i32_0, wl_i32_1, wl_i32_2, wl_i32_3, wl_i32_4, wl_i32_5, wl_i32_6, wl_i32_7, wl_i32_8, wl_i32_9, wl_i32_10, wl_i32_11, wl_i32_12, wl_i32_13, wl_i32_14, wl_i32_15, wl_i32_16, wl_i64_0, wl_i64_1, wl_i64_2, wl_i64_3, wl_i64_4, wl_i64_5, wl_i64_6, wl_i64_7, wl_i64_8, wl_i64_9, wl_i64_10, wl_i64_11, wl_i64_12, wl_i64_13, wl_i64_14, wl_i64_15, wl_i64_16, Tryd.underlying22, Tryd.underlying3, Tryd.underlying30, Tryd.underlying55, ty_ag_22, ty_ag_26, ty_ag_3, ty_ag_38, ty_ag_41, ty_ag_42, ty_ag_61, ty_ar_62, ty_ar_63, ty_by_52, ty_of_40_0, ty_of_46_0, ty_of_46_1, ty_of_46_4, ty_of_46_5, ty_of_61_1, ty_of_61_8, ty_of_61_9, ty_sl_41, ty_sl_42, ty_sr_52, ty_sz_22, ty_sz_26, ty_sz_3, ty_sz_38, ty_sz_41, ty_sz_42, ty_sz_61, ty_ze_61, ty_zs_52]
    | with_reducible refine gdb_split (fun h => ?_) (fun h => ?_)
    | (with_reducible refine drawK_id ?_); refine drawK_auto hmix (by kernel_rfl) ?_
    | (with_reducible refine draw_fin ?_ ?_); · kernel_rfl
    | (with_reducible refine draw_id ?_); kernel_rfl
    | ((with_reducible refine callK_id (f := 11) ?_); refine callK_funT (hT.at _) n11 rfl rfl ?_)
    | ((with_reducible refine callK_id (f := 22) ?_); refine callK_funR [4] (r := .s (.raw (.string (lastS [c0, c1, c2, c3, c4, c5, c6, c7, c8, c9, c10, c11, c12, c13])))) (by show FunR _ _ [.rows false 1 [[.raw (.string _)], [.raw (.string _)]]] _ _; exact n22) rfl ?_)
    | (with_reducible refine And.intro ?_ ?_; · omega)
  refine ⟨_, _, (WkR.gc [0, 1, 6] rfl (by decide)).to rfl ?_, rfl, rfl⟩
  simp only [gcH, List.map_cons, List.map_nil, List.map_append, List.getElem?_cons_zero, List.getElem?_cons_succ, Option.getD_some, mapC, pullP, hfd, pullL, outP]
  rfl
end Go.Ev
