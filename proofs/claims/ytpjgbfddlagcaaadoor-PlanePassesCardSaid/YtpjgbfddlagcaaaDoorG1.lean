/- A part of the proof: contracts of the functions that the statement reaches. -/
import Derived.Test.YtpjgbfddlagcaaaDoorEvC
import Derived.Test.YtpjgbfddlagcaaaDoorTysG
namespace Go.Ev
open Go.Proofs
set_option maxRecDepth 100000
set_option linter.unusedSimpArgs false
set_option linter.unusedVariables false
set_option maxHeartbeats 4000000
theorem f36 (m0 m1 m2 m3 m4 m5 : Int) : Fun Tryd.prog 14 [.a [.raw (.int .u8 m0), .raw (.int .u8 m1), .raw (.int .u8 m2), .raw (.int .u8 m3), .raw (.int .u8 m4), .raw (.int .u8 m5)]] (.s (.raw (.bool (bAnd .u8 m0 1 == 1)))) := by
  refine fun_of rfl fun X => ?_
  refine callK_inline (rs := [.tmp 2]) (n := 7) Tryd.func14 rfl rfl rfl (by kernel_rfl) (by kernel_rfl) (by simp only [List.length_cons, List.length_nil]; decide) ?_
  repeat' first
    | with_reducible rfl
    | simp only [*, RS_, argsTM, stepE, stBuiltin, stBox, stAlloc, stLoad, stStore, stField, stExtract, stBin, stUn, stConv, stNilCheck, stFieldV, stIndex, stIndexAddr, stLen, stMin, stMax, stBuild, fillI, stBuildSlice, setRows, stMakeSlice, stAppend, srcR, segR, rdCells, stSlice, bnd, stArr, stCopy, stConv2, isIntV, cutR, byteRows, rowByte, binStr, Option.map_some, Option.map_none, eq_self, canTL, canT, canH, canL, patL, gcH, gcT, gcI, get_gcT, mapC, pullS, pullI, pushS, push1, pushI, pushC, pullHW, roC, ix, List.map_map, Function.comp_def, List.zip_cons_cons, List.zip_nil_left, List.zip_nil_right, List.range'_zero, List.range'_succ, rd, get, put, IV.cells, ofValue, seg, spl, ldIV, binInt, eqI, cellsEq, leafEq, resI, flat, isT, upd, up1, nextM, cR, ptrC, nAl, isAl, ST_, Nat.reduceAdd, Nat.reduceMul, Nat.reduceEqDiff, Nat.reduceLeDiff, ne_eq, reduceCtorEq, reduceIte, forall_const, implies_true, Int.reduceToNat, Int.reduceLE, Int.reduceLT, bne, Int.reduceEq, Int.reduceNe, Int.reduceNeg, Int.reduceAdd, Int.reduceSub, Int.reduceMul, Int.reduceBEq, Int.reduceBNe, Nat.reduceLT, Nat.reduceSub, WLS, ty_ag_5, ty_ar_40, ty_sz_5]
    | with_reducible refine gdb_split (fun h => ?_) (fun h => ?_)
    | (with_reducible refine drawK_id ?_); refine drawK_auto hmix (by kernel_rfl) ?_
    | (with_reducible refine draw_fin ?_ ?_); · kernel_rfl
    | (with_reducible refine draw_id ?_); kernel_rfl
    | (with_reducible refine And.intro ?_ ?_; · omega)
def resS (m0 m1 m2 m3 m4 m5 : Int) : Bool := strEq ⟨#[UInt8.ofNat (m0).toNat, UInt8.ofNat (m1).toNat, UInt8.ofNat (m2).toNat, UInt8.ofNat (m3).toNat, UInt8.ofNat (m4).toNat]⟩ ⟨#[1, 128, 194, 0, 0]⟩ && decide (m5 < 16)
theorem f81 (m0 m1 m2 m3 m4 m5 : Int) : Fun Tryd.prog 10 [.a [.raw (.int .u8 m0), .raw (.int .u8 m1), .raw (.int .u8 m2), .raw (.int .u8 m3), .raw (.int .u8 m4), .raw (.int .u8 m5)]] (.s (.raw (.bool (resS m0 m1 m2 m3 m4 m5)))) := by
  refine fun_of rfl fun X => ?_
  refine callK_inline (rs := [.tmp 2]) (n := 11) Tryd.func10 rfl rfl rfl (by kernel_rfl) (by kernel_rfl) (by simp only [List.length_cons, List.length_nil]; decide) ?_
  repeat' first
    | with_reducible rfl
    | simp only [*, resS, RS_, argsTM, stepE, stBuiltin, stBox, stAlloc, stLoad, stStore, stField, stExtract, stBin, stUn, stConv, stNilCheck, stFieldV, stIndex, stIndexAddr, stLen, stMin, stMax, stBuild, fillI, stBuildSlice, setRows, stMakeSlice, stAppend, srcR, segR, rdCells, stSlice, bnd, stArr, stCopy, stConv2, isIntV, cutR, byteRows, rowByte, binStr, Option.map_some, Option.map_none, eq_self, canTL, canT, canH, canL, patL, gcH, gcT, gcI, get_gcT, mapC, pullS, pullI, pushS, push1, pushI, pushC, pullHW, roC, ix, List.map_map, Function.comp_def, List.zip_cons_cons, List.zip_nil_left, List.zip_nil_right, List.range'_zero, List.range'_succ, rd, get, put, IV.cells, ofValue, seg, spl, ldIV, binInt, eqI, cellsEq, leafEq, resI, flat, isT, upd, up1, nextM, cR, ptrC, nAl, isAl, ST_, Nat.reduceAdd, Nat.reduceMul, Nat.reduceEqDiff, Nat.reduceLeDiff, ne_eq, reduceCtorEq, reduceIte, forall_const, implies_true, Int.reduceToNat, Int.reduceLE, Int.reduceLT, bne, Int.reduceEq, Int.reduceNe, Int.reduceNeg, Int.reduceAdd, Int.reduceSub, Int.reduceMul, Int.reduceBEq, Int.reduceBNe, Nat.reduceLT, Nat.reduceSub, WLS, ty_ag_5, ty_ar_40, ty_ib_96, ty_st_9, ty_sz_5]
    | with_reducible refine g_eq (fun h => ?_) (fun h => ?_)
    | with_reducible refine gdb_split (fun h => ?_) (fun h => ?_)
    | (with_reducible refine drawK_id ?_); refine drawK_auto hmix (by kernel_rfl) ?_
    | (with_reducible refine draw_fin ?_ ?_); · kernel_rfl
    | (with_reducible refine draw_id ?_); kernel_rfl
    | (with_reducible refine And.intro ?_ ?_; · omega)
def intS (s : ByteArray) : Nat → Int
  | 0 => 0
  | i + 1 => bOr .u64 (shL .u64 (intS s i) 8) (IntKind.u64.wrap (byteAt s i))
def macS (m0 m1 m2 m3 m4 m5 : Int) : ByteArray := ⟨#[UInt8.ofNat (m0).toNat, UInt8.ofNat (m1).toNat, UInt8.ofNat (m2).toNat, UInt8.ofNat (m3).toNat, UInt8.ofNat (m4).toNat, UInt8.ofNat (m5).toNat]⟩
def intM (m0 m1 m2 m3 m4 m5 : Int) : Int := intS (macS m0 m1 m2 m3 m4 m5) 6
theorem mac_fold (m0 m1 m2 m3 m4 m5 : Int) : (⟨#[UInt8.ofNat (m0).toNat, UInt8.ofNat (m1).toNat, UInt8.ofNat (m2).toNat, UInt8.ofNat (m3).toNat, UInt8.ofNat (m4).toNat, UInt8.ofNat (m5).toNat]⟩ : ByteArray) = macS m0 m1 m2 m3 m4 m5 := rfl
theorem mac_size (m0 m1 m2 m3 m4 m5 : Int) : (macS m0 m1 m2 m3 m4 m5).size = 6 := rfl
theorem mac_ext (m0 m1 m2 m3 m4 m5 : Int) : (macS m0 m1 m2 m3 m4 m5).extract 0 6 = macS m0 m1 m2 m3 m4 m5 := by
  apply ByteArray.ext; simp [macS, ByteArray.data_extract]
theorem f60 (m0 m1 m2 m3 m4 m5 : Int) : Fun Tryd.prog 55 [.a [.raw (.int .u8 m0), .raw (.int .u8 m1), .raw (.int .u8 m2), .raw (.int .u8 m3), .raw (.int .u8 m4), .raw (.int .u8 m5)]] (.s (.raw (.int .u64 (intM m0 m1 m2 m3 m4 m5)))) := by
  refine fun_of rfl fun X => ?_
  refine callK_inline (rs := [.tmp 2]) (n := 7) Tryd.func55 rfl rfl rfl (by kernel_rfl) (by kernel_rfl) (by simp only [List.length_cons, List.length_nil]; decide) ?_
  repeat' first
    | with_reducible rfl
    | simp only [e_loopN, intM, intS, mac_fold, mac_size, mac_ext, RS_, argsTM, stepE, stBuiltin, stBox, stAlloc, stLoad, stStore, stField, stExtract, stBin, stUn, stConv, stNilCheck, stFieldV, stIndex, stIndexAddr, stLen, stMin, stMax, stBuild, fillI, stBuildSlice, setRows, stMakeSlice, stAppend, srcR, segR, rdCells, stSlice, bnd, stArr, stCopy, stConv2, isIntV, cutR, byteRows, rowByte, binStr, Option.map_some, Option.map_none, eq_self, canTL, canT, canH, canL, patL, gcH, gcT, gcI, get_gcT, mapC, pullS, pullI, pushS, push1, pushI, pushC, pullHW, roC, ix, List.map_map, Function.comp_def, List.zip_cons_cons, List.zip_nil_left, List.zip_nil_right, List.range'_zero, List.range'_succ, rd, get, put, IV.cells, ofValue, seg, spl, ldIV, binInt, eqI, cellsEq, leafEq, resI, flat, isT, upd, up1, nextM, cR, ptrC, nAl, isAl, ST_, Nat.reduceAdd, Nat.reduceMul, Nat.reduceEqDiff, Nat.reduceLeDiff, ne_eq, reduceCtorEq, reduceIte, forall_const, implies_true, Int.reduceToNat, Int.reduceLE, Int.reduceLT, bne, Int.reduceEq, Int.reduceNe, Int.reduceNeg, Int.reduceAdd, Int.reduceSub, Int.reduceMul, Int.reduceBEq, Int.reduceBNe, Nat.reduceLT, Nat.reduceSub, WLS, Tryd.underlying150, Tryd.underlying5, Tryd.underlying53, ty_ag_4, ty_ag_9, ty_ar_40, ty_ib_96, ty_of_161_0, ty_of_161_1, ty_ok_161, ty_pl_161_0, ty_st_9, ty_sz_4, ty_sz_9, ty_ze_161]
    | with_reducible refine gdb_split (fun h => ?_) (fun h => ?_)
    | (with_reducible refine drawK_id ?_); refine drawK_auto hmix (by kernel_rfl) ?_
    | (with_reducible refine draw_fin ?_ ?_); · kernel_rfl
    | (with_reducible refine draw_id ?_); kernel_rfl
    | (with_reducible refine loopK_id ?_); refine loopK_n 8 (by kernel_rfl) ?_
    | (with_reducible refine callK_id (f := 72) ?_); refine callK_inline (rs := [.tmp 2]) (n := 6) Tryd.func72 rfl rfl rfl (by kernel_rfl) (by kernel_rfl) (by simp only [List.length_cons, List.length_nil]; decide) ?_
    | (with_reducible refine callK_id (f := 73) ?_); refine callK_inline (rs := [.tmp 4]) (n := 31) Tryd.func73 rfl rfl rfl (by kernel_rfl) (by kernel_rfl) (by simp only [List.length_cons, List.length_nil]; decide) ?_
    | (with_reducible refine callK_id (f := 80) ?_); refine callK_inline (rs := [.tmp 4]) (n := 44) Tryd.func80 rfl rfl rfl (by kernel_rfl) (by kernel_rfl) (by simp only [List.length_cons, List.length_nil]; decide) ?_
    | (with_reducible refine And.intro ?_ ?_; · omega)
structure M6 where
  m0 : Int
  m1 : Int
  m2 : Int
  m3 : Int
  m4 : Int
  m5 : Int
  deriving DecidableEq, Inhabited
def encM (m : M6) : List SV := [.raw (.int .u8 m.m0), .raw (.int .u8 m.m1), .raw (.int .u8 m.m2), .raw (.int .u8 m.m3), .raw (.int .u8 m.m4), .raw (.int .u8 m.m5)]
theorem bytesR_lit (l : List UInt8) : bytesR ⟨l.toArray⟩ = l.map fun b => [.raw (.int .u8 (b.toNat : Int))] := by simp [bytesR, ByteArray.toList_eq]
theorem size_l (l : List UInt8) : (⟨l.toArray⟩ : ByteArray).size = l.length := by simp [ByteArray.size]
def fbI (n : Int) (j : Int) : Int := IntKind.u8.wrap (shR .u64 n j)
def ubI (x : Int) : Int := ((UInt8.ofNat x.toNat).toNat : Int)
def fromC (n : Int) : M6 := ⟨ubI (fbI n 40), ubI (fbI n 32), ubI (fbI n 24), ubI (fbI n 16), ubI (fbI n 8), ubI (fbI n 0)⟩
theorem wk40 : IntKind.i64.wrap 40 = 40 := rfl
theorem wk32 : IntKind.i64.wrap 32 = 32 := rfl
theorem wk24 : IntKind.i64.wrap 24 = 24 := rfl
theorem f32 (n : Int) : Fun Tryd.prog 21 [.s (.raw (.int .u64 n))] (.a (encM (fromC n))) := by
  refine fun_of rfl fun X => ?_
  refine callK_inline (rs := [.cell 2 40]) (n := 8) Tryd.func21 rfl rfl rfl (by kernel_rfl) (by kernel_rfl) (by simp only [List.length_cons, List.length_nil]; decide) ?_
  repeat' first
    | with_reducible rfl
    | simp only [e_loopN, bytesR_lit, size_l, List.flatten_cons, List.flatten_nil, wk40, wk32, wk24, Int.mul_zero, RS_, argsTM, stepE, stBuiltin, stBox, stAlloc, stLoad, stStore, stField, stExtract, stBin, stUn, stConv, stNilCheck, stFieldV, stIndex, stIndexAddr, stLen, stMin, stMax, stBuild, fillI, stBuildSlice, setRows, stMakeSlice, stAppend, srcR, segR, rdCells, stSlice, bnd, stArr, stCopy, stConv2, isIntV, cutR, byteRows, rowByte, binStr, Option.map_some, Option.map_none, eq_self, canTL, canT, canH, canL, patL, gcH, gcT, gcI, get_gcT, mapC, pullS, pullI, pushS, push1, pushI, pushC, pullHW, roC, ix, List.map_map, Function.comp_def, List.zip_cons_cons, List.zip_nil_left, List.zip_nil_right, List.range'_zero, List.range'_succ, rd, get, put, IV.cells, ofValue, seg, spl, ldIV, binInt, eqI, cellsEq, leafEq, resI, flat, isT, upd, up1, nextM, cR, ptrC, nAl, isAl, ST_, Nat.reduceAdd, Nat.reduceMul, Nat.reduceEqDiff, Nat.reduceLeDiff, ne_eq, reduceCtorEq, reduceIte, forall_const, implies_true, Int.reduceToNat, Int.reduceLE, Int.reduceLT, bne, Int.reduceEq, Int.reduceNe, Int.reduceNeg, Int.reduceAdd, Int.reduceSub, Int.reduceMul, Int.reduceBEq, Int.reduceBNe, Nat.reduceLT, Nat.reduceSub, WLS, Tryd.underlying5, Tryd.underlying53, ty_ag_40, ty_ar_40, ty_by_96, ty_ib_96, ty_sf_96, ty_sl_96, ty_st_9, ty_sz_5, ty_sz_40, ty_ze_40, ty_zs_96]
    | with_reducible refine gdb_split (fun h => ?_) (fun h => ?_)
    | (with_reducible refine drawK_id ?_); refine drawK_auto hmix (by kernel_rfl) ?_
    | (with_reducible refine draw_fin ?_ ?_); · kernel_rfl
    | (with_reducible refine draw_id ?_); kernel_rfl
    | (with_reducible refine loopK_id ?_); refine loopK_n 8 (by kernel_rfl) ?_
    | (with_reducible refine callK_id (f := 41) ?_); refine callK_inline (rs := [.tmp 4]) (n := 34) Tryd.func41 rfl rfl rfl (by kernel_rfl) (by kernel_rfl) (by simp only [List.length_cons, List.length_nil]; decide) ?_
    | (simp [encM, fromC, ubI, fbI]; done)
    | (with_reducible refine And.intro ?_ ?_; · omega)
theorem w64 (x : Int) : IntKind.u64.wrap x = x % 18446744073709551616 := by simp [IntKind.wrap, IntKind.signed, IntKind.bits]
theorem or_nat (p A B : Nat) (hB : B < 2 ^ p) (hs : 2 ^ p * A + B < 2 ^ 64) : bOr .u64 (((2 ^ p * A : Nat) : Int)) (B : Int) = ((2 ^ p * A + B : Nat) : Int) := by
  have e1 : (BitVec.ofInt IntKind.u64.bits ((2 ^ p * A : Nat) : Int)).toNat = 2 ^ p * A := by
    show (BitVec.ofInt 64 _).toNat = _
    rw [BitVec.toNat_ofInt]; omega
  have e2 : (BitVec.ofInt IntKind.u64.bits (B : Int)).toNat = B := by
    show (BitVec.ofInt 64 _).toNat = _
    rw [BitVec.toNat_ofInt]; omega
  unfold bOr
  rw [BitVec.toNat_or, e1, e2, ← Nat.two_pow_add_eq_or_of_lt hB, w64]
  omega
theorem or8 (a b : Int) (h0 : 0 ≤ a) (h1 : a < 1099511627776) (h2 : 0 ≤ b) (h3 : b ≤ 255) : bOr .u64 (shL .u64 a 8) b = 256 * a + b := by
  have e : shL .u64 a 8 = ((2 ^ 8 * a.toNat : Nat) : Int) := by
    unfold shL
    rw [show (2 : Int) ^ (min (8 : Int).toNat IntKind.u64.bits) = 256 from by decide, w64]
    omega
  have := or_nat 8 a.toNat b.toNat (by omega) (by omega)
  rw [e]
  rw [show b = ((b.toNat : Nat) : Int) by omega]
  rw [this]; omega
theorem ub_id (x : Int) (h0 : 0 ≤ x) (h1 : x ≤ 255) : ((UInt8.ofNat x.toNat).toNat : Int) = x := by
  rw [UInt8.toNat_ofNat']; omega
section
variable {m0 m1 m2 m3 m4 m5 : Int} (l0 : 0 ≤ m0) (u0 : m0 ≤ 255) (l1 : 0 ≤ m1) (u1 : m1 ≤ 255) (l2 : 0 ≤ m2) (u2 : m2 ≤ 255) (l3 : 0 ≤ m3) (u3 : m3 ≤ 255) (l4 : 0 ≤ m4) (u4 : m4 ≤ 255) (l5 : 0 ≤ m5) (u5 : m5 ≤ 255)
include l0 u0 l1 u1 l2 u2 l3 u3 l4 u4 l5 u5
theorem intM_eq : intM m0 m1 m2 m3 m4 m5 = 1099511627776 * m0 + 4294967296 * m1 + 16777216 * m2 + 65536 * m3 + 256 * m4 + m5 := by
  have b0 : byteAt (macS m0 m1 m2 m3 m4 m5) 0 = m0 := (show byteAt _ 0 = ((UInt8.ofNat m0.toNat).toNat : Int) from rfl).trans (ub_id m0 l0 u0)
  have b1 : byteAt (macS m0 m1 m2 m3 m4 m5) 1 = m1 := (show byteAt _ 1 = ((UInt8.ofNat m1.toNat).toNat : Int) from rfl).trans (ub_id m1 l1 u1)
  have b2 : byteAt (macS m0 m1 m2 m3 m4 m5) 2 = m2 := (show byteAt _ 2 = ((UInt8.ofNat m2.toNat).toNat : Int) from rfl).trans (ub_id m2 l2 u2)
  have b3 : byteAt (macS m0 m1 m2 m3 m4 m5) 3 = m3 := (show byteAt _ 3 = ((UInt8.ofNat m3.toNat).toNat : Int) from rfl).trans (ub_id m3 l3 u3)
  have b4 : byteAt (macS m0 m1 m2 m3 m4 m5) 4 = m4 := (show byteAt _ 4 = ((UInt8.ofNat m4.toNat).toNat : Int) from rfl).trans (ub_id m4 l4 u4)
  have b5 : byteAt (macS m0 m1 m2 m3 m4 m5) 5 = m5 := (show byteAt _ 5 = ((UInt8.ofNat m5.toNat).toNat : Int) from rfl).trans (ub_id m5 l5 u5)
  have z : ∀ x : Int, 0 ≤ x → x ≤ 255 → IntKind.u64.wrap x = x := fun x h0 h1 => wr_u64 h0 (by omega)
  have s1 : intS (macS m0 m1 m2 m3 m4 m5) 1 = m0 := by
    show bOr .u64 (shL .u64 0 8) (IntKind.u64.wrap (byteAt _ 0)) = _
    rw [b0, z _ l0 u0, or8 0 m0 (by omega) (by omega) l0 u0]; omega
  have s2 : intS (macS m0 m1 m2 m3 m4 m5) 2 = 256 * m0 + m1 := by
    show bOr .u64 (shL .u64 (intS _ 1) 8) (IntKind.u64.wrap (byteAt _ 1)) = _
    rw [b1, s1, z _ l1 u1, or8 _ m1 (by omega) (by omega) l1 u1]
  have s3 : intS (macS m0 m1 m2 m3 m4 m5) 3 = 256 * (256 * m0 + m1) + m2 := by
    show bOr .u64 (shL .u64 (intS _ 2) 8) (IntKind.u64.wrap (byteAt _ 2)) = _
    rw [b2, s2, z _ l2 u2, or8 _ m2 (by omega) (by omega) l2 u2]
  have s4 : intS (macS m0 m1 m2 m3 m4 m5) 4 = 256 * (256 * (256 * m0 + m1) + m2) + m3 := by
    show bOr .u64 (shL .u64 (intS _ 3) 8) (IntKind.u64.wrap (byteAt _ 3)) = _
    rw [b3, s3, z _ l3 u3, or8 _ m3 (by omega) (by omega) l3 u3]
  have s5 : intS (macS m0 m1 m2 m3 m4 m5) 5 = 256 * (256 * (256 * (256 * m0 + m1) + m2) + m3) + m4 := by
    show bOr .u64 (shL .u64 (intS _ 4) 8) (IntKind.u64.wrap (byteAt _ 4)) = _
    rw [b4, s4, z _ l4 u4, or8 _ m4 (by omega) (by omega) l4 u4]
  show bOr .u64 (shL .u64 (intS _ 5) 8) (IntKind.u64.wrap (byteAt _ 5)) = _
  rw [b5, s5, z _ l5 u5, or8 _ m5 (by omega) (by omega) l5 u5]; omega
end
def cmpI (a b : Int) : Int := if a < b then -1 else if b < a then 1 else 0
theorem cmp1 {a b : Int} (h : decide (a < b) = true) : cmpI a b = -1 := by simp only [decide_eq_true_eq] at h; simp [cmpI, h]
theorem cmp2 {a b : Int} (h1 : decide (a < b) = false) (h2 : decide (b < a) = true) : cmpI a b = 1 := by simp only [decide_eq_true_eq, decide_eq_false_iff_not] at h1 h2; simp [cmpI, h1, h2]
theorem cmp3 {a b : Int} (h1 : decide (a < b) = false) (h2 : decide (b < a) = false) : cmpI a b = 0 := by simp only [decide_eq_false_iff_not] at h1 h2; simp [cmpI, h1, h2]
theorem f58 (a b : Int) : Fun Tryd.prog 53 [.s (.raw (.int .u16 a)), .s (.raw (.int .u16 b))] (.s (.raw (.int .i64 (cmpI a b)))) := by
  refine fun_of rfl fun X => ?_
  refine callK_inline (rs := [.tmp 4]) (n := 20) Tryd.func53 rfl rfl rfl (by kernel_rfl) (by kernel_rfl) (by simp only [List.length_cons, List.length_nil]; decide) ?_
  cases h1 : decide (a < b) with
  | true =>
    rw [cmp1 h1]
    repeat' first
      | with_reducible rfl
      | simp only [h1, bne_self_eq_false, RS_, argsTM, stepE, stBuiltin, stBox, stAlloc, stLoad, stStore, stField, stExtract, stBin, stUn, stConv, stNilCheck, stFieldV, stIndex, stIndexAddr, stLen, stMin, stMax, stBuild, fillI, stBuildSlice, setRows, stMakeSlice, stAppend, srcR, segR, rdCells, stSlice, bnd, stArr, stCopy, stConv2, isIntV, cutR, byteRows, rowByte, binStr, Option.map_some, Option.map_none, eq_self, canTL, canT, canH, canL, patL, gcH, gcT, gcI, get_gcT, mapC, pullS, pullI, pushS, push1, pushI, pushC, pullHW, roC, ix, List.map_map, Function.comp_def, List.zip_cons_cons, List.zip_nil_left, List.zip_nil_right, List.range'_zero, List.range'_succ, rd, get, put, IV.cells, ofValue, seg, spl, ldIV, binInt, eqI, cellsEq, leafEq, resI, flat, isT, upd, up1, nextM, cR, ptrC, nAl, isAl, ST_, Nat.reduceAdd, Nat.reduceMul, Nat.reduceEqDiff, Nat.reduceLeDiff, ne_eq, reduceCtorEq, reduceIte, forall_const, implies_true, Int.reduceToNat, Int.reduceLE, Int.reduceLT, bne, Int.reduceEq, Int.reduceNe, Int.reduceNeg, Int.reduceAdd, Int.reduceSub, Int.reduceMul, Int.reduceBEq, Int.reduceBNe, Nat.reduceLT, Nat.reduceSub, WLS, ]
      | (with_reducible refine drawK_id ?_); refine drawK_auto hmix (by kernel_rfl) ?_
      | (with_reducible refine draw_fin ?_ ?_); · kernel_rfl
      | (with_reducible refine draw_id ?_); kernel_rfl
      | (with_reducible refine callK_id (f := 70) ?_); refine callK_inline (rs := [.tmp 2]) (n := 6) Tryd.func70 rfl rfl rfl (by kernel_rfl) (by kernel_rfl) (by simp only [List.length_cons, List.length_nil]; decide) ?_
      | (with_reducible refine And.intro ?_ ?_; · omega)
  | false =>
    cases h2 : decide (b < a) with
    | true =>
      rw [cmp2 h1 h2]
      repeat' first
        | with_reducible rfl
        | simp only [h1, h2, bne_self_eq_false, RS_, argsTM, stepE, stBuiltin, stBox, stAlloc, stLoad, stStore, stField, stExtract, stBin, stUn, stConv, stNilCheck, stFieldV, stIndex, stIndexAddr, stLen, stMin, stMax, stBuild, fillI, stBuildSlice, setRows, stMakeSlice, stAppend, srcR, segR, rdCells, stSlice, bnd, stArr, stCopy, stConv2, isIntV, cutR, byteRows, rowByte, binStr, Option.map_some, Option.map_none, eq_self, canTL, canT, canH, canL, patL, gcH, gcT, gcI, get_gcT, mapC, pullS, pullI, pushS, push1, pushI, pushC, pullHW, roC, ix, List.map_map, Function.comp_def, List.zip_cons_cons, List.zip_nil_left, List.zip_nil_right, List.range'_zero, List.range'_succ, rd, get, put, IV.cells, ofValue, seg, spl, ldIV, binInt, eqI, cellsEq, leafEq, resI, flat, isT, upd, up1, nextM, cR, ptrC, nAl, isAl, ST_, Nat.reduceAdd, Nat.reduceMul, Nat.reduceEqDiff, Nat.reduceLeDiff, ne_eq, reduceCtorEq, reduceIte, forall_const, implies_true, Int.reduceToNat, Int.reduceLE, Int.reduceLT, bne, Int.reduceEq, Int.reduceNe, Int.reduceNeg, Int.reduceAdd, Int.reduceSub, Int.reduceMul, Int.reduceBEq, Int.reduceBNe, Nat.reduceLT, Nat.reduceSub, WLS, ]
        | (with_reducible refine drawK_id ?_); refine drawK_auto hmix (by kernel_rfl) ?_
        | (with_reducible refine draw_fin ?_ ?_); · kernel_rfl
        | (with_reducible refine draw_id ?_); kernel_rfl
        | (with_reducible refine callK_id (f := 70) ?_); refine callK_inline (rs := [.tmp 2]) (n := 6) Tryd.func70 rfl rfl rfl (by kernel_rfl) (by kernel_rfl) (by simp only [List.length_cons, List.length_nil]; decide) ?_
        | (with_reducible refine And.intro ?_ ?_; · omega)
    | false =>
      rw [cmp3 h1 h2]
      repeat' first
        | with_reducible rfl
        | simp only [h1, h2, bne_self_eq_false, RS_, argsTM, stepE, stBuiltin, stBox, stAlloc, stLoad, stStore, stField, stExtract, stBin, stUn, stConv, stNilCheck, stFieldV, stIndex, stIndexAddr, stLen, stMin, stMax, stBuild, fillI, stBuildSlice, setRows, stMakeSlice, stAppend, srcR, segR, rdCells, stSlice, bnd, stArr, stCopy, stConv2, isIntV, cutR, byteRows, rowByte, binStr, Option.map_some, Option.map_none, eq_self, canTL, canT, canH, canL, patL, gcH, gcT, gcI, get_gcT, mapC, pullS, pullI, pushS, push1, pushI, pushC, pullHW, roC, ix, List.map_map, Function.comp_def, List.zip_cons_cons, List.zip_nil_left, List.zip_nil_right, List.range'_zero, List.range'_succ, rd, get, put, IV.cells, ofValue, seg, spl, ldIV, binInt, eqI, cellsEq, leafEq, resI, flat, isT, upd, up1, nextM, cR, ptrC, nAl, isAl, ST_, Nat.reduceAdd, Nat.reduceMul, Nat.reduceEqDiff, Nat.reduceLeDiff, ne_eq, reduceCtorEq, reduceIte, forall_const, implies_true, Int.reduceToNat, Int.reduceLE, Int.reduceLT, bne, Int.reduceEq, Int.reduceNe, Int.reduceNeg, Int.reduceAdd, Int.reduceSub, Int.reduceMul, Int.reduceBEq, Int.reduceBNe, Nat.reduceLT, Nat.reduceSub, WLS, ]
        | (with_reducible refine drawK_id ?_); refine drawK_auto hmix (by kernel_rfl) ?_
        | (with_reducible refine draw_fin ?_ ?_); · kernel_rfl
        | (with_reducible refine draw_id ?_); kernel_rfl
        | (with_reducible refine callK_id (f := 70) ?_); refine callK_inline (rs := [.tmp 2]) (n := 6) Tryd.func70 rfl rfl rfl (by kernel_rfl) (by kernel_rfl) (by simp only [List.length_cons, List.length_nil]; decide) ?_
        | (with_reducible refine And.intro ?_ ?_; · omega)
theorem f59 (a b : Int) : Fun Tryd.prog 54 [.s (.raw (.int .u64 a)), .s (.raw (.int .u64 b))] (.s (.raw (.int .i64 (cmpI a b)))) := by
  refine fun_of rfl fun X => ?_
  refine callK_inline (rs := [.tmp 4]) (n := 20) Tryd.func54 rfl rfl rfl (by kernel_rfl) (by kernel_rfl) (by simp only [List.length_cons, List.length_nil]; decide) ?_
  cases h1 : decide (a < b) with
  | true =>
    rw [cmp1 h1]
    repeat' first
      | with_reducible rfl
      | simp only [h1, bne_self_eq_false, RS_, argsTM, stepE, stBuiltin, stBox, stAlloc, stLoad, stStore, stField, stExtract, stBin, stUn, stConv, stNilCheck, stFieldV, stIndex, stIndexAddr, stLen, stMin, stMax, stBuild, fillI, stBuildSlice, setRows, stMakeSlice, stAppend, srcR, segR, rdCells, stSlice, bnd, stArr, stCopy, stConv2, isIntV, cutR, byteRows, rowByte, binStr, Option.map_some, Option.map_none, eq_self, canTL, canT, canH, canL, patL, gcH, gcT, gcI, get_gcT, mapC, pullS, pullI, pushS, push1, pushI, pushC, pullHW, roC, ix, List.map_map, Function.comp_def, List.zip_cons_cons, List.zip_nil_left, List.zip_nil_right, List.range'_zero, List.range'_succ, rd, get, put, IV.cells, ofValue, seg, spl, ldIV, binInt, eqI, cellsEq, leafEq, resI, flat, isT, upd, up1, nextM, cR, ptrC, nAl, isAl, ST_, Nat.reduceAdd, Nat.reduceMul, Nat.reduceEqDiff, Nat.reduceLeDiff, ne_eq, reduceCtorEq, reduceIte, forall_const, implies_true, Int.reduceToNat, Int.reduceLE, Int.reduceLT, bne, Int.reduceEq, Int.reduceNe, Int.reduceNeg, Int.reduceAdd, Int.reduceSub, Int.reduceMul, Int.reduceBEq, Int.reduceBNe, Nat.reduceLT, Nat.reduceSub, WLS, ]
      | (with_reducible refine drawK_id ?_); refine drawK_auto hmix (by kernel_rfl) ?_
      | (with_reducible refine draw_fin ?_ ?_); · kernel_rfl
      | (with_reducible refine draw_id ?_); kernel_rfl
      | (with_reducible refine callK_id (f := 71) ?_); refine callK_inline (rs := [.tmp 2]) (n := 6) Tryd.func71 rfl rfl rfl (by kernel_rfl) (by kernel_rfl) (by simp only [List.length_cons, List.length_nil]; decide) ?_
      | (with_reducible refine And.intro ?_ ?_; · omega)
  | false =>
    cases h2 : decide (b < a) with
    | true =>
      rw [cmp2 h1 h2]
      repeat' first
        | with_reducible rfl
        | simp only [h1, h2, bne_self_eq_false, RS_, argsTM, stepE, stBuiltin, stBox, stAlloc, stLoad, stStore, stField, stExtract, stBin, stUn, stConv, stNilCheck, stFieldV, stIndex, stIndexAddr, stLen, stMin, stMax, stBuild, fillI, stBuildSlice, setRows, stMakeSlice, stAppend, srcR, segR, rdCells, stSlice, bnd, stArr, stCopy, stConv2, isIntV, cutR, byteRows, rowByte, binStr, Option.map_some, Option.map_none, eq_self, canTL, canT, canH, canL, patL, gcH, gcT, gcI, get_gcT, mapC, pullS, pullI, pushS, push1, pushI, pushC, pullHW, roC, ix, List.map_map, Function.comp_def, List.zip_cons_cons, List.zip_nil_left, List.zip_nil_right, List.range'_zero, List.range'_succ, rd, get, put, IV.cells, ofValue, seg, spl, ldIV, binInt, eqI, cellsEq, leafEq, resI, flat, isT, upd, up1, nextM, cR, ptrC, nAl, isAl, ST_, Nat.reduceAdd, Nat.reduceMul, Nat.reduceEqDiff, Nat.reduceLeDiff, ne_eq, reduceCtorEq, reduceIte, forall_const, implies_true, Int.reduceToNat, Int.reduceLE, Int.reduceLT, bne, Int.reduceEq, Int.reduceNe, Int.reduceNeg, Int.reduceAdd, Int.reduceSub, Int.reduceMul, Int.reduceBEq, Int.reduceBNe, Nat.reduceLT, Nat.reduceSub, WLS, ]
        | (with_reducible refine drawK_id ?_); refine drawK_auto hmix (by kernel_rfl) ?_
        | (with_reducible refine draw_fin ?_ ?_); · kernel_rfl
        | (with_reducible refine draw_id ?_); kernel_rfl
        | (with_reducible refine callK_id (f := 71) ?_); refine callK_inline (rs := [.tmp 2]) (n := 6) Tryd.func71 rfl rfl rfl (by kernel_rfl) (by kernel_rfl) (by simp only [List.length_cons, List.length_nil]; decide) ?_
        | (with_reducible refine And.intro ?_ ?_; · omega)
    | false =>
      rw [cmp3 h1 h2]
      repeat' first
        | with_reducible rfl
        | simp only [h1, h2, bne_self_eq_false, RS_, argsTM, stepE, stBuiltin, stBox, stAlloc, stLoad, stStore, stField, stExtract, stBin, stUn, stConv, stNilCheck, stFieldV, stIndex, stIndexAddr, stLen, stMin, stMax, stBuild, fillI, stBuildSlice, setRows, stMakeSlice, stAppend, srcR, segR, rdCells, stSlice, bnd, stArr, stCopy, stConv2, isIntV, cutR, byteRows, rowByte, binStr, Option.map_some, Option.map_none, eq_self, canTL, canT, canH, canL, patL, gcH, gcT, gcI, get_gcT, mapC, pullS, pullI, pushS, push1, pushI, pushC, pullHW, roC, ix, List.map_map, Function.comp_def, List.zip_cons_cons, List.zip_nil_left, List.zip_nil_right, List.range'_zero, List.range'_succ, rd, get, put, IV.cells, ofValue, seg, spl, ldIV, binInt, eqI, cellsEq, leafEq, resI, flat, isT, upd, up1, nextM, cR, ptrC, nAl, isAl, ST_, Nat.reduceAdd, Nat.reduceMul, Nat.reduceEqDiff, Nat.reduceLeDiff, ne_eq, reduceCtorEq, reduceIte, forall_const, implies_true, Int.reduceToNat, Int.reduceLE, Int.reduceLT, bne, Int.reduceEq, Int.reduceNe, Int.reduceNeg, Int.reduceAdd, Int.reduceSub, Int.reduceMul, Int.reduceBEq, Int.reduceBNe, Nat.reduceLT, Nat.reduceSub, WLS, ]
        | (with_reducible refine drawK_id ?_); refine drawK_auto hmix (by kernel_rfl) ?_
        | (with_reducible refine draw_fin ?_ ?_); · kernel_rfl
        | (with_reducible refine draw_id ?_); kernel_rfl
        | (with_reducible refine callK_id (f := 71) ?_); refine callK_inline (rs := [.tmp 2]) (n := 6) Tryd.func71 rfl rfl rfl (by kernel_rfl) (by kernel_rfl) (by simp only [List.length_cons, List.length_nil]; decide) ?_
        | (with_reducible refine And.intro ?_ ?_; · omega)
theorem f91 (a b : Int) : Fun Tryd.prog 48 [.s (.raw (.int .i64 a)), .s (.raw (.int .i64 b))] (.s (.raw (.int .i64 (cmpI a b)))) := by
  refine fun_of rfl fun X => ?_
  refine callK_inline (rs := [.tmp 4]) (n := 20) Tryd.func48 rfl rfl rfl (by kernel_rfl) (by kernel_rfl) (by simp only [List.length_cons, List.length_nil]; decide) ?_
  cases h1 : decide (a < b) with
  | true =>
    rw [cmp1 h1]
    repeat' first
      | with_reducible rfl
      | simp only [h1, bne_self_eq_false, RS_, argsTM, stepE, stBuiltin, stBox, stAlloc, stLoad, stStore, stField, stExtract, stBin, stUn, stConv, stNilCheck, stFieldV, stIndex, stIndexAddr, stLen, stMin, stMax, stBuild, fillI, stBuildSlice, setRows, stMakeSlice, stAppend, srcR, segR, rdCells, stSlice, bnd, stArr, stCopy, stConv2, isIntV, cutR, byteRows, rowByte, binStr, Option.map_some, Option.map_none, eq_self, canTL, canT, canH, canL, patL, gcH, gcT, gcI, get_gcT, mapC, pullS, pullI, pushS, push1, pushI, pushC, pullHW, roC, ix, List.map_map, Function.comp_def, List.zip_cons_cons, List.zip_nil_left, List.zip_nil_right, List.range'_zero, List.range'_succ, rd, get, put, IV.cells, ofValue, seg, spl, ldIV, binInt, eqI, cellsEq, leafEq, resI, flat, isT, upd, up1, nextM, cR, ptrC, nAl, isAl, ST_, Nat.reduceAdd, Nat.reduceMul, Nat.reduceEqDiff, Nat.reduceLeDiff, ne_eq, reduceCtorEq, reduceIte, forall_const, implies_true, Int.reduceToNat, Int.reduceLE, Int.reduceLT, bne, Int.reduceEq, Int.reduceNe, Int.reduceNeg, Int.reduceAdd, Int.reduceSub, Int.reduceMul, Int.reduceBEq, Int.reduceBNe, Nat.reduceLT, Nat.reduceSub, WLS, ]
      | (with_reducible refine drawK_id ?_); refine drawK_auto hmix (by kernel_rfl) ?_
      | (with_reducible refine draw_fin ?_ ?_); · kernel_rfl
      | (with_reducible refine draw_id ?_); kernel_rfl
      | (with_reducible refine callK_id (f := 58) ?_); refine callK_inline (rs := [.tmp 2]) (n := 6) Tryd.func58 rfl rfl rfl (by kernel_rfl) (by kernel_rfl) (by simp only [List.length_cons, List.length_nil]; decide) ?_
      | (with_reducible refine And.intro ?_ ?_; · omega)
  | false =>
    cases h2 : decide (b < a) with
    | true =>
      rw [cmp2 h1 h2]
      repeat' first
        | with_reducible rfl
        | simp only [h1, h2, bne_self_eq_false, RS_, argsTM, stepE, stBuiltin, stBox, stAlloc, stLoad, stStore, stField, stExtract, stBin, stUn, stConv, stNilCheck, stFieldV, stIndex, stIndexAddr, stLen, stMin, stMax, stBuild, fillI, stBuildSlice, setRows, stMakeSlice, stAppend, srcR, segR, rdCells, stSlice, bnd, stArr, stCopy, stConv2, isIntV, cutR, byteRows, rowByte, binStr, Option.map_some, Option.map_none, eq_self, canTL, canT, canH, canL, patL, gcH, gcT, gcI, get_gcT, mapC, pullS, pullI, pushS, push1, pushI, pushC, pullHW, roC, ix, List.map_map, Function.comp_def, List.zip_cons_cons, List.zip_nil_left, List.zip_nil_right, List.range'_zero, List.range'_succ, rd, get, put, IV.cells, ofValue, seg, spl, ldIV, binInt, eqI, cellsEq, leafEq, resI, flat, isT, upd, up1, nextM, cR, ptrC, nAl, isAl, ST_, Nat.reduceAdd, Nat.reduceMul, Nat.reduceEqDiff, Nat.reduceLeDiff, ne_eq, reduceCtorEq, reduceIte, forall_const, implies_true, Int.reduceToNat, Int.reduceLE, Int.reduceLT, bne, Int.reduceEq, Int.reduceNe, Int.reduceNeg, Int.reduceAdd, Int.reduceSub, Int.reduceMul, Int.reduceBEq, Int.reduceBNe, Nat.reduceLT, Nat.reduceSub, WLS, ]
        | (with_reducible refine drawK_id ?_); refine drawK_auto hmix (by kernel_rfl) ?_
        | (with_reducible refine draw_fin ?_ ?_); · kernel_rfl
        | (with_reducible refine draw_id ?_); kernel_rfl
        | (with_reducible refine callK_id (f := 58) ?_); refine callK_inline (rs := [.tmp 2]) (n := 6) Tryd.func58 rfl rfl rfl (by kernel_rfl) (by kernel_rfl) (by simp only [List.length_cons, List.length_nil]; decide) ?_
        | (with_reducible refine And.intro ?_ ?_; · omega)
    | false =>
      rw [cmp3 h1 h2]
      repeat' first
        | with_reducible rfl
        | simp only [h1, h2, bne_self_eq_false, RS_, argsTM, stepE, stBuiltin, stBox, stAlloc, stLoad, stStore, stField, stExtract, stBin, stUn, stConv, stNilCheck, stFieldV, stIndex, stIndexAddr, stLen, stMin, stMax, stBuild, fillI, stBuildSlice, setRows, stMakeSlice, stAppend, srcR, segR, rdCells, stSlice, bnd, stArr, stCopy, stConv2, isIntV, cutR, byteRows, rowByte, binStr, Option.map_some, Option.map_none, eq_self, canTL, canT, canH, canL, patL, gcH, gcT, gcI, get_gcT, mapC, pullS, pullI, pushS, push1, pushI, pushC, pullHW, roC, ix, List.map_map, Function.comp_def, List.zip_cons_cons, List.zip_nil_left, List.zip_nil_right, List.range'_zero, List.range'_succ, rd, get, put, IV.cells, ofValue, seg, spl, ldIV, binInt, eqI, cellsEq, leafEq, resI, flat, isT, upd, up1, nextM, cR, ptrC, nAl, isAl, ST_, Nat.reduceAdd, Nat.reduceMul, Nat.reduceEqDiff, Nat.reduceLeDiff, ne_eq, reduceCtorEq, reduceIte, forall_const, implies_true, Int.reduceToNat, Int.reduceLE, Int.reduceLT, bne, Int.reduceEq, Int.reduceNe, Int.reduceNeg, Int.reduceAdd, Int.reduceSub, Int.reduceMul, Int.reduceBEq, Int.reduceBNe, Nat.reduceLT, Nat.reduceSub, WLS, ]
        | (with_reducible refine drawK_id ?_); refine drawK_auto hmix (by kernel_rfl) ?_
        | (with_reducible refine draw_fin ?_ ?_); · kernel_rfl
        | (with_reducible refine draw_id ?_); kernel_rfl
        | (with_reducible refine callK_id (f := 58) ?_); refine callK_inline (rs := [.tmp 2]) (n := 6) Tryd.func58 rfl rfl rfl (by kernel_rfl) (by kernel_rfl) (by simp only [List.length_cons, List.length_nil]; decide) ?_
        | (with_reducible refine And.intro ?_ ?_; · omega)
end Go.Ev
