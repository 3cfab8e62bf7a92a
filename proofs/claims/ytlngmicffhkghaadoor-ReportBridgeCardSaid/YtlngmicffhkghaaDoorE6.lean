/- A part of the proof: contracts of the functions that the statement reaches. -/
import Derived.Test.YtlngmicffhkghaaDoorE5
namespace Go.Ev
open Go.RowKit Go.Proofs
set_option maxRecDepth 100000
set_option linter.unusedSimpArgs false
set_option linter.unusedVariables false
set_option maxHeartbeats 4000000
def encL (p : PR) : List SV := [.raw (.int .i64 p.r), .raw (.int .i64 p.s), .raw (.int .u32 (p.c : Int))]
def stateR (d : Int) (c0 c1 c2 c3 c4 c5 c6 c7 c8 c9 c10 c11 c12 c13 : Nat) (np nf : Nat) : List SV := [.raw (.int .u64 d), .raw (.int .i64 0), .raw (.int .i64 0), .raw (.int .i64 0), .raw (.int .i64 0), .raw (.int .i64 0), .slice 4 0 np, .raw (.slice none 0 0), .raw (.slice none 0 0), .slice 2 0 nf, .raw (.int .u32 (c0 : Int)), .raw (.int .u32 (c1 : Int)), .raw (.int .u32 (c2 : Int)), .raw (.int .u32 (c3 : Int)), .raw (.int .u32 (c4 : Int)), .raw (.int .u32 (c5 : Int)), .raw (.int .u32 (c6 : Int)), .raw (.int .u32 (c7 : Int)), .raw (.int .u32 (c8 : Int)), .raw (.int .u32 (c9 : Int)), .raw (.int .u32 (c10 : Int)), .raw (.int .u32 (c11 : Int)), .raw (.int .u32 (c12 : Int)), .raw (.int .u32 (c13 : Int)), .raw (.int .i64 0)]
def cntR (c0 c1 c2 c3 c4 c5 c6 c7 c8 c9 c10 c11 c12 c13 : Nat) : List SV := [.raw (.int .u32 (c0 : Int)), .raw (.int .u32 (c1 : Int)), .raw (.int .u32 (c2 : Int)), .raw (.int .u32 (c3 : Int)), .raw (.int .u32 (c4 : Int)), .raw (.int .u32 (c5 : Int)), .raw (.int .u32 (c6 : Int)), .raw (.int .u32 (c7 : Int)), .raw (.int .u32 (c8 : Int)), .raw (.int .u32 (c9 : Int)), .raw (.int .u32 (c10 : Int)), .raw (.int .u32 (c11 : Int)), .raw (.int .u32 (c12 : Int)), .raw (.int .u32 (c13 : Int))]
def zfR : List SV := [.raw (.int .u16 0), .raw (.int .u8 0), .raw (.int .u8 0), .raw (.int .u8 0), .raw (.int .u8 0), .raw (.int .u8 0), .raw (.int .u8 0), .raw (.int .i64 0), .raw (.int .i64 0)]
theorem data_join (xs : List ByteArray) : (joinB xs ⟨#[32]⟩).data.toList = Lib.join (xs.map (·.data.toList)) [32] := rfl
theorem headD (pr : Nat) (d : Int) (nf : Nat) : (((((⟨#[98, 114, 105, 100, 103, 101, 32]⟩ : ByteArray) ++ decB pr) ++ ⟨#[32]⟩) ++ macOf d) ++ ⟨#[32, 115, 116, 97, 116, 105, 111, 110, 115, 32]⟩) ++ decB nf = headS pr d nf := by
  apply ByteArray.ext; apply Array.ext'
  unfold headS
  simp only [data_join, List.map_cons, List.map_nil, Lib.join_cons, Lib.joinTail, List.flatten_cons, List.flatten_nil, ByteArray.data_append, Array.toList_append]
  simp
theorem lineD (i : Nat) (p : PR) (R T : ByteArray) (hR : nameS roleN p.r = R) (hT : nameS stateN p.s = T) : ((((((((⟨#[112, 111, 114, 116, 32]⟩ : ByteArray) ++ decB (i + 1)) ++ ⟨#[32]⟩) ++ R) ++ ⟨#[32]⟩) ++ T) ++ ⟨#[32, 99, 111, 115, 116, 32]⟩) ++ decB p.c) = lineP i p := by
  apply ByteArray.ext; apply Array.ext'
  unfold lineP
  rw [hR, hT]
  simp only [data_join, List.map_cons, List.map_nil, Lib.join_cons, Lib.joinTail, List.flatten_cons, List.flatten_nil, ByteArray.data_append, Array.toList_append]
  simp
theorem lastD (l : List Nat) : (⟨#[99, 111, 117, 110, 116, 115, 32]⟩ : ByteArray) ++ showL l = lastS l := by
  apply ByteArray.ext; apply Array.ext'
  unfold lastS
  simp only [data_join, List.map_cons, List.map_nil, Lib.join_cons, Lib.joinTail, List.flatten_cons, List.flatten_nil, ByteArray.data_append, Array.toList_append]
  simp
theorem lns_take (ps : List PR) (n : Nat) : ∀ i, i ≤ n → lnsP (ps.take n) i = lnsP ps i
  | 0, _ => rfl
  | i + 1, h => by
    rw [lnsP, lnsP, lns_take ps n i (by omega), List.getElem?_take_of_lt (by omega)]
section
variable {P : Program} {X : Ctx} {tm : TM} {H : Heap} {k : TM → Heap → Prop} {d : Option Nat} {t : Nat} {p : String} {af : Array Edge} {g : Option (Nat × Bool)}
theorem op_load {T : TypeId} {x : Operand} {v : IV} (h : stLoad P T (rd tm x) H = some (True, v, [])) (hk : k (put tm d v) H) : evOp P X ⟨d, .load T x, t, p, af, g⟩ k tm H := by
  show stepK (stLoad P T (rd tm x) H) k tm d H
  rw [h]; exact ⟨trivial, hk⟩
theorem op_bin {o : BinOp} {T U : TypeId} {x y : Operand} {c : Prop} {v : IV} (h : stBin P o T (rd tm x) (rd tm y) = some (c, v, [])) (hc : c) (hk : k (put tm d v) H) : evOp P X ⟨d, .binOp o T x y U, t, p, af, g⟩ k tm H := by
  show stepK (stBin P o T (rd tm x) (rd tm y)) k tm d H
  rw [h]; exact ⟨hc, hk⟩
theorem op_build {T n : Nat} {ps : Array (Nat × Operand)} {v : IV} {W : List (Nat × Chunk)} (h : stBuildSlice P H.length T n (ps.toList.map fun p => (p.1, rd tm p.2)) = some (True, v, W)) (hk : k (put tm d v) (upd H W)) : evOp P X ⟨d, .buildSlice T n ps, t, p, af, g⟩ k tm H := by
  show stepK (stBuildSlice P H.length T n (ps.toList.map fun p => (p.1, rd tm p.2))) k tm d H
  rw [h]; exact ⟨trivial, hk⟩
theorem op_call {f : FuncId} {xs : Array Operand} {ts : Array TypeId} (h : callK P X f (xs.toList.map (rd tm)) (retK k tm d) H) : evOp P X ⟨d, .call ⟨.value (.func f), xs, ts⟩, t, p, af, g⟩ k tm H := h
theorem op_app {x y : Operand} {T T2 : TypeId} {c : Prop} {v : IV} {W : List (Nat × Chunk)} (h : stAppend P H.length T T2 (rd tm x) (rd tm y) H = some (c, v, W)) (hc : c) (hk : k (put tm d v) (upd H W)) : evOp P X ⟨d, .call ⟨.builtin .append, #[x, y], #[T, T2]⟩, t, p, af, g⟩ k tm H := by
  show stepK (stAppend P H.length T T2 (rd tm x) (rd tm y) H) k tm d H
  rw [h]; exact ⟨hc, hk⟩
end
end Go.Ev
