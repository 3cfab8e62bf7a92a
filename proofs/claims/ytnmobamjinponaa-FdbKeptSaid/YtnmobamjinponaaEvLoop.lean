/- Loops: unrolled, or by a relation. -/
import Derived.Test.YtnmobamjinponaaEvLaw2
namespace Go.Ev
/-! #### small numbers are their own -/
theorem wl_u8_0 : IntKind.u8.wrap 0 = 0 := rfl
theorem wl_u8_1 : IntKind.u8.wrap 1 = 1 := rfl
theorem wl_u8_2 : IntKind.u8.wrap 2 = 2 := rfl
theorem wl_u8_3 : IntKind.u8.wrap 3 = 3 := rfl
theorem wl_u8_4 : IntKind.u8.wrap 4 = 4 := rfl
theorem wl_u8_5 : IntKind.u8.wrap 5 = 5 := rfl
theorem wl_u8_6 : IntKind.u8.wrap 6 = 6 := rfl
theorem wl_u8_7 : IntKind.u8.wrap 7 = 7 := rfl
theorem wl_u8_8 : IntKind.u8.wrap 8 = 8 := rfl
theorem wl_u8_9 : IntKind.u8.wrap 9 = 9 := rfl
theorem wl_u8_10 : IntKind.u8.wrap 10 = 10 := rfl
theorem wl_u8_11 : IntKind.u8.wrap 11 = 11 := rfl
theorem wl_u8_12 : IntKind.u8.wrap 12 = 12 := rfl
theorem wl_u8_13 : IntKind.u8.wrap 13 = 13 := rfl
theorem wl_u8_14 : IntKind.u8.wrap 14 = 14 := rfl
theorem wl_u8_15 : IntKind.u8.wrap 15 = 15 := rfl
theorem wl_u8_16 : IntKind.u8.wrap 16 = 16 := rfl
theorem wl_u16_0 : IntKind.u16.wrap 0 = 0 := rfl
theorem wl_u16_1 : IntKind.u16.wrap 1 = 1 := rfl
theorem wl_u16_2 : IntKind.u16.wrap 2 = 2 := rfl
theorem wl_u16_3 : IntKind.u16.wrap 3 = 3 := rfl
theorem wl_u16_4 : IntKind.u16.wrap 4 = 4 := rfl
theorem wl_u16_5 : IntKind.u16.wrap 5 = 5 := rfl
theorem wl_u16_6 : IntKind.u16.wrap 6 = 6 := rfl
theorem wl_u16_7 : IntKind.u16.wrap 7 = 7 := rfl
theorem wl_u16_8 : IntKind.u16.wrap 8 = 8 := rfl
theorem wl_u16_9 : IntKind.u16.wrap 9 = 9 := rfl
theorem wl_u16_10 : IntKind.u16.wrap 10 = 10 := rfl
theorem wl_u16_11 : IntKind.u16.wrap 11 = 11 := rfl
theorem wl_u16_12 : IntKind.u16.wrap 12 = 12 := rfl
theorem wl_u16_13 : IntKind.u16.wrap 13 = 13 := rfl
theorem wl_u16_14 : IntKind.u16.wrap 14 = 14 := rfl
theorem wl_u16_15 : IntKind.u16.wrap 15 = 15 := rfl
theorem wl_u16_16 : IntKind.u16.wrap 16 = 16 := rfl
theorem wl_u32_0 : IntKind.u32.wrap 0 = 0 := rfl
theorem wl_u32_1 : IntKind.u32.wrap 1 = 1 := rfl
theorem wl_u32_2 : IntKind.u32.wrap 2 = 2 := rfl
theorem wl_u32_3 : IntKind.u32.wrap 3 = 3 := rfl
theorem wl_u32_4 : IntKind.u32.wrap 4 = 4 := rfl
theorem wl_u32_5 : IntKind.u32.wrap 5 = 5 := rfl
theorem wl_u32_6 : IntKind.u32.wrap 6 = 6 := rfl
theorem wl_u32_7 : IntKind.u32.wrap 7 = 7 := rfl
theorem wl_u32_8 : IntKind.u32.wrap 8 = 8 := rfl
theorem wl_u32_9 : IntKind.u32.wrap 9 = 9 := rfl
theorem wl_u32_10 : IntKind.u32.wrap 10 = 10 := rfl
theorem wl_u32_11 : IntKind.u32.wrap 11 = 11 := rfl
theorem wl_u32_12 : IntKind.u32.wrap 12 = 12 := rfl
theorem wl_u32_13 : IntKind.u32.wrap 13 = 13 := rfl
theorem wl_u32_14 : IntKind.u32.wrap 14 = 14 := rfl
theorem wl_u32_15 : IntKind.u32.wrap 15 = 15 := rfl
theorem wl_u32_16 : IntKind.u32.wrap 16 = 16 := rfl
theorem wl_u64_0 : IntKind.u64.wrap 0 = 0 := rfl
theorem wl_u64_1 : IntKind.u64.wrap 1 = 1 := rfl
theorem wl_u64_2 : IntKind.u64.wrap 2 = 2 := rfl
theorem wl_u64_3 : IntKind.u64.wrap 3 = 3 := rfl
theorem wl_u64_4 : IntKind.u64.wrap 4 = 4 := rfl
theorem wl_u64_5 : IntKind.u64.wrap 5 = 5 := rfl
theorem wl_u64_6 : IntKind.u64.wrap 6 = 6 := rfl
theorem wl_u64_7 : IntKind.u64.wrap 7 = 7 := rfl
theorem wl_u64_8 : IntKind.u64.wrap 8 = 8 := rfl
theorem wl_u64_9 : IntKind.u64.wrap 9 = 9 := rfl
theorem wl_u64_10 : IntKind.u64.wrap 10 = 10 := rfl
theorem wl_u64_11 : IntKind.u64.wrap 11 = 11 := rfl
theorem wl_u64_12 : IntKind.u64.wrap 12 = 12 := rfl
theorem wl_u64_13 : IntKind.u64.wrap 13 = 13 := rfl
theorem wl_u64_14 : IntKind.u64.wrap 14 = 14 := rfl
theorem wl_u64_15 : IntKind.u64.wrap 15 = 15 := rfl
theorem wl_u64_16 : IntKind.u64.wrap 16 = 16 := rfl
theorem wl_i32_0 : IntKind.i32.wrap 0 = 0 := rfl
theorem wl_i32_1 : IntKind.i32.wrap 1 = 1 := rfl
theorem wl_i32_2 : IntKind.i32.wrap 2 = 2 := rfl
theorem wl_i32_3 : IntKind.i32.wrap 3 = 3 := rfl
theorem wl_i32_4 : IntKind.i32.wrap 4 = 4 := rfl
theorem wl_i32_5 : IntKind.i32.wrap 5 = 5 := rfl
theorem wl_i32_6 : IntKind.i32.wrap 6 = 6 := rfl
theorem wl_i32_7 : IntKind.i32.wrap 7 = 7 := rfl
theorem wl_i32_8 : IntKind.i32.wrap 8 = 8 := rfl
theorem wl_i32_9 : IntKind.i32.wrap 9 = 9 := rfl
theorem wl_i32_10 : IntKind.i32.wrap 10 = 10 := rfl
theorem wl_i32_11 : IntKind.i32.wrap 11 = 11 := rfl
theorem wl_i32_12 : IntKind.i32.wrap 12 = 12 := rfl
theorem wl_i32_13 : IntKind.i32.wrap 13 = 13 := rfl
theorem wl_i32_14 : IntKind.i32.wrap 14 = 14 := rfl
theorem wl_i32_15 : IntKind.i32.wrap 15 = 15 := rfl
theorem wl_i32_16 : IntKind.i32.wrap 16 = 16 := rfl
theorem wl_i64_0 : IntKind.i64.wrap 0 = 0 := rfl
theorem wl_i64_1 : IntKind.i64.wrap 1 = 1 := rfl
theorem wl_i64_2 : IntKind.i64.wrap 2 = 2 := rfl
theorem wl_i64_3 : IntKind.i64.wrap 3 = 3 := rfl
theorem wl_i64_4 : IntKind.i64.wrap 4 = 4 := rfl
theorem wl_i64_5 : IntKind.i64.wrap 5 = 5 := rfl
theorem wl_i64_6 : IntKind.i64.wrap 6 = 6 := rfl
theorem wl_i64_7 : IntKind.i64.wrap 7 = 7 := rfl
theorem wl_i64_8 : IntKind.i64.wrap 8 = 8 := rfl
theorem wl_i64_9 : IntKind.i64.wrap 9 = 9 := rfl
theorem wl_i64_10 : IntKind.i64.wrap 10 = 10 := rfl
theorem wl_i64_11 : IntKind.i64.wrap 11 = 11 := rfl
theorem wl_i64_12 : IntKind.i64.wrap 12 = 12 := rfl
theorem wl_i64_13 : IntKind.i64.wrap 13 = 13 := rfl
theorem wl_i64_14 : IntKind.i64.wrap 14 = 14 := rfl
theorem wl_i64_15 : IntKind.i64.wrap 15 = 15 := rfl
theorem wl_i64_16 : IntKind.i64.wrap 16 = 16 := rfl
section
variable {P : Program} {n : Nat} {X : Ctx} {c : Code} {Q : Exit → TM → Heap → Prop} {tm : TM} {H : Heap}
def loopN (P : Program) (n : Nat) (X : Ctx) (c : Code) (Q : Exit → TM → Heap → Prop) : Nat → TM → Heap → Prop
  | 0 => fun _ _ => False
  | k + 1 => ev P n X c (seqQ (loopN P n X c Q k) Q)
theorem e_loopN {k : Nat} : loopN P n X c Q (k + 1) tm H = ev P n X c (seqQ (loopN P n X c Q k) Q) tm H := rfl
theorem loopK_n (k : Nat) (hok : codeOk n c = true) (h : loopN P n X c Q k tm H) : loopK P n X c Q tm H := by
  refine IW_loop (fun m tm H => loopN P n X c Q m tm H) k h fun m tm H hI => ?_
  cases m with
  | zero => exact hI.elim
  | succ m =>
    refine IW_mono (ev_sound c hok _ _ _ hI) fun e tm H q => ?_
    cases e with
    | normal => exact ⟨m, by omega, q⟩
    | _ => exact q
theorem loopK_inv (hok : codeOk n c = true) (I : Nat → TM → Heap → Prop) (m : Nat) (h0 : I m tm H)
    (round : ∀ m tm H, I m tm H → ev P n X c (seqQ (fun tm' H' => ∃ m', m' < m ∧ I m' tm' H') Q) tm H) : loopK P n X c Q tm H :=
  IW_loop I m h0 fun m tm H hI => ev_sound c hok _ _ _ (round m tm H hI)
theorem g_eqn {A B : TM → Heap → Prop} {a : Int} {m : Nat} {inst : OfNat Int m} (h1 : a = @OfNat.ofNat Int m inst → A tm H) (h2 : (a == @OfNat.ofNat Int m inst) = false → B tm H) : gdb (a == @OfNat.ofNat Int m inst) A B tm H :=
  gdb_split (fun h => h1 (by simpa using h)) h2
theorem loopK_id (h : loopK P n X c Q tm H) : loopK P n X c Q tm H := h
end
end Go.Ev
