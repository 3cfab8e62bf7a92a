/- A part of the proof: contracts of the functions that the statement reaches. -/
import Derived.Test.YtadikegdadnahaaT3
namespace Go.Ev
open Go.Proofs
set_option maxRecDepth 100000
set_option linter.unusedSimpArgs false
set_option linter.unusedVariables false
set_option maxHeartbeats 4000000
structure PD where
  (kind : Int) (top prop lrn fwd agr ack : Bool) (role root cost br port age ma he de : Int)
  deriving DecidableEq
structure TE where
  (port : Int) (d : PD)
  deriving DecidableEq
def encPD (d : PD) : List SV := [.raw (.int .u8 d.kind), .raw (.bool d.top), .raw (.bool d.prop), .raw (.bool d.lrn), .raw (.bool d.fwd), .raw (.bool d.agr), .raw (.bool d.ack), .raw (.int .u8 d.role), .raw (.int .u64 d.root), .raw (.int .u32 d.cost), .raw (.int .u64 d.br), .raw (.int .u16 d.port), .raw (.int .u16 d.age), .raw (.int .u16 d.ma), .raw (.int .u16 d.he), .raw (.int .u16 d.de)]
def encTE (t : TE) : List SV := .raw (.int .i64 t.port) :: encPD t.d
structure AS where
  (cf : CF) (cn : Nat → Int) (vs ss ds : List (List Value)) (ps : List PE) (beat : Int) (told : List TE) (fl : List Int)
def rawR (l : List (List Value)) : List (List SV) := l.map fun r => r.map SV.raw
def rowA (p v s d t f : Nat) (a : AS) : List SV := [.raw (.int .u64 a.cf.id), .raw (.int .i64 a.cf.ma), .raw (.int .i64 a.cf.he), .raw (.int .i64 a.cf.de), .raw (.int .i64 a.cf.rm), .raw (.int .i64 a.cf.lv), .slice p 0 a.ps.length, .slice v 0 a.vs.length, .slice s 0 a.ss.length, .slice d 0 a.ds.length,
  .raw (.int .u32 (a.cn 0)), .raw (.int .u32 (a.cn 1)), .raw (.int .u32 (a.cn 2)), .raw (.int .u32 (a.cn 3)), .raw (.int .u32 (a.cn 4)), .raw (.int .u32 (a.cn 5)), .raw (.int .u32 (a.cn 6)), .raw (.int .u32 (a.cn 7)), .raw (.int .u32 (a.cn 8)), .raw (.int .u32 (a.cn 9)), .raw (.int .u32 (a.cn 10)), .raw (.int .u32 (a.cn 11)), .raw (.int .u32 (a.cn 12)), .raw (.int .u32 (a.cn 13)),
  .raw (.int .i64 a.beat), .slice t 0 a.told.length, .slice f 0 a.fl.length]
def cP (l : List PE) : Chunk := .rows true 21 (l.map encPE)
def cV (l : List (List Value)) : Chunk := .rows true 3 (rawR l)
def cS (l : List (List Value)) : Chunk := .rows true 8 (rawR l)
def cD (l : List (List Value)) : Chunk := .rows true 9 (rawR l)
def cT (l : List TE) : Chunk := .rows true 17 (l.map encTE)
def cF (l : List Int) : Chunk := .rows true 1 (l.map sI)
def AH (a : AS) : Heap := [.rows true 27 [rowA 1 2 3 4 5 6 a], cP a.ps, cV a.vs, cS a.ss, cD a.ds, cT a.told, cF a.fl]
def AH2 (a : AS) : Heap := [.rows true 27 [rowA 1 2 3 4 7 8 a], cP a.ps, cV a.vs, cS a.ss, cD a.ds, .gone, .gone, cT a.told, cF a.fl]
theorem rawR_map (f : SV → SV) (hf : ∀ v, f (.raw v) = .raw v) (l : List (List Value)) : (rawR l).map (fun r => r.map f) = rawR l := by simp [rawR, Function.comp_def, hf]
theorem mapC_rows (f : SV → SV) (g : IV → IV) (o : Bool) (k : Nat) (l : List (List SV)) : mapC f g (.rows o k l) = .rows o k (l.map fun r => r.map f) := rfl
theorem mapC_gone (f : SV → SV) (g : IV → IV) : mapC f g .gone = .gone := rfl
theorem pushC_rows (σ : List Nat) (k : Nat) (l : List (List SV)) : pushC σ (.rows true k l) = .rows true k (l.map fun r => r.map (pushS σ)) := rfl
theorem pushC_gone (σ : List Nat) : pushC σ .gone = .gone := rfl
theorem pullD16 (σ : List Nat) (d : TE) : (encTE d).map (pullS σ) = encTE d := rfl
theorem pushD16 (σ : List Nat) (d : TE) : (encTE d).map (pushS σ) = encTE d := rfl
theorem pullP (σ : List Nat) (g : IV → IV) (l : List PE) : mapC (pullS σ) g (cP l) = cP l := by
  show Chunk.rows true _ _ = _
  unfold cP
  congr 1
  rw [List.map_map]; rfl
theorem pushP (σ : List Nat) (l : List PE) : pushC σ (cP l) = cP l := by
  show Chunk.rows true _ _ = _
  unfold cP
  congr 1
  rw [List.map_map]; rfl
theorem pullV (σ : List Nat) (g : IV → IV) (l : List (List Value)) : mapC (pullS σ) g (cV l) = cV l := by
  show Chunk.rows true _ _ = _
  unfold cV
  congr 1
  exact rawR_map (pullS σ) (fun _ => rfl) l
theorem pushV (σ : List Nat) (l : List (List Value)) : pushC σ (cV l) = cV l := by
  show Chunk.rows true _ _ = _
  unfold cV
  congr 1
  exact rawR_map (pushS σ) (fun _ => rfl) l
theorem pullSS (σ : List Nat) (g : IV → IV) (l : List (List Value)) : mapC (pullS σ) g (cS l) = cS l := by
  show Chunk.rows true _ _ = _
  unfold cS
  congr 1
  exact rawR_map (pullS σ) (fun _ => rfl) l
theorem pushSS (σ : List Nat) (l : List (List Value)) : pushC σ (cS l) = cS l := by
  show Chunk.rows true _ _ = _
  unfold cS
  congr 1
  exact rawR_map (pushS σ) (fun _ => rfl) l
theorem pullD (σ : List Nat) (g : IV → IV) (l : List (List Value)) : mapC (pullS σ) g (cD l) = cD l := by
  show Chunk.rows true _ _ = _
  unfold cD
  congr 1
  exact rawR_map (pullS σ) (fun _ => rfl) l
theorem pushD (σ : List Nat) (l : List (List Value)) : pushC σ (cD l) = cD l := by
  show Chunk.rows true _ _ = _
  unfold cD
  congr 1
  exact rawR_map (pushS σ) (fun _ => rfl) l
theorem pullT (σ : List Nat) (g : IV → IV) (l : List TE) : mapC (pullS σ) g (cT l) = cT l := by
  show Chunk.rows true _ _ = _
  unfold cT
  congr 1
  rw [List.map_map]; rfl
theorem pushT (σ : List Nat) (l : List TE) : pushC σ (cT l) = cT l := by
  show Chunk.rows true _ _ = _
  unfold cT
  congr 1
  rw [List.map_map]; rfl
theorem pullF (σ : List Nat) (g : IV → IV) (l : List Int) : mapC (pullS σ) g (cF l) = cF l := by
  show Chunk.rows true _ _ = _
  unfold cF
  congr 1
  rw [List.map_map]; rfl
theorem pushF (σ : List Nat) (l : List Int) : pushC σ (cF l) = cF l := by
  show Chunk.rows true _ _ = _
  unfold cF
  congr 1
  rw [List.map_map]; rfl
def pduV (v : V4) : PD := ⟨2, false, false, false, false, false, false, 0, v.r, v.c, v.b, v.p, 0, 0, 0, 0⟩
def sendA (a : AS) (port : Int) (d : PD) : AS := { a with told := a.told ++ [⟨port, d⟩] }
theorem c_pdu (v : V4) : Fun Try.prog 62 [.a (encV v)] (.a (encPD (pduV v))) := by
  refine fun_of rfl fun X => ?_
  refine callK_inline (rs := [.cell 2 55]) (n := 12) Try.func62 rfl rfl rfl (by kernel_rfl) (by kernel_rfl) (by simp only [List.length_cons, List.length_nil]; decide) ?_
  repeat' first
    | with_reducible rfl
    | simp only [*, pduV, encPD, encV, RS_, FB_, mapC, pushC, segR, ST_, seval, ne_eq, bne, forall_const, implies_true, TY_, WLS]
    | with_reducible refine g_eq (fun h => ?_) (fun h => ?_)
    | with_reducible refine gdb_split (fun h => ?_) (fun h => ?_)
    | (with_reducible refine drawK_id ?_); refine drawK_auto hmix (by kernel_rfl) ?_
    | (with_reducible refine draw_fin ?_ ?_); · kernel_rfl
    | (with_reducible refine draw_id ?_); kernel_rfl
    | (with_reducible refine And.intro ?_ ?_; · omega)
theorem c_pdu' {v_0 v_1 v_2 v_3 : Int} : Fun Try.prog 62 [.a [.raw (.int .u64 v_0), .raw (.int .u32 v_1), .raw (.int .u64 v_2), .raw (.int .u16 v_3)]] (.a (encPD (pduV ⟨v_0, v_1, v_2, v_3⟩))) := c_pdu ⟨v_0, v_1, v_2, v_3⟩
theorem c_send (a : AS) (port : Int) (d : PD) (hb : a.told.length ≤ 1000000) : FunW Try.prog 63 [] (AH a) [.s (.ptr 0 0 0), .s (.raw (.int .i64 port)), .a (encPD d)] fun r Hn => r = .t [] ∧ Hn = AH2 (sendA a port d) := by
  refine funW_of fun X => ?_
  refine callK_inline (rs := []) (n := 20) Try.func63 rfl rfl rfl (by kernel_rfl) (by kernel_rfl) (by simp only [List.length_cons, List.length_nil]; decide) ?_
  unfold AH
  repeat' first
    | with_reducible rfl
    | simp only [rowA, cT, encPD, List.length_map, RS_, FB_, mapC, pushC, segR, ST_, seval, ne_eq, bne, forall_const, implies_true, TY_, WLS]
    | with_reducible refine gdb_split (fun h => ?_) (fun h => ?_)
    | (with_reducible refine drawK_id ?_); refine drawK_auto hmix (by kernel_rfl) ?_
    | (with_reducible refine draw_fin ?_ ?_); · kernel_rfl
    | (with_reducible refine draw_id ?_); kernel_rfl
    | (with_reducible refine And.intro ?_ ?_; · omega)
  all_goals (refine ⟨.t [], AH2 (sendA a port d), (WkR.can [(17, 0, 0, 25), (1, 0, 0, 26)] [.inl 0, .inl 1, .inl 2, .inl 3, .inl 4, .inl 5, .inl 6, .inr 0, .inr 1] rfl (by simp [patL])).to rfl ?_, by simp [AH2], rfl, rfl⟩; simp [Function.comp_def, get_gcT, get, put, gcI, pullI, push1, pushI, pullS, pushS, gcH, patL, canL, canH, canTL, canT, segR, ix, upd, up1, mapC_rows, mapC_gone, pushC_rows, pushC_gone, pullP, pullV, pullSS, pullD, pullT, pullF, pushP, pushV, pushSS, pushD, pushT, pushF, pullD16, pushD16, AH2, rowA, cT, cF, pull_I, push_I, pull_PE, push_PE, cT, encTE, encPD, sendA])
end Go.Ev
