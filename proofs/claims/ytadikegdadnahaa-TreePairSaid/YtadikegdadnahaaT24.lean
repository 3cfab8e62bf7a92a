/- A part of the proof: contracts of the functions that the statement reaches. -/
import Derived.Test.YtadikegdadnahaaT23
namespace Go.Ev
open Go.Proofs
set_option maxRecDepth 100000
set_option linter.unusedSimpArgs false
set_option linter.unusedVariables false
set_option maxHeartbeats 4000000
theorem encTE_def (t : TE) : encTE t = .raw (.int .i64 t.port) :: [.raw (.int .u8 t.d.kind), .raw (.bool t.d.top), .raw (.bool t.d.prop), .raw (.bool t.d.lrn), .raw (.bool t.d.fwd), .raw (.bool t.d.agr), .raw (.bool t.d.ack), .raw (.int .u8 t.d.role), .raw (.int .u64 t.d.root), .raw (.int .u32 t.d.cost), .raw (.int .u64 t.d.br), .raw (.int .u16 t.d.port), .raw (.int .u16 t.d.age), .raw (.int .u16 t.d.ma), .raw (.int .u16 t.d.he), .raw (.int .u16 t.d.de)] := rfl
def encTEs (l : List TE) : List (List SV) := l.map encTE
theorem encTEs_len (l : List TE) : (encTEs l).length = l.length := List.length_map _
theorem encTEs_get {l : List TE} {i : Nat} {p : TE} (h : l[i]? = some p) : (encTEs l)[i]? = some (encTE p) := by unfold encTEs; rw [List.getElem?_map, h]; rfl
theorem encTEs_pull (σ : List Nat) (l : List TE) : (encTEs l).map (fun r => r.map (pullS σ)) = encTEs l := by unfold encTEs; rw [List.map_map]; rfl
theorem cT_s (l : List TE) : cT l = .rows true 17 (encTEs l) := rfl
def HrS (a : AS) : Heap := [rP a.ps, rV a.vs, rS a.ss, rD a.ds, rT a.told, rF a.fl]
structure A18 where
  (what port kind role : Int) (f0 f1 f2 f3 : Bool) (v0 v1 v2 v3 age : Int) (own : Bool)
  deriving Inhabited
end Go.Ev
