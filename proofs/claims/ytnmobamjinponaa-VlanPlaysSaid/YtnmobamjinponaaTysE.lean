/- A part of the proof: contracts of the functions that the statement reaches. -/
import Derived.Test.YtnmobamjinponaaProg
import Derived.Test.YtnmobamjinponaaEvD
import Derived.KernelRfl
namespace Go.Ev
open Go.Proofs
set_option maxRecDepth 100000
theorem ty_ag_115 : aggT Try.prog 115 = some false := by kernel_rfl
theorem ty_ag_120 : aggT Try.prog 120 = some false := by kernel_rfl
theorem ty_ag_196 : aggT Try.prog 196 = some false := by kernel_rfl
theorem ty_ag_27 : aggT Try.prog 27 = some false := by kernel_rfl
theorem ty_ag_28 : aggT Try.prog 28 = some false := by kernel_rfl
theorem ty_ag_3 : aggT Try.prog 3 = some false := by kernel_rfl
theorem ty_ag_30 : aggT Try.prog 30 = some true := by kernel_rfl
theorem ty_ag_35 : aggT Try.prog 35 = some false := by kernel_rfl
theorem ty_ag_37 : aggT Try.prog 37 = some true := by kernel_rfl
theorem ty_ag_42 : aggT Try.prog 42 = some true := by kernel_rfl
theorem ty_by_120 : bytesE Try.prog 120 = some 2 := by kernel_rfl
theorem ty_by_26 : bytesE Try.prog 26 = some 12 := by kernel_rfl
theorem ty_by_45 : bytesE Try.prog 45 = some 12 := by kernel_rfl
theorem ty_eg_37 : Try.prog.eqGuardType Try.prog.depth 37 = false := by kernel_rfl
theorem ty_eg_42 : Try.prog.eqGuardType Try.prog.depth 42 = false := by kernel_rfl
theorem ty_lv_37 : leavesOf Try.prog 60 37 = some [.int .u16, .int .u32, .int .u32] := by kernel_rfl
theorem ty_lv_42 : leavesOf Try.prog 60 42 = some [.int .u16, .int .u32, .int .u32] := by kernel_rfl
theorem ty_of_117_0 : offT Try.prog 117 0 = some (0, 1) := by kernel_rfl
theorem ty_of_30_0 : offT Try.prog 30 0 = some (0, 1) := by kernel_rfl
theorem ty_of_30_1 : offT Try.prog 30 1 = some (1, 1) := by kernel_rfl
theorem ty_of_30_2 : offT Try.prog 30 2 = some (2, 1) := by kernel_rfl
theorem ty_of_30_3 : offT Try.prog 30 3 = some (3, 1) := by kernel_rfl
theorem ty_of_37_0 : offT Try.prog 37 0 = some (0, 1) := by kernel_rfl
theorem ty_of_37_1 : offT Try.prog 37 1 = some (1, 1) := by kernel_rfl
theorem ty_of_37_2 : offT Try.prog 37 2 = some (2, 1) := by kernel_rfl
theorem ty_of_42_0 : offT Try.prog 42 0 = some (0, 1) := by kernel_rfl
theorem ty_of_42_1 : offT Try.prog 42 1 = some (1, 1) := by kernel_rfl
theorem ty_of_42_2 : offT Try.prog 42 2 = some (2, 1) := by kernel_rfl
theorem ty_ok_117 : plOk Try.prog 117 = true := by kernel_rfl
theorem ty_ok_37 : plOk Try.prog 37 = true := by kernel_rfl
theorem ty_ok_42 : plOk Try.prog 42 = true := by kernel_rfl
theorem ty_pl_117_0 : plT Try.prog 117 0 = some (0, 1) := by kernel_rfl
theorem ty_pl_37_0 : plT Try.prog 37 0 = some (0, 1) := by kernel_rfl
theorem ty_pl_37_1 : plT Try.prog 37 1 = some (1, 1) := by kernel_rfl
theorem ty_pl_37_2 : plT Try.prog 37 2 = some (2, 1) := by kernel_rfl
theorem ty_pl_42_0 : plT Try.prog 42 0 = some (0, 1) := by kernel_rfl
theorem ty_pl_42_1 : plT Try.prog 42 1 = some (1, 1) := by kernel_rfl
theorem ty_pl_42_2 : plT Try.prog 42 2 = some (2, 1) := by kernel_rfl
theorem ty_sl_120 : slT Try.prog 120 = some 1 := by kernel_rfl
theorem ty_sl_125 : slT Try.prog 125 = some 1 := by kernel_rfl
theorem ty_sl_22 : slT Try.prog 22 = some 4 := by kernel_rfl
theorem ty_sl_26 : slT Try.prog 26 = some 3 := by kernel_rfl
theorem ty_sl_45 : slT Try.prog 45 = some 3 := by kernel_rfl
theorem ty_sr_120 : srcT Try.prog 120 = true := by kernel_rfl
theorem ty_sr_26 : srcT Try.prog 26 = true := by kernel_rfl
theorem ty_sr_45 : srcT Try.prog 45 = true := by kernel_rfl
theorem ty_sz_115 : szT Try.prog 115 = some 1 := by kernel_rfl
theorem ty_sz_120 : szT Try.prog 120 = some 1 := by kernel_rfl
theorem ty_sz_196 : szT Try.prog 196 = some 1 := by kernel_rfl
theorem ty_sz_27 : szT Try.prog 27 = some 1 := by kernel_rfl
theorem ty_sz_28 : szT Try.prog 28 = some 1 := by kernel_rfl
theorem ty_sz_3 : szT Try.prog 3 = some 1 := by kernel_rfl
theorem ty_sz_30 : szT Try.prog 30 = some 4 := by kernel_rfl
theorem ty_sz_35 : szT Try.prog 35 = some 1 := by kernel_rfl
theorem ty_sz_37 : szT Try.prog 37 = some 3 := by kernel_rfl
theorem ty_sz_42 : szT Try.prog 42 = some 3 := by kernel_rfl
theorem ty_ze_117 : zeroT Try.prog 117 = some [.raw (.map none)] := by kernel_rfl
theorem ty_ze_196 : zeroT Try.prog 196 = some [.raw (.int .u64 0)] := by kernel_rfl
theorem ty_ze_3 : zeroT Try.prog 3 = some [.raw (.int .i64 0)] := by kernel_rfl
theorem ty_ze_30 : zeroT Try.prog 30 = some [.raw (.int .u16 0), .raw (.int .u16 0), .raw (.int .u32 0), .raw (.int .u32 0)] := by kernel_rfl
theorem ty_ze_37 : zeroT Try.prog 37 = some [.raw (.int .u16 0), .raw (.int .u32 0), .raw (.int .u32 0)] := by kernel_rfl
theorem ty_ze_42 : zeroT Try.prog 42 = some [.raw (.int .u16 0), .raw (.int .u32 0), .raw (.int .u32 0)] := by kernel_rfl
theorem ty_zs_120 : zeroE Try.prog 120 = some [.raw (.int .u16 0)] := by kernel_rfl
theorem ty_zs_125 : zeroE Try.prog 125 = some [.raw (.int .i64 0)] := by kernel_rfl
theorem ty_zs_26 : zeroE Try.prog 26 = some [.raw (.int .u16 0), .raw (.int .u32 0), .raw (.int .u32 0)] := by kernel_rfl
theorem ty_zs_45 : zeroE Try.prog 45 = some [.raw (.int .u16 0), .raw (.int .u32 0), .raw (.int .u32 0)] := by kernel_rfl
theorem hmix : Try.prog.follows .mixedOrders = true := by kernel_rfl
end Go.Ev
