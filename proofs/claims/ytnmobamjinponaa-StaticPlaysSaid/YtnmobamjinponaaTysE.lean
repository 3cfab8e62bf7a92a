/- A part of the proof: contracts of the functions that the statement reaches. -/
import Derived.Test.YtnmobamjinponaaProg
import Derived.Test.YtnmobamjinponaaEvD
import Derived.KernelRfl
namespace Go.Ev
open Go.Proofs
set_option maxRecDepth 100000
theorem ty_ag_102 : aggT Try.prog 102 = some true := by kernel_rfl
theorem ty_ag_115 : aggT Try.prog 115 = some false := by kernel_rfl
theorem ty_ag_120 : aggT Try.prog 120 = some false := by kernel_rfl
theorem ty_ag_127 : aggT Try.prog 127 = some false := by kernel_rfl
theorem ty_ag_140 : aggT Try.prog 140 = some false := by kernel_rfl
theorem ty_ag_146 : aggT Try.prog 146 = some true := by kernel_rfl
theorem ty_ag_196 : aggT Try.prog 196 = some false := by kernel_rfl
theorem ty_ag_27 : aggT Try.prog 27 = some false := by kernel_rfl
theorem ty_ag_28 : aggT Try.prog 28 = some false := by kernel_rfl
theorem ty_ag_3 : aggT Try.prog 3 = some false := by kernel_rfl
theorem ty_ag_30 : aggT Try.prog 30 = some true := by kernel_rfl
theorem ty_ag_35 : aggT Try.prog 35 = some false := by kernel_rfl
theorem ty_ag_37 : aggT Try.prog 37 = some true := by kernel_rfl
theorem ty_ag_4 : aggT Try.prog 4 = some false := by kernel_rfl
theorem ty_ag_42 : aggT Try.prog 42 = some true := by kernel_rfl
theorem ty_ag_5 : aggT Try.prog 5 = some false := by kernel_rfl
theorem ty_ag_54 : aggT Try.prog 54 = some true := by kernel_rfl
theorem ty_ag_56 : aggT Try.prog 56 = some true := by kernel_rfl
theorem ty_ag_57 : aggT Try.prog 57 = some true := by kernel_rfl
theorem ty_ag_59 : aggT Try.prog 59 = some true := by kernel_rfl
theorem ty_ag_67 : aggT Try.prog 67 = some true := by kernel_rfl
theorem ty_ag_70 : aggT Try.prog 70 = some true := by kernel_rfl
theorem ty_ag_83 : aggT Try.prog 83 = some false := by kernel_rfl
theorem ty_ag_86 : aggT Try.prog 86 = some true := by kernel_rfl
theorem ty_ag_88 : aggT Try.prog 88 = some true := by kernel_rfl
theorem ty_ag_9 : aggT Try.prog 9 = some false := by kernel_rfl
theorem ty_ag_97 : aggT Try.prog 97 = some false := by kernel_rfl
theorem ty_ag_99 : aggT Try.prog 99 = some true := by kernel_rfl
theorem ty_ar_54 : arrT Try.prog 54 = some (6, 1, false) := by kernel_rfl
theorem ty_ar_57 : arrT Try.prog 57 = some (6, 1, false) := by kernel_rfl
theorem ty_ar_75 : arrT Try.prog 75 = some (2, 1, false) := by kernel_rfl
theorem ty_by_120 : bytesE Try.prog 120 = some 2 := by kernel_rfl
theorem ty_by_138 : bytesE Try.prog 138 = some 1 := by kernel_rfl
theorem ty_by_26 : bytesE Try.prog 26 = some 12 := by kernel_rfl
theorem ty_by_45 : bytesE Try.prog 45 = some 12 := by kernel_rfl
theorem ty_by_53 : bytesE Try.prog 53 = some 12 := by kernel_rfl
theorem ty_by_72 : bytesE Try.prog 72 = some 12 := by kernel_rfl
theorem ty_by_93 : bytesE Try.prog 93 = some 24 := by kernel_rfl
theorem ty_by_97 : bytesE Try.prog 97 = some 24 := by kernel_rfl
theorem ty_eg_102 : Try.prog.eqGuardType Try.prog.depth 102 = false := by kernel_rfl
theorem ty_eg_37 : Try.prog.eqGuardType Try.prog.depth 37 = false := by kernel_rfl
theorem ty_eg_42 : Try.prog.eqGuardType Try.prog.depth 42 = false := by kernel_rfl
theorem ty_eg_54 : Try.prog.eqGuardType Try.prog.depth 54 = false := by kernel_rfl
theorem ty_eg_59 : Try.prog.eqGuardType Try.prog.depth 59 = false := by kernel_rfl
theorem ty_eg_67 : Try.prog.eqGuardType Try.prog.depth 67 = false := by kernel_rfl
theorem ty_eg_88 : Try.prog.eqGuardType Try.prog.depth 88 = false := by kernel_rfl
theorem ty_ib_138 : isBytesT Try.prog 138 = true := by kernel_rfl
theorem ty_lv_102 : leavesOf Try.prog 60 102 = some [.int .u16, .int .u8, .int .u8, .int .u8, .int .u8, .int .u8, .int .u8, .int .i64, .int .i64] := by kernel_rfl
theorem ty_lv_37 : leavesOf Try.prog 60 37 = some [.int .u16, .int .u32, .int .u32] := by kernel_rfl
theorem ty_lv_42 : leavesOf Try.prog 60 42 = some [.int .u16, .int .u32, .int .u32] := by kernel_rfl
theorem ty_lv_54 : leavesOf Try.prog 60 54 = some [.int .u8, .int .u8, .int .u8, .int .u8, .int .u8, .int .u8] := by kernel_rfl
theorem ty_lv_59 : leavesOf Try.prog 60 59 = some [.int .u16, .int .u8, .int .u8, .int .u8, .int .u8, .int .u8, .int .u8] := by kernel_rfl
theorem ty_lv_67 : leavesOf Try.prog 60 67 = some [.int .u16, .int .u8, .int .u8, .int .u8, .int .u8, .int .u8, .int .u8, .int .u32] := by kernel_rfl
theorem ty_lv_88 : leavesOf Try.prog 60 88 = some [.int .u16, .int .u8, .int .u8, .int .u8, .int .u8, .int .u8, .int .u8, .int .i64, .int .i64] := by kernel_rfl
theorem ty_of_102_0 : offT Try.prog 102 0 = some (0, 1) := by kernel_rfl
theorem ty_of_102_1 : offT Try.prog 102 1 = some (1, 6) := by kernel_rfl
theorem ty_of_102_2 : offT Try.prog 102 2 = some (7, 1) := by kernel_rfl
theorem ty_of_102_3 : offT Try.prog 102 3 = some (8, 1) := by kernel_rfl
theorem ty_of_117_0 : offT Try.prog 117 0 = some (0, 1) := by kernel_rfl
theorem ty_of_129_0 : offT Try.prog 129 0 = some (0, 1) := by kernel_rfl
theorem ty_of_142_0 : offT Try.prog 142 0 = some (0, 1) := by kernel_rfl
theorem ty_of_142_1 : offT Try.prog 142 1 = some (1, 1) := by kernel_rfl
theorem ty_of_142_2 : offT Try.prog 142 2 = some (2, 1) := by kernel_rfl
theorem ty_of_146_0 : offT Try.prog 146 0 = some (0, 1) := by kernel_rfl
theorem ty_of_146_1 : offT Try.prog 146 1 = some (1, 1) := by kernel_rfl
theorem ty_of_182_0 : offT Try.prog 182 0 = some (0, 1) := by kernel_rfl
theorem ty_of_182_1 : offT Try.prog 182 1 = some (1, 1) := by kernel_rfl
theorem ty_of_30_0 : offT Try.prog 30 0 = some (0, 1) := by kernel_rfl
theorem ty_of_30_1 : offT Try.prog 30 1 = some (1, 1) := by kernel_rfl
theorem ty_of_30_2 : offT Try.prog 30 2 = some (2, 1) := by kernel_rfl
theorem ty_of_30_3 : offT Try.prog 30 3 = some (3, 1) := by kernel_rfl
theorem ty_of_37_0 : offT Try.prog 37 0 = some (0, 1) := by kernel_rfl
theorem ty_of_37_1 : offT Try.prog 37 1 = some (1, 1) := by kernel_rfl
theorem ty_of_37_2 : offT Try.prog 37 2 = some (2, 1) := by kernel_rfl
theorem ty_of_42_0 : offT Try.prog 42 0 = some (0, 1) := by kernel_rfl
theorem ty_of_42_1 : offT Try.prog 42 1 = some (1, 1) := by kernel_rfl
theorem ty_of_42_2 : offT Try.prog 42 2 = some (2, 1) := by kernel_rfl
theorem ty_of_56_0 : offT Try.prog 56 0 = some (0, 1) := by kernel_rfl
theorem ty_of_56_1 : offT Try.prog 56 1 = some (1, 1) := by kernel_rfl
theorem ty_of_56_2 : offT Try.prog 56 2 = some (2, 6) := by kernel_rfl
theorem ty_of_56_3 : offT Try.prog 56 3 = some (8, 1) := by kernel_rfl
theorem ty_of_59_0 : offT Try.prog 59 0 = some (0, 1) := by kernel_rfl
theorem ty_of_59_1 : offT Try.prog 59 1 = some (1, 6) := by kernel_rfl
theorem ty_of_67_0 : offT Try.prog 67 0 = some (0, 1) := by kernel_rfl
theorem ty_of_67_1 : offT Try.prog 67 1 = some (1, 6) := by kernel_rfl
theorem ty_of_67_2 : offT Try.prog 67 2 = some (7, 1) := by kernel_rfl
theorem ty_of_70_0 : offT Try.prog 70 0 = some (0, 7) := by kernel_rfl
theorem ty_of_70_1 : offT Try.prog 70 1 = some (7, 1) := by kernel_rfl
theorem ty_of_86_0 : offT Try.prog 86 0 = some (0, 1) := by kernel_rfl
theorem ty_of_86_1 : offT Try.prog 86 1 = some (1, 1) := by kernel_rfl
theorem ty_of_86_2 : offT Try.prog 86 2 = some (2, 6) := by kernel_rfl
theorem ty_of_86_3 : offT Try.prog 86 3 = some (8, 1) := by kernel_rfl
theorem ty_of_86_4 : offT Try.prog 86 4 = some (9, 1) := by kernel_rfl
theorem ty_of_88_0 : offT Try.prog 88 0 = some (0, 7) := by kernel_rfl
theorem ty_of_88_1 : offT Try.prog 88 1 = some (7, 1) := by kernel_rfl
theorem ty_of_88_2 : offT Try.prog 88 2 = some (8, 1) := by kernel_rfl
theorem ty_of_99_0 : offT Try.prog 99 0 = some (0, 1) := by kernel_rfl
theorem ty_of_99_1 : offT Try.prog 99 1 = some (1, 1) := by kernel_rfl
theorem ty_of_99_2 : offT Try.prog 99 2 = some (2, 1) := by kernel_rfl
theorem ty_ok_102 : plOk Try.prog 102 = true := by kernel_rfl
theorem ty_ok_117 : plOk Try.prog 117 = true := by kernel_rfl
theorem ty_ok_129 : plOk Try.prog 129 = true := by kernel_rfl
theorem ty_ok_142 : plOk Try.prog 142 = true := by kernel_rfl
theorem ty_ok_146 : plOk Try.prog 146 = true := by kernel_rfl
theorem ty_ok_182 : plOk Try.prog 182 = true := by kernel_rfl
theorem ty_ok_37 : plOk Try.prog 37 = true := by kernel_rfl
theorem ty_ok_42 : plOk Try.prog 42 = true := by kernel_rfl
theorem ty_ok_57 : plOk Try.prog 57 = true := by kernel_rfl
theorem ty_ok_59 : plOk Try.prog 59 = true := by kernel_rfl
theorem ty_ok_67 : plOk Try.prog 67 = true := by kernel_rfl
theorem ty_ok_70 : plOk Try.prog 70 = true := by kernel_rfl
theorem ty_ok_88 : plOk Try.prog 88 = true := by kernel_rfl
theorem ty_ok_99 : plOk Try.prog 99 = true := by kernel_rfl
theorem ty_pl_102_0 : plT Try.prog 102 0 = some (0, 1) := by kernel_rfl
theorem ty_pl_102_1 : plT Try.prog 102 1 = some (1, 6) := by kernel_rfl
theorem ty_pl_102_2 : plT Try.prog 102 2 = some (7, 1) := by kernel_rfl
theorem ty_pl_102_3 : plT Try.prog 102 3 = some (8, 1) := by kernel_rfl
theorem ty_pl_117_0 : plT Try.prog 117 0 = some (0, 1) := by kernel_rfl
theorem ty_pl_129_0 : plT Try.prog 129 0 = some (0, 1) := by kernel_rfl
theorem ty_pl_142_0 : plT Try.prog 142 0 = some (0, 1) := by kernel_rfl
theorem ty_pl_142_1 : plT Try.prog 142 1 = some (1, 1) := by kernel_rfl
theorem ty_pl_142_2 : plT Try.prog 142 2 = some (2, 1) := by kernel_rfl
theorem ty_pl_146_0 : plT Try.prog 146 0 = some (0, 1) := by kernel_rfl
theorem ty_pl_146_1 : plT Try.prog 146 1 = some (1, 1) := by kernel_rfl
theorem ty_pl_182_0 : plT Try.prog 182 0 = some (0, 1) := by kernel_rfl
theorem ty_pl_37_0 : plT Try.prog 37 0 = some (0, 1) := by kernel_rfl
theorem ty_pl_37_1 : plT Try.prog 37 1 = some (1, 1) := by kernel_rfl
theorem ty_pl_37_2 : plT Try.prog 37 2 = some (2, 1) := by kernel_rfl
theorem ty_pl_42_0 : plT Try.prog 42 0 = some (0, 1) := by kernel_rfl
theorem ty_pl_42_1 : plT Try.prog 42 1 = some (1, 1) := by kernel_rfl
theorem ty_pl_42_2 : plT Try.prog 42 2 = some (2, 1) := by kernel_rfl
theorem ty_pl_57_0 : plT Try.prog 57 0 = some (0, 1) := by kernel_rfl
theorem ty_pl_57_1 : plT Try.prog 57 1 = some (1, 1) := by kernel_rfl
theorem ty_pl_57_2 : plT Try.prog 57 2 = some (2, 1) := by kernel_rfl
theorem ty_pl_57_3 : plT Try.prog 57 3 = some (3, 1) := by kernel_rfl
theorem ty_pl_57_4 : plT Try.prog 57 4 = some (4, 1) := by kernel_rfl
theorem ty_pl_57_5 : plT Try.prog 57 5 = some (5, 1) := by kernel_rfl
theorem ty_pl_59_0 : plT Try.prog 59 0 = some (0, 1) := by kernel_rfl
theorem ty_pl_59_1 : plT Try.prog 59 1 = some (1, 6) := by kernel_rfl
theorem ty_pl_67_0 : plT Try.prog 67 0 = some (0, 1) := by kernel_rfl
theorem ty_pl_67_1 : plT Try.prog 67 1 = some (1, 6) := by kernel_rfl
theorem ty_pl_67_2 : plT Try.prog 67 2 = some (7, 1) := by kernel_rfl
theorem ty_pl_70_0 : plT Try.prog 70 0 = some (0, 7) := by kernel_rfl
theorem ty_pl_70_1 : plT Try.prog 70 1 = some (7, 1) := by kernel_rfl
theorem ty_pl_88_0 : plT Try.prog 88 0 = some (0, 7) := by kernel_rfl
theorem ty_pl_88_1 : plT Try.prog 88 1 = some (7, 1) := by kernel_rfl
theorem ty_pl_88_2 : plT Try.prog 88 2 = some (8, 1) := by kernel_rfl
theorem ty_pl_99_0 : plT Try.prog 99 0 = some (0, 1) := by kernel_rfl
theorem ty_pl_99_1 : plT Try.prog 99 1 = some (1, 1) := by kernel_rfl
theorem ty_sf_138 : strT Try.prog 138 = false := by kernel_rfl
theorem ty_sl_120 : slT Try.prog 120 = some 1 := by kernel_rfl
theorem ty_sl_125 : slT Try.prog 125 = some 1 := by kernel_rfl
theorem ty_sl_138 : slT Try.prog 138 = some 1 := by kernel_rfl
theorem ty_sl_22 : slT Try.prog 22 = some 4 := by kernel_rfl
theorem ty_sl_26 : slT Try.prog 26 = some 3 := by kernel_rfl
theorem ty_sl_45 : slT Try.prog 45 = some 3 := by kernel_rfl
theorem ty_sl_50 : slT Try.prog 50 = some 9 := by kernel_rfl
theorem ty_sl_53 : slT Try.prog 53 = some 8 := by kernel_rfl
theorem ty_sl_72 : slT Try.prog 72 = some 8 := by kernel_rfl
theorem ty_sl_82 : slT Try.prog 82 = some 10 := by kernel_rfl
theorem ty_sl_93 : slT Try.prog 93 = some 9 := by kernel_rfl
theorem ty_sl_97 : slT Try.prog 97 = some 9 := by kernel_rfl
theorem ty_sr_120 : srcT Try.prog 120 = true := by kernel_rfl
theorem ty_sr_26 : srcT Try.prog 26 = true := by kernel_rfl
theorem ty_sr_45 : srcT Try.prog 45 = true := by kernel_rfl
theorem ty_sr_53 : srcT Try.prog 53 = true := by kernel_rfl
theorem ty_sr_72 : srcT Try.prog 72 = true := by kernel_rfl
theorem ty_sr_93 : srcT Try.prog 93 = true := by kernel_rfl
theorem ty_sr_97 : srcT Try.prog 97 = true := by kernel_rfl
theorem ty_st_9 : strT Try.prog 9 = true := by kernel_rfl
theorem ty_sz_102 : szT Try.prog 102 = some 9 := by kernel_rfl
theorem ty_sz_115 : szT Try.prog 115 = some 1 := by kernel_rfl
theorem ty_sz_120 : szT Try.prog 120 = some 1 := by kernel_rfl
theorem ty_sz_127 : szT Try.prog 127 = some 1 := by kernel_rfl
theorem ty_sz_140 : szT Try.prog 140 = some 1 := by kernel_rfl
theorem ty_sz_146 : szT Try.prog 146 = some 2 := by kernel_rfl
theorem ty_sz_196 : szT Try.prog 196 = some 1 := by kernel_rfl
theorem ty_sz_27 : szT Try.prog 27 = some 1 := by kernel_rfl
theorem ty_sz_28 : szT Try.prog 28 = some 1 := by kernel_rfl
theorem ty_sz_3 : szT Try.prog 3 = some 1 := by kernel_rfl
theorem ty_sz_30 : szT Try.prog 30 = some 4 := by kernel_rfl
theorem ty_sz_35 : szT Try.prog 35 = some 1 := by kernel_rfl
theorem ty_sz_37 : szT Try.prog 37 = some 3 := by kernel_rfl
theorem ty_sz_4 : szT Try.prog 4 = some 1 := by kernel_rfl
theorem ty_sz_42 : szT Try.prog 42 = some 3 := by kernel_rfl
theorem ty_sz_5 : szT Try.prog 5 = some 1 := by kernel_rfl
theorem ty_sz_54 : szT Try.prog 54 = some 6 := by kernel_rfl
theorem ty_sz_56 : szT Try.prog 56 = some 9 := by kernel_rfl
theorem ty_sz_57 : szT Try.prog 57 = some 6 := by kernel_rfl
theorem ty_sz_59 : szT Try.prog 59 = some 7 := by kernel_rfl
theorem ty_sz_67 : szT Try.prog 67 = some 8 := by kernel_rfl
theorem ty_sz_70 : szT Try.prog 70 = some 8 := by kernel_rfl
theorem ty_sz_83 : szT Try.prog 83 = some 1 := by kernel_rfl
theorem ty_sz_86 : szT Try.prog 86 = some 10 := by kernel_rfl
theorem ty_sz_88 : szT Try.prog 88 = some 9 := by kernel_rfl
theorem ty_sz_9 : szT Try.prog 9 = some 1 := by kernel_rfl
theorem ty_sz_97 : szT Try.prog 97 = some 1 := by kernel_rfl
theorem ty_sz_99 : szT Try.prog 99 = some 3 := by kernel_rfl
theorem ty_ze_102 : zeroT Try.prog 102 = some [.raw (.int .u16 0), .raw (.int .u8 0), .raw (.int .u8 0), .raw (.int .u8 0), .raw (.int .u8 0), .raw (.int .u8 0), .raw (.int .u8 0), .raw (.int .i64 0), .raw (.int .i64 0)] := by kernel_rfl
theorem ty_ze_117 : zeroT Try.prog 117 = some [.raw (.map none)] := by kernel_rfl
theorem ty_ze_129 : zeroT Try.prog 129 = some [.raw (.map none)] := by kernel_rfl
theorem ty_ze_142 : zeroT Try.prog 142 = some [.raw (.int .i64 0), .raw (.int .i64 0), .raw (.map none)] := by kernel_rfl
theorem ty_ze_146 : zeroT Try.prog 146 = some [.raw (.int .i64 0), .raw (.int .i64 0)] := by kernel_rfl
theorem ty_ze_182 : zeroT Try.prog 182 = some [.raw (.string ⟨#[]⟩), .raw (.bool false)] := by kernel_rfl
theorem ty_ze_196 : zeroT Try.prog 196 = some [.raw (.int .u64 0)] := by kernel_rfl
theorem ty_ze_3 : zeroT Try.prog 3 = some [.raw (.int .i64 0)] := by kernel_rfl
theorem ty_ze_30 : zeroT Try.prog 30 = some [.raw (.int .u16 0), .raw (.int .u16 0), .raw (.int .u32 0), .raw (.int .u32 0)] := by kernel_rfl
theorem ty_ze_37 : zeroT Try.prog 37 = some [.raw (.int .u16 0), .raw (.int .u32 0), .raw (.int .u32 0)] := by kernel_rfl
theorem ty_ze_42 : zeroT Try.prog 42 = some [.raw (.int .u16 0), .raw (.int .u32 0), .raw (.int .u32 0)] := by kernel_rfl
theorem ty_ze_56 : zeroT Try.prog 56 = some [.raw (.int .u8 0), .raw (.int .u16 0), .raw (.int .u8 0), .raw (.int .u8 0), .raw (.int .u8 0), .raw (.int .u8 0), .raw (.int .u8 0), .raw (.int .u8 0), .raw (.int .u32 0)] := by kernel_rfl
theorem ty_ze_57 : zeroT Try.prog 57 = some [.raw (.int .u8 0), .raw (.int .u8 0), .raw (.int .u8 0), .raw (.int .u8 0), .raw (.int .u8 0), .raw (.int .u8 0)] := by kernel_rfl
theorem ty_ze_59 : zeroT Try.prog 59 = some [.raw (.int .u16 0), .raw (.int .u8 0), .raw (.int .u8 0), .raw (.int .u8 0), .raw (.int .u8 0), .raw (.int .u8 0), .raw (.int .u8 0)] := by kernel_rfl
theorem ty_ze_67 : zeroT Try.prog 67 = some [.raw (.int .u16 0), .raw (.int .u8 0), .raw (.int .u8 0), .raw (.int .u8 0), .raw (.int .u8 0), .raw (.int .u8 0), .raw (.int .u8 0), .raw (.int .u32 0)] := by kernel_rfl
theorem ty_ze_70 : zeroT Try.prog 70 = some [.raw (.int .u16 0), .raw (.int .u8 0), .raw (.int .u8 0), .raw (.int .u8 0), .raw (.int .u8 0), .raw (.int .u8 0), .raw (.int .u8 0), .raw (.int .u32 0)] := by kernel_rfl
theorem ty_ze_86 : zeroT Try.prog 86 = some [.raw (.int .u8 0), .raw (.int .u16 0), .raw (.int .u8 0), .raw (.int .u8 0), .raw (.int .u8 0), .raw (.int .u8 0), .raw (.int .u8 0), .raw (.int .u8 0), .raw (.int .i64 0), .raw (.int .i64 0)] := by kernel_rfl
theorem ty_ze_88 : zeroT Try.prog 88 = some [.raw (.int .u16 0), .raw (.int .u8 0), .raw (.int .u8 0), .raw (.int .u8 0), .raw (.int .u8 0), .raw (.int .u8 0), .raw (.int .u8 0), .raw (.int .i64 0), .raw (.int .i64 0)] := by kernel_rfl
theorem ty_ze_99 : zeroT Try.prog 99 = some [.raw (.int .i64 0), .raw (.int .i64 0), .raw (.slice none 0 0)] := by kernel_rfl
theorem ty_zs_120 : zeroE Try.prog 120 = some [.raw (.int .u16 0)] := by kernel_rfl
theorem ty_zs_125 : zeroE Try.prog 125 = some [.raw (.int .i64 0)] := by kernel_rfl
theorem ty_zs_138 : zeroE Try.prog 138 = some [.raw (.int .u8 0)] := by kernel_rfl
theorem ty_zs_26 : zeroE Try.prog 26 = some [.raw (.int .u16 0), .raw (.int .u32 0), .raw (.int .u32 0)] := by kernel_rfl
theorem ty_zs_45 : zeroE Try.prog 45 = some [.raw (.int .u16 0), .raw (.int .u32 0), .raw (.int .u32 0)] := by kernel_rfl
theorem ty_zs_53 : zeroE Try.prog 53 = some [.raw (.int .u16 0), .raw (.int .u8 0), .raw (.int .u8 0), .raw (.int .u8 0), .raw (.int .u8 0), .raw (.int .u8 0), .raw (.int .u8 0), .raw (.int .u32 0)] := by kernel_rfl
theorem ty_zs_72 : zeroE Try.prog 72 = some [.raw (.int .u16 0), .raw (.int .u8 0), .raw (.int .u8 0), .raw (.int .u8 0), .raw (.int .u8 0), .raw (.int .u8 0), .raw (.int .u8 0), .raw (.int .u32 0)] := by kernel_rfl
theorem ty_zs_93 : zeroE Try.prog 93 = some [.raw (.int .u16 0), .raw (.int .u8 0), .raw (.int .u8 0), .raw (.int .u8 0), .raw (.int .u8 0), .raw (.int .u8 0), .raw (.int .u8 0), .raw (.int .i64 0), .raw (.int .i64 0)] := by kernel_rfl
theorem ty_zs_97 : zeroE Try.prog 97 = some [.raw (.int .u16 0), .raw (.int .u8 0), .raw (.int .u8 0), .raw (.int .u8 0), .raw (.int .u8 0), .raw (.int .u8 0), .raw (.int .u8 0), .raw (.int .i64 0), .raw (.int .i64 0)] := by kernel_rfl
theorem hmix : Try.prog.follows .mixedOrders = true := by kernel_rfl
end Go.Ev
