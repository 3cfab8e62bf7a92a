/- A part of the proof: contracts of the functions that the statement reaches. -/
import Derived.Test.YtlngmicffhkghaaProg
import Derived.Test.YtlngmicffhkghaaEvAny
import Derived.KernelRfl
namespace Go.Ev
open Go.Proofs
set_option maxRecDepth 100000
theorem ty_ag_100 : aggT Try.prog 100 = some true := by kernel_rfl
theorem ty_ag_114 : aggT Try.prog 114 = some false := by kernel_rfl
theorem ty_ag_144 : aggT Try.prog 144 = some false := by kernel_rfl
theorem ty_ag_22 : aggT Try.prog 22 = some false := by kernel_rfl
theorem ty_ag_29 : aggT Try.prog 29 = some false := by kernel_rfl
theorem ty_ag_3 : aggT Try.prog 3 = some false := by kernel_rfl
theorem ty_ag_30 : aggT Try.prog 30 = some false := by kernel_rfl
theorem ty_ag_31 : aggT Try.prog 31 = some false := by kernel_rfl
theorem ty_ag_32 : aggT Try.prog 32 = some false := by kernel_rfl
theorem ty_ag_34 : aggT Try.prog 34 = some true := by kernel_rfl
theorem ty_ag_36 : aggT Try.prog 36 = some false := by kernel_rfl
theorem ty_ag_38 : aggT Try.prog 38 = some true := by kernel_rfl
theorem ty_ag_4 : aggT Try.prog 4 = some false := by kernel_rfl
theorem ty_ag_40 : aggT Try.prog 40 = some false := by kernel_rfl
theorem ty_ag_42 : aggT Try.prog 42 = some true := by kernel_rfl
theorem ty_ag_44 : aggT Try.prog 44 = some true := by kernel_rfl
theorem ty_ag_47 : aggT Try.prog 47 = some true := by kernel_rfl
theorem ty_ag_49 : aggT Try.prog 49 = some true := by kernel_rfl
theorem ty_ag_5 : aggT Try.prog 5 = some false := by kernel_rfl
theorem ty_ag_50 : aggT Try.prog 50 = some true := by kernel_rfl
theorem ty_ag_58 : aggT Try.prog 58 = some true := by kernel_rfl
theorem ty_ag_62 : aggT Try.prog 62 = some true := by kernel_rfl
theorem ty_ag_66 : aggT Try.prog 66 = some true := by kernel_rfl
theorem ty_ag_84 : aggT Try.prog 84 = some true := by kernel_rfl
theorem ty_ag_9 : aggT Try.prog 9 = some false := by kernel_rfl
theorem ty_ag_94 : aggT Try.prog 94 = some true := by kernel_rfl
theorem ty_ag_98 : aggT Try.prog 98 = some true := by kernel_rfl
theorem ty_ar_131 : arrT Try.prog 131 = some (5, 1, false) := by kernel_rfl
theorem ty_ar_143 : arrT Try.prog 143 = some (5, 1, false) := by kernel_rfl
theorem ty_ar_49 : arrT Try.prog 49 = some (6, 1, false) := by kernel_rfl
theorem ty_ar_50 : arrT Try.prog 50 = some (6, 1, false) := by kernel_rfl
theorem ty_ar_75 : arrT Try.prog 75 = some (2, 1, false) := by kernel_rfl
theorem ty_by_114 : bytesE Try.prog 114 = some 1 := by kernel_rfl
theorem ty_by_124 : bytesE Try.prog 124 = some 16 := by kernel_rfl
theorem ty_by_25 : bytesE Try.prog 25 = some 48 := by kernel_rfl
theorem ty_by_26 : bytesE Try.prog 26 = some 48 := by kernel_rfl
theorem ty_by_31 : bytesE Try.prog 31 = some 8 := by kernel_rfl
theorem ty_by_32 : bytesE Try.prog 32 = some 32 := by kernel_rfl
theorem ty_by_36 : bytesE Try.prog 36 = some 32 := by kernel_rfl
theorem ty_eg_42 : Try.prog.eqGuardType Try.prog.depth 42 = false := by kernel_rfl
theorem ty_eg_44 : Try.prog.eqGuardType Try.prog.depth 44 = false := by kernel_rfl
theorem ty_eg_49 : Try.prog.eqGuardType Try.prog.depth 49 = false := by kernel_rfl
theorem ty_eg_50 : Try.prog.eqGuardType Try.prog.depth 50 = false := by kernel_rfl
theorem ty_eg_58 : Try.prog.eqGuardType Try.prog.depth 58 = false := by kernel_rfl
theorem ty_eg_62 : Try.prog.eqGuardType Try.prog.depth 62 = false := by kernel_rfl
theorem ty_eg_84 : Try.prog.eqGuardType Try.prog.depth 84 = false := by kernel_rfl
theorem ty_fl_42_1 : fldT Try.prog 42 1 = some (1, 1, false) := by kernel_rfl
theorem ty_ib_114 : isBytesT Try.prog 114 = true := by kernel_rfl
theorem ty_lv_42 : leavesOf Try.prog 60 42 = some [.int .u64, .int .u32, .int .u64, .int .u16] := by kernel_rfl
theorem ty_lv_44 : leavesOf Try.prog 60 44 = some [.int .u64, .int .u32, .int .u64, .int .u16] := by kernel_rfl
theorem ty_lv_49 : leavesOf Try.prog 60 49 = some [.int .u8, .int .u8, .int .u8, .int .u8, .int .u8, .int .u8] := by kernel_rfl
theorem ty_lv_50 : leavesOf Try.prog 60 50 = some [.int .u8, .int .u8, .int .u8, .int .u8, .int .u8, .int .u8] := by kernel_rfl
theorem ty_lv_58 : leavesOf Try.prog 60 58 = some [.int .u8, .bool, .bool, .bool, .bool, .bool, .bool, .int .u8, .int .u64, .int .u32, .int .u64, .int .u16, .int .u16, .int .u16, .int .u16, .int .u16] := by kernel_rfl
theorem ty_lv_62 : leavesOf Try.prog 60 62 = some [.int .u8, .bool, .bool, .bool, .bool, .bool, .bool, .int .u8, .int .u64, .int .u32, .int .u64, .int .u16, .int .u16, .int .u16, .int .u16, .int .u16] := by kernel_rfl
theorem ty_lv_84 : leavesOf Try.prog 60 84 = some [.int .u8, .int .u8, .int .u8, .int .u8, .int .u8, .int .u8, .int .u8, .int .u8, .int .u8, .int .u8, .int .u8, .int .u8, .bool, .int .u8, .bool, .int .u16, .int .u16, .string] := by kernel_rfl
theorem ty_of_100_0 : offT Try.prog 100 0 = some (0, 4) := by kernel_rfl
theorem ty_of_100_1 : offT Try.prog 100 1 = some (4, 1) := by kernel_rfl
theorem ty_of_100_2 : offT Try.prog 100 2 = some (5, 1) := by kernel_rfl
theorem ty_of_139_0 : offT Try.prog 139 0 = some (0, 1) := by kernel_rfl
theorem ty_of_139_1 : offT Try.prog 139 1 = some (1, 1) := by kernel_rfl
theorem ty_of_146_0 : offT Try.prog 146 0 = some (0, 1) := by kernel_rfl
theorem ty_of_146_1 : offT Try.prog 146 1 = some (1, 1) := by kernel_rfl
theorem ty_of_34_0 : offT Try.prog 34 0 = some (0, 1) := by kernel_rfl
theorem ty_of_34_1 : offT Try.prog 34 1 = some (1, 1) := by kernel_rfl
theorem ty_of_34_2 : offT Try.prog 34 2 = some (2, 1) := by kernel_rfl
theorem ty_of_34_3 : offT Try.prog 34 3 = some (3, 1) := by kernel_rfl
theorem ty_of_34_4 : offT Try.prog 34 4 = some (4, 1) := by kernel_rfl
theorem ty_of_38_0 : offT Try.prog 38 0 = some (0, 1) := by kernel_rfl
theorem ty_of_38_1 : offT Try.prog 38 1 = some (1, 1) := by kernel_rfl
theorem ty_of_38_2 : offT Try.prog 38 2 = some (2, 1) := by kernel_rfl
theorem ty_of_38_3 : offT Try.prog 38 3 = some (3, 1) := by kernel_rfl
theorem ty_of_38_4 : offT Try.prog 38 4 = some (4, 1) := by kernel_rfl
theorem ty_of_42_0 : offT Try.prog 42 0 = some (0, 1) := by kernel_rfl
theorem ty_of_42_1 : offT Try.prog 42 1 = some (1, 1) := by kernel_rfl
theorem ty_of_42_2 : offT Try.prog 42 2 = some (2, 1) := by kernel_rfl
theorem ty_of_42_3 : offT Try.prog 42 3 = some (3, 1) := by kernel_rfl
theorem ty_of_44_0 : offT Try.prog 44 0 = some (0, 1) := by kernel_rfl
theorem ty_of_44_1 : offT Try.prog 44 1 = some (1, 1) := by kernel_rfl
theorem ty_of_44_2 : offT Try.prog 44 2 = some (2, 1) := by kernel_rfl
theorem ty_of_44_3 : offT Try.prog 44 3 = some (3, 1) := by kernel_rfl
theorem ty_of_47_0 : offT Try.prog 47 0 = some (0, 1) := by kernel_rfl
theorem ty_of_47_1 : offT Try.prog 47 1 = some (1, 1) := by kernel_rfl
theorem ty_of_47_2 : offT Try.prog 47 2 = some (2, 4) := by kernel_rfl
theorem ty_of_47_3 : offT Try.prog 47 3 = some (6, 1) := by kernel_rfl
theorem ty_of_47_4 : offT Try.prog 47 4 = some (7, 1) := by kernel_rfl
theorem ty_of_58_0 : offT Try.prog 58 0 = some (0, 1) := by kernel_rfl
theorem ty_of_58_1 : offT Try.prog 58 1 = some (1, 1) := by kernel_rfl
theorem ty_of_58_10 : offT Try.prog 58 10 = some (10, 1) := by kernel_rfl
theorem ty_of_58_11 : offT Try.prog 58 11 = some (11, 1) := by kernel_rfl
theorem ty_of_58_12 : offT Try.prog 58 12 = some (12, 1) := by kernel_rfl
theorem ty_of_58_13 : offT Try.prog 58 13 = some (13, 1) := by kernel_rfl
theorem ty_of_58_14 : offT Try.prog 58 14 = some (14, 1) := by kernel_rfl
theorem ty_of_58_15 : offT Try.prog 58 15 = some (15, 1) := by kernel_rfl
theorem ty_of_58_2 : offT Try.prog 58 2 = some (2, 1) := by kernel_rfl
theorem ty_of_58_3 : offT Try.prog 58 3 = some (3, 1) := by kernel_rfl
theorem ty_of_58_4 : offT Try.prog 58 4 = some (4, 1) := by kernel_rfl
theorem ty_of_58_5 : offT Try.prog 58 5 = some (5, 1) := by kernel_rfl
theorem ty_of_58_6 : offT Try.prog 58 6 = some (6, 1) := by kernel_rfl
theorem ty_of_58_7 : offT Try.prog 58 7 = some (7, 1) := by kernel_rfl
theorem ty_of_58_8 : offT Try.prog 58 8 = some (8, 1) := by kernel_rfl
theorem ty_of_58_9 : offT Try.prog 58 9 = some (9, 1) := by kernel_rfl
theorem ty_of_62_0 : offT Try.prog 62 0 = some (0, 1) := by kernel_rfl
theorem ty_of_62_1 : offT Try.prog 62 1 = some (1, 1) := by kernel_rfl
theorem ty_of_62_10 : offT Try.prog 62 10 = some (10, 1) := by kernel_rfl
theorem ty_of_62_11 : offT Try.prog 62 11 = some (11, 1) := by kernel_rfl
theorem ty_of_62_12 : offT Try.prog 62 12 = some (12, 1) := by kernel_rfl
theorem ty_of_62_13 : offT Try.prog 62 13 = some (13, 1) := by kernel_rfl
theorem ty_of_62_14 : offT Try.prog 62 14 = some (14, 1) := by kernel_rfl
theorem ty_of_62_15 : offT Try.prog 62 15 = some (15, 1) := by kernel_rfl
theorem ty_of_62_2 : offT Try.prog 62 2 = some (2, 1) := by kernel_rfl
theorem ty_of_62_3 : offT Try.prog 62 3 = some (3, 1) := by kernel_rfl
theorem ty_of_62_4 : offT Try.prog 62 4 = some (4, 1) := by kernel_rfl
theorem ty_of_62_5 : offT Try.prog 62 5 = some (5, 1) := by kernel_rfl
theorem ty_of_62_6 : offT Try.prog 62 6 = some (6, 1) := by kernel_rfl
theorem ty_of_62_7 : offT Try.prog 62 7 = some (7, 1) := by kernel_rfl
theorem ty_of_62_8 : offT Try.prog 62 8 = some (8, 1) := by kernel_rfl
theorem ty_of_62_9 : offT Try.prog 62 9 = some (9, 1) := by kernel_rfl
theorem ty_of_66_0 : offT Try.prog 66 0 = some (0, 1) := by kernel_rfl
theorem ty_of_66_1 : offT Try.prog 66 1 = some (1, 1) := by kernel_rfl
theorem ty_of_66_10 : offT Try.prog 66 10 = some (10, 1) := by kernel_rfl
theorem ty_of_66_11 : offT Try.prog 66 11 = some (11, 1) := by kernel_rfl
theorem ty_of_66_12 : offT Try.prog 66 12 = some (12, 1) := by kernel_rfl
theorem ty_of_66_13 : offT Try.prog 66 13 = some (13, 1) := by kernel_rfl
theorem ty_of_66_14 : offT Try.prog 66 14 = some (14, 1) := by kernel_rfl
theorem ty_of_66_15 : offT Try.prog 66 15 = some (15, 1) := by kernel_rfl
theorem ty_of_66_2 : offT Try.prog 66 2 = some (2, 1) := by kernel_rfl
theorem ty_of_66_3 : offT Try.prog 66 3 = some (3, 1) := by kernel_rfl
theorem ty_of_66_4 : offT Try.prog 66 4 = some (4, 1) := by kernel_rfl
theorem ty_of_66_5 : offT Try.prog 66 5 = some (5, 1) := by kernel_rfl
theorem ty_of_66_6 : offT Try.prog 66 6 = some (6, 1) := by kernel_rfl
theorem ty_of_66_7 : offT Try.prog 66 7 = some (7, 1) := by kernel_rfl
theorem ty_of_66_8 : offT Try.prog 66 8 = some (8, 1) := by kernel_rfl
theorem ty_of_66_9 : offT Try.prog 66 9 = some (9, 1) := by kernel_rfl
theorem ty_of_81_0 : offT Try.prog 81 0 = some (0, 6) := by kernel_rfl
theorem ty_of_81_1 : offT Try.prog 81 1 = some (6, 1) := by kernel_rfl
theorem ty_of_81_2 : offT Try.prog 81 2 = some (7, 1) := by kernel_rfl
theorem ty_of_81_3 : offT Try.prog 81 3 = some (8, 1) := by kernel_rfl
theorem ty_of_84_0 : offT Try.prog 84 0 = some (0, 6) := by kernel_rfl
theorem ty_of_84_2 : offT Try.prog 84 2 = some (12, 1) := by kernel_rfl
theorem ty_of_84_6 : offT Try.prog 84 6 = some (16, 1) := by kernel_rfl
theorem ty_of_84_7 : offT Try.prog 84 7 = some (17, 1) := by kernel_rfl
theorem ty_of_94_0 : offT Try.prog 94 0 = some (0, 1) := by kernel_rfl
theorem ty_of_94_1 : offT Try.prog 94 1 = some (1, 1) := by kernel_rfl
theorem ty_of_94_2 : offT Try.prog 94 2 = some (2, 4) := by kernel_rfl
theorem ty_of_94_3 : offT Try.prog 94 3 = some (6, 1) := by kernel_rfl
theorem ty_of_94_4 : offT Try.prog 94 4 = some (7, 1) := by kernel_rfl
theorem ty_of_98_0 : offT Try.prog 98 0 = some (0, 1) := by kernel_rfl
theorem ty_of_98_1 : offT Try.prog 98 1 = some (1, 1) := by kernel_rfl
theorem ty_of_98_2 : offT Try.prog 98 2 = some (2, 1) := by kernel_rfl
theorem ty_of_98_3 : offT Try.prog 98 3 = some (3, 1) := by kernel_rfl
theorem ty_of_98_4 : offT Try.prog 98 4 = some (4, 1) := by kernel_rfl
theorem ty_of_98_5 : offT Try.prog 98 5 = some (5, 1) := by kernel_rfl
theorem ty_of_98_6 : offT Try.prog 98 6 = some (6, 1) := by kernel_rfl
theorem ty_of_98_7 : offT Try.prog 98 7 = some (7, 1) := by kernel_rfl
theorem ty_ok_100 : plOk Try.prog 100 = true := by kernel_rfl
theorem ty_ok_131 : plOk Try.prog 131 = true := by kernel_rfl
theorem ty_ok_139 : plOk Try.prog 139 = true := by kernel_rfl
theorem ty_ok_143 : plOk Try.prog 143 = true := by kernel_rfl
theorem ty_ok_34 : plOk Try.prog 34 = true := by kernel_rfl
theorem ty_ok_38 : plOk Try.prog 38 = true := by kernel_rfl
theorem ty_ok_42 : plOk Try.prog 42 = true := by kernel_rfl
theorem ty_ok_44 : plOk Try.prog 44 = true := by kernel_rfl
theorem ty_ok_47 : plOk Try.prog 47 = true := by kernel_rfl
theorem ty_ok_49 : plOk Try.prog 49 = true := by kernel_rfl
theorem ty_ok_50 : plOk Try.prog 50 = true := by kernel_rfl
theorem ty_ok_58 : plOk Try.prog 58 = true := by kernel_rfl
theorem ty_ok_62 : plOk Try.prog 62 = true := by kernel_rfl
theorem ty_ok_84 : plOk Try.prog 84 = true := by kernel_rfl
theorem ty_ok_94 : plOk Try.prog 94 = true := by kernel_rfl
theorem ty_pl_100_0 : plT Try.prog 100 0 = some (0, 4) := by kernel_rfl
theorem ty_pl_100_1 : plT Try.prog 100 1 = some (4, 1) := by kernel_rfl
theorem ty_pl_100_2 : plT Try.prog 100 2 = some (5, 1) := by kernel_rfl
theorem ty_pl_131_0 : plT Try.prog 131 0 = some (0, 1) := by kernel_rfl
theorem ty_pl_131_1 : plT Try.prog 131 1 = some (1, 1) := by kernel_rfl
theorem ty_pl_131_2 : plT Try.prog 131 2 = some (2, 1) := by kernel_rfl
theorem ty_pl_131_3 : plT Try.prog 131 3 = some (3, 1) := by kernel_rfl
theorem ty_pl_131_4 : plT Try.prog 131 4 = some (4, 1) := by kernel_rfl
theorem ty_pl_139_0 : plT Try.prog 139 0 = some (0, 1) := by kernel_rfl
theorem ty_pl_143_0 : plT Try.prog 143 0 = some (0, 1) := by kernel_rfl
theorem ty_pl_143_1 : plT Try.prog 143 1 = some (1, 1) := by kernel_rfl
theorem ty_pl_143_2 : plT Try.prog 143 2 = some (2, 1) := by kernel_rfl
theorem ty_pl_143_3 : plT Try.prog 143 3 = some (3, 1) := by kernel_rfl
theorem ty_pl_143_4 : plT Try.prog 143 4 = some (4, 1) := by kernel_rfl
theorem ty_pl_34_0 : plT Try.prog 34 0 = some (0, 1) := by kernel_rfl
theorem ty_pl_38_0 : plT Try.prog 38 0 = some (0, 1) := by kernel_rfl
theorem ty_pl_42_0 : plT Try.prog 42 0 = some (0, 1) := by kernel_rfl
theorem ty_pl_42_1 : plT Try.prog 42 1 = some (1, 1) := by kernel_rfl
theorem ty_pl_42_2 : plT Try.prog 42 2 = some (2, 1) := by kernel_rfl
theorem ty_pl_42_3 : plT Try.prog 42 3 = some (3, 1) := by kernel_rfl
theorem ty_pl_44_0 : plT Try.prog 44 0 = some (0, 1) := by kernel_rfl
theorem ty_pl_44_1 : plT Try.prog 44 1 = some (1, 1) := by kernel_rfl
theorem ty_pl_44_2 : plT Try.prog 44 2 = some (2, 1) := by kernel_rfl
theorem ty_pl_44_3 : plT Try.prog 44 3 = some (3, 1) := by kernel_rfl
theorem ty_pl_47_0 : plT Try.prog 47 0 = some (0, 1) := by kernel_rfl
theorem ty_pl_47_1 : plT Try.prog 47 1 = some (1, 1) := by kernel_rfl
theorem ty_pl_47_2 : plT Try.prog 47 2 = some (2, 4) := by kernel_rfl
theorem ty_pl_47_3 : plT Try.prog 47 3 = some (6, 1) := by kernel_rfl
theorem ty_pl_47_4 : plT Try.prog 47 4 = some (7, 1) := by kernel_rfl
theorem ty_pl_49_0 : plT Try.prog 49 0 = some (0, 1) := by kernel_rfl
theorem ty_pl_49_1 : plT Try.prog 49 1 = some (1, 1) := by kernel_rfl
theorem ty_pl_49_2 : plT Try.prog 49 2 = some (2, 1) := by kernel_rfl
theorem ty_pl_49_3 : plT Try.prog 49 3 = some (3, 1) := by kernel_rfl
theorem ty_pl_49_4 : plT Try.prog 49 4 = some (4, 1) := by kernel_rfl
theorem ty_pl_49_5 : plT Try.prog 49 5 = some (5, 1) := by kernel_rfl
theorem ty_pl_50_0 : plT Try.prog 50 0 = some (0, 1) := by kernel_rfl
theorem ty_pl_50_1 : plT Try.prog 50 1 = some (1, 1) := by kernel_rfl
theorem ty_pl_50_2 : plT Try.prog 50 2 = some (2, 1) := by kernel_rfl
theorem ty_pl_58_0 : plT Try.prog 58 0 = some (0, 1) := by kernel_rfl
theorem ty_pl_58_1 : plT Try.prog 58 1 = some (1, 1) := by kernel_rfl
theorem ty_pl_58_10 : plT Try.prog 58 10 = some (10, 1) := by kernel_rfl
theorem ty_pl_58_11 : plT Try.prog 58 11 = some (11, 1) := by kernel_rfl
theorem ty_pl_58_12 : plT Try.prog 58 12 = some (12, 1) := by kernel_rfl
theorem ty_pl_58_13 : plT Try.prog 58 13 = some (13, 1) := by kernel_rfl
theorem ty_pl_58_14 : plT Try.prog 58 14 = some (14, 1) := by kernel_rfl
theorem ty_pl_58_15 : plT Try.prog 58 15 = some (15, 1) := by kernel_rfl
theorem ty_pl_58_2 : plT Try.prog 58 2 = some (2, 1) := by kernel_rfl
theorem ty_pl_58_3 : plT Try.prog 58 3 = some (3, 1) := by kernel_rfl
theorem ty_pl_58_4 : plT Try.prog 58 4 = some (4, 1) := by kernel_rfl
theorem ty_pl_58_5 : plT Try.prog 58 5 = some (5, 1) := by kernel_rfl
theorem ty_pl_58_6 : plT Try.prog 58 6 = some (6, 1) := by kernel_rfl
theorem ty_pl_58_7 : plT Try.prog 58 7 = some (7, 1) := by kernel_rfl
theorem ty_pl_58_8 : plT Try.prog 58 8 = some (8, 1) := by kernel_rfl
theorem ty_pl_58_9 : plT Try.prog 58 9 = some (9, 1) := by kernel_rfl
theorem ty_pl_62_0 : plT Try.prog 62 0 = some (0, 1) := by kernel_rfl
theorem ty_pl_84_0 : plT Try.prog 84 0 = some (0, 6) := by kernel_rfl
theorem ty_pl_84_1 : plT Try.prog 84 1 = some (6, 6) := by kernel_rfl
theorem ty_pl_84_2 : plT Try.prog 84 2 = some (12, 1) := by kernel_rfl
theorem ty_pl_84_6 : plT Try.prog 84 6 = some (16, 1) := by kernel_rfl
theorem ty_pl_84_7 : plT Try.prog 84 7 = some (17, 1) := by kernel_rfl
theorem ty_pl_94_0 : plT Try.prog 94 0 = some (0, 1) := by kernel_rfl
theorem ty_pl_94_1 : plT Try.prog 94 1 = some (1, 1) := by kernel_rfl
theorem ty_pl_94_2 : plT Try.prog 94 2 = some (2, 4) := by kernel_rfl
theorem ty_pl_94_3 : plT Try.prog 94 3 = some (6, 1) := by kernel_rfl
theorem ty_pl_94_4 : plT Try.prog 94 4 = some (7, 1) := by kernel_rfl
theorem ty_sf_114 : strT Try.prog 114 = false := by kernel_rfl
theorem ty_sl_114 : slT Try.prog 114 = some 1 := by kernel_rfl
theorem ty_sl_124 : slT Try.prog 124 = some 1 := by kernel_rfl
theorem ty_sl_23 : slT Try.prog 23 = some 8 := by kernel_rfl
theorem ty_sl_25 : slT Try.prog 25 = some 8 := by kernel_rfl
theorem ty_sl_26 : slT Try.prog 26 = some 8 := by kernel_rfl
theorem ty_sl_31 : slT Try.prog 31 = some 1 := by kernel_rfl
theorem ty_sl_32 : slT Try.prog 32 = some 4 := by kernel_rfl
theorem ty_sl_36 : slT Try.prog 36 = some 4 := by kernel_rfl
theorem ty_sr_114 : srcT Try.prog 114 = true := by kernel_rfl
theorem ty_sr_124 : srcT Try.prog 124 = true := by kernel_rfl
theorem ty_sr_25 : srcT Try.prog 25 = true := by kernel_rfl
theorem ty_sr_26 : srcT Try.prog 26 = true := by kernel_rfl
theorem ty_sr_31 : srcT Try.prog 31 = true := by kernel_rfl
theorem ty_sr_32 : srcT Try.prog 32 = true := by kernel_rfl
theorem ty_sr_36 : srcT Try.prog 36 = true := by kernel_rfl
theorem ty_sr_9 : srcT Try.prog 9 = true := by kernel_rfl
theorem ty_st_9 : strT Try.prog 9 = true := by kernel_rfl
theorem ty_sz_100 : szT Try.prog 100 = some 6 := by kernel_rfl
theorem ty_sz_114 : szT Try.prog 114 = some 1 := by kernel_rfl
theorem ty_sz_131 : szT Try.prog 131 = some 5 := by kernel_rfl
theorem ty_sz_144 : szT Try.prog 144 = some 1 := by kernel_rfl
theorem ty_sz_22 : szT Try.prog 22 = some 1 := by kernel_rfl
theorem ty_sz_29 : szT Try.prog 29 = some 1 := by kernel_rfl
theorem ty_sz_3 : szT Try.prog 3 = some 1 := by kernel_rfl
theorem ty_sz_30 : szT Try.prog 30 = some 1 := by kernel_rfl
theorem ty_sz_31 : szT Try.prog 31 = some 1 := by kernel_rfl
theorem ty_sz_32 : szT Try.prog 32 = some 1 := by kernel_rfl
theorem ty_sz_34 : szT Try.prog 34 = some 5 := by kernel_rfl
theorem ty_sz_36 : szT Try.prog 36 = some 1 := by kernel_rfl
theorem ty_sz_38 : szT Try.prog 38 = some 5 := by kernel_rfl
theorem ty_sz_4 : szT Try.prog 4 = some 1 := by kernel_rfl
theorem ty_sz_40 : szT Try.prog 40 = some 1 := by kernel_rfl
theorem ty_sz_42 : szT Try.prog 42 = some 4 := by kernel_rfl
theorem ty_sz_44 : szT Try.prog 44 = some 4 := by kernel_rfl
theorem ty_sz_47 : szT Try.prog 47 = some 8 := by kernel_rfl
theorem ty_sz_49 : szT Try.prog 49 = some 6 := by kernel_rfl
theorem ty_sz_5 : szT Try.prog 5 = some 1 := by kernel_rfl
theorem ty_sz_50 : szT Try.prog 50 = some 6 := by kernel_rfl
theorem ty_sz_58 : szT Try.prog 58 = some 16 := by kernel_rfl
theorem ty_sz_62 : szT Try.prog 62 = some 16 := by kernel_rfl
theorem ty_sz_66 : szT Try.prog 66 = some 16 := by kernel_rfl
theorem ty_sz_84 : szT Try.prog 84 = some 18 := by kernel_rfl
theorem ty_sz_9 : szT Try.prog 9 = some 1 := by kernel_rfl
theorem ty_sz_94 : szT Try.prog 94 = some 8 := by kernel_rfl
theorem ty_sz_98 : szT Try.prog 98 = some 8 := by kernel_rfl
theorem ty_ze_100 : zeroT Try.prog 100 = some [.raw (.int .u64 0), .raw (.int .u32 0), .raw (.int .u64 0), .raw (.int .u16 0), .raw (.int .i64 0), .raw (.int .u16 0)] := by kernel_rfl
theorem ty_ze_131 : zeroT Try.prog 131 = some [.raw (.int .u16 0), .raw (.int .u16 0), .raw (.int .u16 0), .raw (.int .u16 0), .raw (.int .u16 0)] := by kernel_rfl
theorem ty_ze_139 : zeroT Try.prog 139 = some [.raw (.string ⟨#[]⟩), .raw (.bool false)] := by kernel_rfl
theorem ty_ze_143 : zeroT Try.prog 143 = some [.raw (.pointer none), .raw (.pointer none), .raw (.pointer none), .raw (.pointer none), .raw (.pointer none)] := by kernel_rfl
theorem ty_ze_146 : zeroT Try.prog 146 = some [.raw (.pointer none), .raw (.slice none 0 0)] := by kernel_rfl
theorem ty_ze_34 : zeroT Try.prog 34 = some [.raw (.int .u64 0), .raw (.int .u32 0), .raw (.int .i64 0), .raw (.slice none 0 0), .raw (.slice none 0 0)] := by kernel_rfl
theorem ty_ze_38 : zeroT Try.prog 38 = some [.raw (.int .u64 0), .raw (.int .u32 0), .raw (.int .i64 0), .raw (.slice none 0 0), .raw (.slice none 0 0)] := by kernel_rfl
theorem ty_ze_42 : zeroT Try.prog 42 = some [.raw (.int .u64 0), .raw (.int .u32 0), .raw (.int .u64 0), .raw (.int .u16 0)] := by kernel_rfl
theorem ty_ze_44 : zeroT Try.prog 44 = some [.raw (.int .u64 0), .raw (.int .u32 0), .raw (.int .u64 0), .raw (.int .u16 0)] := by kernel_rfl
theorem ty_ze_47 : zeroT Try.prog 47 = some [.raw (.bool false), .raw (.bool false), .raw (.int .u64 0), .raw (.int .u32 0), .raw (.int .u64 0), .raw (.int .u16 0), .raw (.int .u32 0), .raw (.int .u16 0)] := by kernel_rfl
theorem ty_ze_49 : zeroT Try.prog 49 = some [.raw (.int .u8 0), .raw (.int .u8 0), .raw (.int .u8 0), .raw (.int .u8 0), .raw (.int .u8 0), .raw (.int .u8 0)] := by kernel_rfl
theorem ty_ze_50 : zeroT Try.prog 50 = some [.raw (.int .u8 0), .raw (.int .u8 0), .raw (.int .u8 0), .raw (.int .u8 0), .raw (.int .u8 0), .raw (.int .u8 0)] := by kernel_rfl
theorem ty_ze_58 : zeroT Try.prog 58 = some [.raw (.int .u8 0), .raw (.bool false), .raw (.bool false), .raw (.bool false), .raw (.bool false), .raw (.bool false), .raw (.bool false), .raw (.int .u8 0), .raw (.int .u64 0), .raw (.int .u32 0), .raw (.int .u64 0), .raw (.int .u16 0), .raw (.int .u16 0), .raw (.int .u16 0), .raw (.int .u16 0), .raw (.int .u16 0)] := by kernel_rfl
theorem ty_ze_62 : zeroT Try.prog 62 = some [.raw (.int .u8 0), .raw (.bool false), .raw (.bool false), .raw (.bool false), .raw (.bool false), .raw (.bool false), .raw (.bool false), .raw (.int .u8 0), .raw (.int .u64 0), .raw (.int .u32 0), .raw (.int .u64 0), .raw (.int .u16 0), .raw (.int .u16 0), .raw (.int .u16 0), .raw (.int .u16 0), .raw (.int .u16 0)] := by kernel_rfl
theorem ty_ze_84 : zeroT Try.prog 84 = some [.raw (.int .u8 0), .raw (.int .u8 0), .raw (.int .u8 0), .raw (.int .u8 0), .raw (.int .u8 0), .raw (.int .u8 0), .raw (.int .u8 0), .raw (.int .u8 0), .raw (.int .u8 0), .raw (.int .u8 0), .raw (.int .u8 0), .raw (.int .u8 0), .raw (.bool false), .raw (.int .u8 0), .raw (.bool false), .raw (.int .u16 0), .raw (.int .u16 0), .raw (.string ⟨#[]⟩)] := by kernel_rfl
theorem ty_ze_94 : zeroT Try.prog 94 = some [.raw (.bool false), .raw (.bool false), .raw (.int .u64 0), .raw (.int .u32 0), .raw (.int .u64 0), .raw (.int .u16 0), .raw (.int .u32 0), .raw (.int .u16 0)] := by kernel_rfl
theorem ty_zs_114 : zeroE Try.prog 114 = some [.raw (.int .u8 0)] := by kernel_rfl
theorem ty_zs_124 : zeroE Try.prog 124 = some [.raw (.string ⟨#[]⟩)] := by kernel_rfl
theorem ty_zs_25 : zeroE Try.prog 25 = some [.raw (.bool false), .raw (.bool false), .raw (.int .u64 0), .raw (.int .u32 0), .raw (.int .u64 0), .raw (.int .u16 0), .raw (.int .u32 0), .raw (.int .u16 0)] := by kernel_rfl
theorem ty_zs_26 : zeroE Try.prog 26 = some [.raw (.bool false), .raw (.bool false), .raw (.int .u64 0), .raw (.int .u32 0), .raw (.int .u64 0), .raw (.int .u16 0), .raw (.int .u32 0), .raw (.int .u16 0)] := by kernel_rfl
theorem ty_zs_31 : zeroE Try.prog 31 = some [.raw (.int .i64 0)] := by kernel_rfl
theorem ty_zs_32 : zeroE Try.prog 32 = some [.raw (.int .u64 0), .raw (.int .u32 0), .raw (.int .u64 0), .raw (.int .u16 0)] := by kernel_rfl
theorem ty_zs_36 : zeroE Try.prog 36 = some [.raw (.int .u64 0), .raw (.int .u32 0), .raw (.int .u64 0), .raw (.int .u16 0)] := by kernel_rfl
theorem hmix : Try.prog.follows .mixedOrders = true := by kernel_rfl
end Go.Ev
