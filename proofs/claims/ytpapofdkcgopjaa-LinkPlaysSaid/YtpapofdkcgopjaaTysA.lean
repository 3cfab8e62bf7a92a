/- A part of the proof: contracts of the functions that the statement reaches. -/
import Derived.Test.YtpapofdkcgopjaaProg
import Derived.Test.YtpapofdkcgopjaaEvWeak
import Derived.KernelRfl
namespace Go.Ev
open Go.Proofs
set_option maxRecDepth 100000
theorem ty_ag_21 : aggT Try.prog 21 = some false := by kernel_rfl
theorem ty_ag_23 : aggT Try.prog 23 = some true := by kernel_rfl
theorem ty_ag_26 : aggT Try.prog 26 = some true := by kernel_rfl
theorem ty_ag_3 : aggT Try.prog 3 = some false := by kernel_rfl
theorem ty_ag_30 : aggT Try.prog 30 = some false := by kernel_rfl
theorem ty_ag_31 : aggT Try.prog 31 = some false := by kernel_rfl
theorem ty_ag_32 : aggT Try.prog 32 = some false := by kernel_rfl
theorem ty_ag_33 : aggT Try.prog 33 = some false := by kernel_rfl
theorem ty_ag_35 : aggT Try.prog 35 = some true := by kernel_rfl
theorem ty_ag_38 : aggT Try.prog 38 = some true := by kernel_rfl
theorem ty_ag_4 : aggT Try.prog 4 = some false := by kernel_rfl
theorem ty_ag_42 : aggT Try.prog 42 = some true := by kernel_rfl
theorem ty_ag_5 : aggT Try.prog 5 = some false := by kernel_rfl
theorem ty_ag_54 : aggT Try.prog 54 = some false := by kernel_rfl
theorem ty_ag_57 : aggT Try.prog 57 = some true := by kernel_rfl
theorem ty_ag_63 : aggT Try.prog 63 = some true := by kernel_rfl
theorem ty_ag_64 : aggT Try.prog 64 = some true := by kernel_rfl
theorem ty_ag_84 : aggT Try.prog 84 = some true := by kernel_rfl
theorem ty_ag_87 : aggT Try.prog 87 = some true := by kernel_rfl
theorem ty_ag_9 : aggT Try.prog 9 = some false := by kernel_rfl
theorem ty_ar_22 : arrT Try.prog 22 = some (5, 1, false) := by kernel_rfl
theorem ty_ar_23 : arrT Try.prog 23 = some (3, 1, false) := by kernel_rfl
theorem ty_ar_24 : arrT Try.prog 24 = some (4, 1, false) := by kernel_rfl
theorem ty_ar_55 : arrT Try.prog 55 = some (2, 1, false) := by kernel_rfl
theorem ty_ar_85 : arrT Try.prog 85 = some (4, 1, false) := by kernel_rfl
theorem ty_ar_88 : arrT Try.prog 88 = some (3, 1, false) := by kernel_rfl
theorem ty_ar_94 : arrT Try.prog 94 = some (2, 1, false) := by kernel_rfl
theorem ty_by_54 : bytesE Try.prog 54 = some 16 := by kernel_rfl
theorem ty_by_72 : bytesE Try.prog 72 = some 32 := by kernel_rfl
theorem ty_eg_35 : Try.prog.eqGuardType Try.prog.depth 35 = false := by kernel_rfl
theorem ty_eg_42 : Try.prog.eqGuardType Try.prog.depth 42 = false := by kernel_rfl
theorem ty_fl_35_1 : fldT Try.prog 35 1 = some (1, 1, false) := by kernel_rfl
theorem ty_lv_35 : leavesOf Try.prog 60 35 = some [.int .u64, .int .u32, .int .u64, .int .u16] := by kernel_rfl
theorem ty_lv_42 : leavesOf Try.prog 60 42 = some [.int .u16, .int .i64, .bool, .int .u32, .int .i64, .bool, .bool, .bool, .bool, .bool, .int .i64, .int .i64, .int .i64, .int .u64, .int .u32, .int .u64, .int .u16, .int .i64, .int .i64, .int .i64, .int .i64] := by kernel_rfl
theorem ty_of_103_0 : offT Try.prog 103 0 = some (0, 2) := by kernel_rfl
theorem ty_of_103_1 : offT Try.prog 103 1 = some (2, 1) := by kernel_rfl
theorem ty_of_26_0 : offT Try.prog 26 0 = some (0, 5) := by kernel_rfl
theorem ty_of_26_1 : offT Try.prog 26 1 = some (5, 3) := by kernel_rfl
theorem ty_of_26_2 : offT Try.prog 26 2 = some (8, 3) := by kernel_rfl
theorem ty_of_26_3 : offT Try.prog 26 3 = some (11, 4) := by kernel_rfl
theorem ty_of_28_0 : offT Try.prog 28 0 = some (0, 15) := by kernel_rfl
theorem ty_of_28_1 : offT Try.prog 28 1 = some (15, 1) := by kernel_rfl
theorem ty_of_28_2 : offT Try.prog 28 2 = some (16, 3) := by kernel_rfl
theorem ty_of_28_3 : offT Try.prog 28 3 = some (19, 1) := by kernel_rfl
theorem ty_of_35_0 : offT Try.prog 35 0 = some (0, 1) := by kernel_rfl
theorem ty_of_35_1 : offT Try.prog 35 1 = some (1, 1) := by kernel_rfl
theorem ty_of_35_2 : offT Try.prog 35 2 = some (2, 1) := by kernel_rfl
theorem ty_of_35_3 : offT Try.prog 35 3 = some (3, 1) := by kernel_rfl
theorem ty_of_38_1 : offT Try.prog 38 1 = some (1, 1) := by kernel_rfl
theorem ty_of_38_2 : offT Try.prog 38 2 = some (2, 1) := by kernel_rfl
theorem ty_of_38_3 : offT Try.prog 38 3 = some (3, 1) := by kernel_rfl
theorem ty_of_42_10 : offT Try.prog 42 10 = some (12, 1) := by kernel_rfl
theorem ty_of_42_11 : offT Try.prog 42 11 = some (13, 4) := by kernel_rfl
theorem ty_of_42_12 : offT Try.prog 42 12 = some (17, 1) := by kernel_rfl
theorem ty_of_42_13 : offT Try.prog 42 13 = some (18, 1) := by kernel_rfl
theorem ty_of_42_14 : offT Try.prog 42 14 = some (19, 1) := by kernel_rfl
theorem ty_of_42_15 : offT Try.prog 42 15 = some (20, 1) := by kernel_rfl
theorem ty_of_42_3 : offT Try.prog 42 3 = some (5, 1) := by kernel_rfl
theorem ty_of_42_4 : offT Try.prog 42 4 = some (6, 1) := by kernel_rfl
theorem ty_of_42_5 : offT Try.prog 42 5 = some (7, 1) := by kernel_rfl
theorem ty_of_42_6 : offT Try.prog 42 6 = some (8, 1) := by kernel_rfl
theorem ty_of_42_7 : offT Try.prog 42 7 = some (9, 1) := by kernel_rfl
theorem ty_of_42_8 : offT Try.prog 42 8 = some (10, 1) := by kernel_rfl
theorem ty_of_42_9 : offT Try.prog 42 9 = some (11, 1) := by kernel_rfl
theorem ty_of_57_0 : offT Try.prog 57 0 = some (0, 1) := by kernel_rfl
theorem ty_of_57_1 : offT Try.prog 57 1 = some (1, 1) := by kernel_rfl
theorem ty_of_57_2 : offT Try.prog 57 2 = some (2, 1) := by kernel_rfl
theorem ty_of_57_3 : offT Try.prog 57 3 = some (3, 1) := by kernel_rfl
theorem ty_of_63_0 : offT Try.prog 63 0 = some (0, 1) := by kernel_rfl
theorem ty_of_63_1 : offT Try.prog 63 1 = some (1, 1) := by kernel_rfl
theorem ty_of_63_2 : offT Try.prog 63 2 = some (2, 1) := by kernel_rfl
theorem ty_of_63_3 : offT Try.prog 63 3 = some (3, 1) := by kernel_rfl
theorem ty_of_64_0 : offT Try.prog 64 0 = some (0, 1) := by kernel_rfl
theorem ty_of_64_1 : offT Try.prog 64 1 = some (1, 1) := by kernel_rfl
theorem ty_of_64_2 : offT Try.prog 64 2 = some (2, 1) := by kernel_rfl
theorem ty_of_64_3 : offT Try.prog 64 3 = some (3, 1) := by kernel_rfl
theorem ty_of_84_0 : offT Try.prog 84 0 = some (0, 1) := by kernel_rfl
theorem ty_of_84_1 : offT Try.prog 84 1 = some (1, 1) := by kernel_rfl
theorem ty_of_84_2 : offT Try.prog 84 2 = some (2, 1) := by kernel_rfl
theorem ty_of_84_3 : offT Try.prog 84 3 = some (3, 1) := by kernel_rfl
theorem ty_of_87_0 : offT Try.prog 87 0 = some (0, 5) := by kernel_rfl
theorem ty_of_87_1 : offT Try.prog 87 1 = some (5, 3) := by kernel_rfl
theorem ty_of_87_2 : offT Try.prog 87 2 = some (8, 4) := by kernel_rfl
theorem ty_of_87_3 : offT Try.prog 87 3 = some (12, 4) := by kernel_rfl
theorem ty_of_87_4 : offT Try.prog 87 4 = some (16, 1) := by kernel_rfl
theorem ty_ok_103 : plOk Try.prog 103 = true := by kernel_rfl
theorem ty_ok_23 : plOk Try.prog 23 = true := by kernel_rfl
theorem ty_ok_35 : plOk Try.prog 35 = true := by kernel_rfl
theorem ty_ok_38 : plOk Try.prog 38 = true := by kernel_rfl
theorem ty_ok_42 : plOk Try.prog 42 = true := by kernel_rfl
theorem ty_ok_55 : plOk Try.prog 55 = true := by kernel_rfl
theorem ty_pl_23_0 : plT Try.prog 23 0 = some (0, 1) := by kernel_rfl
theorem ty_pl_23_1 : plT Try.prog 23 1 = some (1, 1) := by kernel_rfl
theorem ty_pl_23_2 : plT Try.prog 23 2 = some (2, 1) := by kernel_rfl
theorem ty_pl_35_0 : plT Try.prog 35 0 = some (0, 1) := by kernel_rfl
theorem ty_pl_35_1 : plT Try.prog 35 1 = some (1, 1) := by kernel_rfl
theorem ty_pl_35_2 : plT Try.prog 35 2 = some (2, 1) := by kernel_rfl
theorem ty_pl_35_3 : plT Try.prog 35 3 = some (3, 1) := by kernel_rfl
theorem ty_pl_38_1 : plT Try.prog 38 1 = some (1, 1) := by kernel_rfl
theorem ty_pl_38_2 : plT Try.prog 38 2 = some (2, 1) := by kernel_rfl
theorem ty_pl_38_3 : plT Try.prog 38 3 = some (3, 1) := by kernel_rfl
theorem ty_pl_42_10 : plT Try.prog 42 10 = some (12, 1) := by kernel_rfl
theorem ty_pl_42_11 : plT Try.prog 42 11 = some (13, 4) := by kernel_rfl
theorem ty_pl_42_12 : plT Try.prog 42 12 = some (17, 1) := by kernel_rfl
theorem ty_pl_42_13 : plT Try.prog 42 13 = some (18, 1) := by kernel_rfl
theorem ty_pl_42_14 : plT Try.prog 42 14 = some (19, 1) := by kernel_rfl
theorem ty_pl_42_15 : plT Try.prog 42 15 = some (20, 1) := by kernel_rfl
theorem ty_pl_42_2 : plT Try.prog 42 2 = some (4, 1) := by kernel_rfl
theorem ty_pl_42_3 : plT Try.prog 42 3 = some (5, 1) := by kernel_rfl
theorem ty_pl_42_4 : plT Try.prog 42 4 = some (6, 1) := by kernel_rfl
theorem ty_pl_42_5 : plT Try.prog 42 5 = some (7, 1) := by kernel_rfl
theorem ty_pl_42_6 : plT Try.prog 42 6 = some (8, 1) := by kernel_rfl
theorem ty_pl_42_7 : plT Try.prog 42 7 = some (9, 1) := by kernel_rfl
theorem ty_pl_42_8 : plT Try.prog 42 8 = some (10, 1) := by kernel_rfl
theorem ty_pl_42_9 : plT Try.prog 42 9 = some (11, 1) := by kernel_rfl
theorem ty_sl_113 : slT Try.prog 113 = some 1 := by kernel_rfl
theorem ty_sl_53 : slT Try.prog 53 = some 4 := by kernel_rfl
theorem ty_sl_54 : slT Try.prog 54 = some 1 := by kernel_rfl
theorem ty_sl_71 : slT Try.prog 71 = some 4 := by kernel_rfl
theorem ty_sl_72 : slT Try.prog 72 = some 4 := by kernel_rfl
theorem ty_sl_98 : slT Try.prog 98 = some 1 := by kernel_rfl
theorem ty_sr_54 : srcT Try.prog 54 = true := by kernel_rfl
theorem ty_sr_72 : srcT Try.prog 72 = true := by kernel_rfl
theorem ty_st_9 : strT Try.prog 9 = true := by kernel_rfl
theorem ty_sz_21 : szT Try.prog 21 = some 1 := by kernel_rfl
theorem ty_sz_23 : szT Try.prog 23 = some 3 := by kernel_rfl
theorem ty_sz_26 : szT Try.prog 26 = some 15 := by kernel_rfl
theorem ty_sz_3 : szT Try.prog 3 = some 1 := by kernel_rfl
theorem ty_sz_30 : szT Try.prog 30 = some 1 := by kernel_rfl
theorem ty_sz_31 : szT Try.prog 31 = some 1 := by kernel_rfl
theorem ty_sz_32 : szT Try.prog 32 = some 1 := by kernel_rfl
theorem ty_sz_33 : szT Try.prog 33 = some 1 := by kernel_rfl
theorem ty_sz_35 : szT Try.prog 35 = some 4 := by kernel_rfl
theorem ty_sz_38 : szT Try.prog 38 = some 6 := by kernel_rfl
theorem ty_sz_4 : szT Try.prog 4 = some 1 := by kernel_rfl
theorem ty_sz_42 : szT Try.prog 42 = some 21 := by kernel_rfl
theorem ty_sz_5 : szT Try.prog 5 = some 1 := by kernel_rfl
theorem ty_sz_54 : szT Try.prog 54 = some 1 := by kernel_rfl
theorem ty_sz_55 : szT Try.prog 55 = some 2 := by kernel_rfl
theorem ty_sz_57 : szT Try.prog 57 = some 4 := by kernel_rfl
theorem ty_sz_63 : szT Try.prog 63 = some 4 := by kernel_rfl
theorem ty_sz_64 : szT Try.prog 64 = some 4 := by kernel_rfl
theorem ty_sz_84 : szT Try.prog 84 = some 4 := by kernel_rfl
theorem ty_sz_87 : szT Try.prog 87 = some 17 := by kernel_rfl
theorem ty_sz_9 : szT Try.prog 9 = some 1 := by kernel_rfl
theorem ty_ze_103 : zeroT Try.prog 103 = some [.raw (.slice none 0 0), .raw (.slice none 0 0), .raw (.bool false)] := by kernel_rfl
theorem ty_ze_23 : zeroT Try.prog 23 = some [.raw (.int .u8 0), .raw (.int .u8 0), .raw (.int .u8 0)] := by kernel_rfl
theorem ty_ze_35 : zeroT Try.prog 35 = some [.raw (.int .u64 0), .raw (.int .u32 0), .raw (.int .u64 0), .raw (.int .u16 0)] := by kernel_rfl
theorem ty_ze_38 : zeroT Try.prog 38 = some [.raw (.int .u64 0), .raw (.int .i64 0), .raw (.int .i64 0), .raw (.int .i64 0), .raw (.int .i64 0), .raw (.int .i64 0)] := by kernel_rfl
theorem ty_ze_42 : zeroT Try.prog 42 = some [.raw (.int .u16 0), .raw (.int .i64 0), .raw (.bool false), .raw (.int .u32 0), .raw (.int .i64 0), .raw (.bool false), .raw (.bool false), .raw (.bool false), .raw (.bool false), .raw (.bool false), .raw (.int .i64 0), .raw (.int .i64 0), .raw (.int .i64 0), .raw (.int .u64 0), .raw (.int .u32 0), .raw (.int .u64 0), .raw (.int .u16 0), .raw (.int .i64 0), .raw (.int .i64 0), .raw (.int .i64 0), .raw (.int .i64 0)] := by kernel_rfl
theorem ty_ze_55 : zeroT Try.prog 55 = some [.raw (.slice none 0 0), .raw (.slice none 0 0)] := by kernel_rfl
theorem ty_ze_57 : zeroT Try.prog 57 = some [.raw (.int .u8 0), .raw (.int .i64 0), .raw (.string ⟨#[]⟩), .raw (.bool false)] := by kernel_rfl
theorem ty_ze_64 : zeroT Try.prog 64 = some [.raw (.int .u64 0), .raw (.int .u32 0), .raw (.int .u64 0), .raw (.int .u16 0)] := by kernel_rfl
theorem ty_zs_113 : zeroE Try.prog 113 = some [.raw (.int .i64 0)] := by kernel_rfl
theorem ty_zs_54 : zeroE Try.prog 54 = some [.raw (.string ⟨#[]⟩)] := by kernel_rfl
theorem ty_zs_72 : zeroE Try.prog 72 = some [.raw (.int .u64 0), .raw (.int .u32 0), .raw (.int .u64 0), .raw (.int .u16 0)] := by kernel_rfl
theorem hmix : Try.prog.follows .mixedOrders = true := by kernel_rfl
end Go.Ev
