/- A part of the proof: contracts of the functions that the statement reaches. -/
import Derived.Test.YtpjgbfddlagcaaaProg
import Derived.Test.YtpjgbfddlagcaaaEvD
import Derived.KernelRfl
namespace Go.Ev
open Go.Proofs
set_option maxRecDepth 100000
theorem ty_ag_134 : aggT Try.prog 134 = some false := by kernel_rfl
theorem ty_ag_22 : aggT Try.prog 22 = some false := by kernel_rfl
theorem ty_ag_25 : aggT Try.prog 25 = some false := by kernel_rfl
theorem ty_ag_26 : aggT Try.prog 26 = some false := by kernel_rfl
theorem ty_ag_27 : aggT Try.prog 27 = some false := by kernel_rfl
theorem ty_ag_29 : aggT Try.prog 29 = some true := by kernel_rfl
theorem ty_ag_3 : aggT Try.prog 3 = some false := by kernel_rfl
theorem ty_ag_33 : aggT Try.prog 33 = some false := by kernel_rfl
theorem ty_ag_34 : aggT Try.prog 34 = some false := by kernel_rfl
theorem ty_ag_36 : aggT Try.prog 36 = some true := by kernel_rfl
theorem ty_ag_38 : aggT Try.prog 38 = some true := by kernel_rfl
theorem ty_ag_39 : aggT Try.prog 39 = some true := by kernel_rfl
theorem ty_ag_4 : aggT Try.prog 4 = some false := by kernel_rfl
theorem ty_ag_43 : aggT Try.prog 43 = some true := by kernel_rfl
theorem ty_ag_45 : aggT Try.prog 45 = some true := by kernel_rfl
theorem ty_ag_5 : aggT Try.prog 5 = some false := by kernel_rfl
theorem ty_ag_53 : aggT Try.prog 53 = some false := by kernel_rfl
theorem ty_ag_54 : aggT Try.prog 54 = some false := by kernel_rfl
theorem ty_ag_59 : aggT Try.prog 59 = some true := by kernel_rfl
theorem ty_ag_72 : aggT Try.prog 72 = some true := by kernel_rfl
theorem ty_ag_82 : aggT Try.prog 82 = some false := by kernel_rfl
theorem ty_ag_9 : aggT Try.prog 9 = some false := by kernel_rfl
theorem ty_ag_90 : aggT Try.prog 90 = some false := by kernel_rfl
theorem ty_ag_97 : aggT Try.prog 97 = some false := by kernel_rfl
theorem ty_ar_23 : arrT Try.prog 23 = some (2, 1, false) := by kernel_rfl
theorem ty_ar_39 : arrT Try.prog 39 = some (6, 1, false) := by kernel_rfl
theorem ty_ar_60 : arrT Try.prog 60 = some (2, 1, false) := by kernel_rfl
theorem ty_by_102 : bytesE Try.prog 102 = some 24 := by kernel_rfl
theorem ty_by_70 : bytesE Try.prog 70 = some 1 := by kernel_rfl
theorem ty_eg_72 : Try.prog.eqGuardType Try.prog.depth 72 = false := by kernel_rfl
theorem ty_ib_70 : isBytesT Try.prog 70 = true := by kernel_rfl
theorem ty_lv_72 : leavesOf Try.prog 60 72 = some [.int .u8, .int .u8, .int .u8, .int .u8, .int .u8, .int .u8, .int .u8, .int .u8, .int .u8, .int .u8, .int .u8, .int .u8, .bool, .int .u8, .bool, .int .u16, .int .u16, .string] := by kernel_rfl
theorem ty_of_132_0 : offT Try.prog 132 0 = some (0, 1) := by kernel_rfl
theorem ty_of_132_1 : offT Try.prog 132 1 = some (1, 1) := by kernel_rfl
theorem ty_of_29_0 : offT Try.prog 29 0 = some (0, 1) := by kernel_rfl
theorem ty_of_29_1 : offT Try.prog 29 1 = some (1, 1) := by kernel_rfl
theorem ty_of_29_2 : offT Try.prog 29 2 = some (2, 1) := by kernel_rfl
theorem ty_of_36_0 : offT Try.prog 36 0 = some (0, 1) := by kernel_rfl
theorem ty_of_36_1 : offT Try.prog 36 1 = some (1, 1) := by kernel_rfl
theorem ty_of_36_2 : offT Try.prog 36 2 = some (2, 1) := by kernel_rfl
theorem ty_of_43_0 : offT Try.prog 43 0 = some (0, 1) := by kernel_rfl
theorem ty_of_43_1 : offT Try.prog 43 1 = some (1, 6) := by kernel_rfl
theorem ty_of_45_0 : offT Try.prog 45 0 = some (0, 7) := by kernel_rfl
theorem ty_of_45_2 : offT Try.prog 45 2 = some (8, 1) := by kernel_rfl
theorem ty_of_56_0 : offT Try.prog 56 0 = some (0, 1) := by kernel_rfl
theorem ty_of_56_1 : offT Try.prog 56 1 = some (1, 1) := by kernel_rfl
theorem ty_of_56_2 : offT Try.prog 56 2 = some (2, 1) := by kernel_rfl
theorem ty_of_56_3 : offT Try.prog 56 3 = some (3, 1) := by kernel_rfl
theorem ty_of_56_4 : offT Try.prog 56 4 = some (4, 1) := by kernel_rfl
theorem ty_of_56_5 : offT Try.prog 56 5 = some (5, 6) := by kernel_rfl
theorem ty_of_56_6 : offT Try.prog 56 6 = some (11, 1) := by kernel_rfl
theorem ty_of_59_0 : offT Try.prog 59 0 = some (0, 7) := by kernel_rfl
theorem ty_of_59_1 : offT Try.prog 59 1 = some (7, 1) := by kernel_rfl
theorem ty_of_69_0 : offT Try.prog 69 0 = some (0, 1) := by kernel_rfl
theorem ty_of_69_1 : offT Try.prog 69 1 = some (1, 1) := by kernel_rfl
theorem ty_of_69_2 : offT Try.prog 69 2 = some (2, 1) := by kernel_rfl
theorem ty_of_69_3 : offT Try.prog 69 3 = some (3, 1) := by kernel_rfl
theorem ty_of_69_4 : offT Try.prog 69 4 = some (4, 1) := by kernel_rfl
theorem ty_of_69_5 : offT Try.prog 69 5 = some (5, 1) := by kernel_rfl
theorem ty_of_69_6 : offT Try.prog 69 6 = some (6, 1) := by kernel_rfl
theorem ty_of_69_7 : offT Try.prog 69 7 = some (7, 1) := by kernel_rfl
theorem ty_of_69_8 : offT Try.prog 69 8 = some (8, 1) := by kernel_rfl
theorem ty_of_72_0 : offT Try.prog 72 0 = some (0, 6) := by kernel_rfl
theorem ty_of_72_1 : offT Try.prog 72 1 = some (6, 6) := by kernel_rfl
theorem ty_of_72_2 : offT Try.prog 72 2 = some (12, 1) := by kernel_rfl
theorem ty_of_72_3 : offT Try.prog 72 3 = some (13, 1) := by kernel_rfl
theorem ty_of_72_4 : offT Try.prog 72 4 = some (14, 1) := by kernel_rfl
theorem ty_of_72_5 : offT Try.prog 72 5 = some (15, 1) := by kernel_rfl
theorem ty_of_72_6 : offT Try.prog 72 6 = some (16, 1) := by kernel_rfl
theorem ty_of_72_7 : offT Try.prog 72 7 = some (17, 1) := by kernel_rfl
theorem ty_of_84_0 : offT Try.prog 84 0 = some (0, 1) := by kernel_rfl
theorem ty_of_92_0 : offT Try.prog 92 0 = some (0, 1) := by kernel_rfl
theorem ty_of_92_2 : offT Try.prog 92 2 = some (2, 1) := by kernel_rfl
theorem ty_of_94_0 : offT Try.prog 94 0 = some (0, 1) := by kernel_rfl
theorem ty_of_94_1 : offT Try.prog 94 1 = some (1, 1) := by kernel_rfl
theorem ty_of_99_0 : offT Try.prog 99 0 = some (0, 1) := by kernel_rfl
theorem ty_ok_132 : plOk Try.prog 132 = true := by kernel_rfl
theorem ty_ok_29 : plOk Try.prog 29 = true := by kernel_rfl
theorem ty_ok_36 : plOk Try.prog 36 = true := by kernel_rfl
theorem ty_ok_43 : plOk Try.prog 43 = true := by kernel_rfl
theorem ty_ok_45 : plOk Try.prog 45 = true := by kernel_rfl
theorem ty_ok_59 : plOk Try.prog 59 = true := by kernel_rfl
theorem ty_ok_72 : plOk Try.prog 72 = true := by kernel_rfl
theorem ty_ok_84 : plOk Try.prog 84 = true := by kernel_rfl
theorem ty_ok_92 : plOk Try.prog 92 = true := by kernel_rfl
theorem ty_ok_94 : plOk Try.prog 94 = true := by kernel_rfl
theorem ty_ok_99 : plOk Try.prog 99 = true := by kernel_rfl
theorem ty_pl_132_0 : plT Try.prog 132 0 = some (0, 1) := by kernel_rfl
theorem ty_pl_29_0 : plT Try.prog 29 0 = some (0, 1) := by kernel_rfl
theorem ty_pl_29_1 : plT Try.prog 29 1 = some (1, 1) := by kernel_rfl
theorem ty_pl_29_2 : plT Try.prog 29 2 = some (2, 1) := by kernel_rfl
theorem ty_pl_36_0 : plT Try.prog 36 0 = some (0, 1) := by kernel_rfl
theorem ty_pl_36_1 : plT Try.prog 36 1 = some (1, 1) := by kernel_rfl
theorem ty_pl_36_2 : plT Try.prog 36 2 = some (2, 1) := by kernel_rfl
theorem ty_pl_43_0 : plT Try.prog 43 0 = some (0, 1) := by kernel_rfl
theorem ty_pl_43_1 : plT Try.prog 43 1 = some (1, 6) := by kernel_rfl
theorem ty_pl_45_0 : plT Try.prog 45 0 = some (0, 7) := by kernel_rfl
theorem ty_pl_45_1 : plT Try.prog 45 1 = some (7, 1) := by kernel_rfl
theorem ty_pl_45_2 : plT Try.prog 45 2 = some (8, 1) := by kernel_rfl
theorem ty_pl_59_0 : plT Try.prog 59 0 = some (0, 7) := by kernel_rfl
theorem ty_pl_59_1 : plT Try.prog 59 1 = some (7, 1) := by kernel_rfl
theorem ty_pl_72_2 : plT Try.prog 72 2 = some (12, 1) := by kernel_rfl
theorem ty_pl_72_3 : plT Try.prog 72 3 = some (13, 1) := by kernel_rfl
theorem ty_pl_72_4 : plT Try.prog 72 4 = some (14, 1) := by kernel_rfl
theorem ty_pl_72_5 : plT Try.prog 72 5 = some (15, 1) := by kernel_rfl
theorem ty_pl_72_6 : plT Try.prog 72 6 = some (16, 1) := by kernel_rfl
theorem ty_pl_72_7 : plT Try.prog 72 7 = some (17, 1) := by kernel_rfl
theorem ty_pl_84_0 : plT Try.prog 84 0 = some (0, 1) := by kernel_rfl
theorem ty_pl_92_0 : plT Try.prog 92 0 = some (0, 1) := by kernel_rfl
theorem ty_pl_92_1 : plT Try.prog 92 1 = some (1, 1) := by kernel_rfl
theorem ty_pl_92_2 : plT Try.prog 92 2 = some (2, 1) := by kernel_rfl
theorem ty_pl_94_0 : plT Try.prog 94 0 = some (0, 1) := by kernel_rfl
theorem ty_pl_94_1 : plT Try.prog 94 1 = some (1, 1) := by kernel_rfl
theorem ty_pl_99_0 : plT Try.prog 99 0 = some (0, 1) := by kernel_rfl
theorem ty_sf_70 : strT Try.prog 70 = false := by kernel_rfl
theorem ty_sl_102 : slT Try.prog 102 = some 9 := by kernel_rfl
theorem ty_sl_53 : slT Try.prog 53 = some 2 := by kernel_rfl
theorem ty_sl_54 : slT Try.prog 54 = some 2 := by kernel_rfl
theorem ty_sl_70 : slT Try.prog 70 = some 1 := by kernel_rfl
theorem ty_sl_96 : slT Try.prog 96 = some 1 := by kernel_rfl
theorem ty_sr_102 : srcT Try.prog 102 = true := by kernel_rfl
theorem ty_st_9 : strT Try.prog 9 = true := by kernel_rfl
theorem ty_sz_134 : szT Try.prog 134 = some 1 := by kernel_rfl
theorem ty_sz_22 : szT Try.prog 22 = some 1 := by kernel_rfl
theorem ty_sz_25 : szT Try.prog 25 = some 1 := by kernel_rfl
theorem ty_sz_26 : szT Try.prog 26 = some 1 := by kernel_rfl
theorem ty_sz_27 : szT Try.prog 27 = some 1 := by kernel_rfl
theorem ty_sz_29 : szT Try.prog 29 = some 3 := by kernel_rfl
theorem ty_sz_3 : szT Try.prog 3 = some 1 := by kernel_rfl
theorem ty_sz_33 : szT Try.prog 33 = some 1 := by kernel_rfl
theorem ty_sz_34 : szT Try.prog 34 = some 1 := by kernel_rfl
theorem ty_sz_36 : szT Try.prog 36 = some 3 := by kernel_rfl
theorem ty_sz_38 : szT Try.prog 38 = some 6 := by kernel_rfl
theorem ty_sz_39 : szT Try.prog 39 = some 6 := by kernel_rfl
theorem ty_sz_4 : szT Try.prog 4 = some 1 := by kernel_rfl
theorem ty_sz_43 : szT Try.prog 43 = some 7 := by kernel_rfl
theorem ty_sz_45 : szT Try.prog 45 = some 9 := by kernel_rfl
theorem ty_sz_5 : szT Try.prog 5 = some 1 := by kernel_rfl
theorem ty_sz_53 : szT Try.prog 53 = some 1 := by kernel_rfl
theorem ty_sz_54 : szT Try.prog 54 = some 1 := by kernel_rfl
theorem ty_sz_59 : szT Try.prog 59 = some 8 := by kernel_rfl
theorem ty_sz_72 : szT Try.prog 72 = some 18 := by kernel_rfl
theorem ty_sz_82 : szT Try.prog 82 = some 1 := by kernel_rfl
theorem ty_sz_9 : szT Try.prog 9 = some 1 := by kernel_rfl
theorem ty_sz_90 : szT Try.prog 90 = some 1 := by kernel_rfl
theorem ty_sz_94 : szT Try.prog 94 = some 2 := by kernel_rfl
theorem ty_sz_97 : szT Try.prog 97 = some 1 := by kernel_rfl
theorem ty_ze_132 : zeroT Try.prog 132 = some [.raw (.string ⟨#[]⟩), .raw (.bool false)] := by kernel_rfl
theorem ty_ze_134 : zeroT Try.prog 134 = some [.raw (.int .u64 0)] := by kernel_rfl
theorem ty_ze_29 : zeroT Try.prog 29 = some [.raw (.pointer none), .raw (.pointer none), .raw (.pointer none)] := by kernel_rfl
theorem ty_ze_3 : zeroT Try.prog 3 = some [.raw (.int .i64 0)] := by kernel_rfl
theorem ty_ze_36 : zeroT Try.prog 36 = some [.raw (.int .u16 0), .raw (.int .u32 0), .raw (.int .u32 0)] := by kernel_rfl
theorem ty_ze_39 : zeroT Try.prog 39 = some [.raw (.int .u8 0), .raw (.int .u8 0), .raw (.int .u8 0), .raw (.int .u8 0), .raw (.int .u8 0), .raw (.int .u8 0)] := by kernel_rfl
theorem ty_ze_43 : zeroT Try.prog 43 = some [.raw (.int .u16 0), .raw (.int .u8 0), .raw (.int .u8 0), .raw (.int .u8 0), .raw (.int .u8 0), .raw (.int .u8 0), .raw (.int .u8 0)] := by kernel_rfl
theorem ty_ze_45 : zeroT Try.prog 45 = some [.raw (.int .u16 0), .raw (.int .u8 0), .raw (.int .u8 0), .raw (.int .u8 0), .raw (.int .u8 0), .raw (.int .u8 0), .raw (.int .u8 0), .raw (.int .i64 0), .raw (.int .i64 0)] := by kernel_rfl
theorem ty_ze_59 : zeroT Try.prog 59 = some [.raw (.int .u16 0), .raw (.int .u8 0), .raw (.int .u8 0), .raw (.int .u8 0), .raw (.int .u8 0), .raw (.int .u8 0), .raw (.int .u8 0), .raw (.int .u32 0)] := by kernel_rfl
theorem ty_ze_72 : zeroT Try.prog 72 = some [.raw (.int .u8 0), .raw (.int .u8 0), .raw (.int .u8 0), .raw (.int .u8 0), .raw (.int .u8 0), .raw (.int .u8 0), .raw (.int .u8 0), .raw (.int .u8 0), .raw (.int .u8 0), .raw (.int .u8 0), .raw (.int .u8 0), .raw (.int .u8 0), .raw (.bool false), .raw (.int .u8 0), .raw (.bool false), .raw (.int .u16 0), .raw (.int .u16 0), .raw (.string ⟨#[]⟩)] := by kernel_rfl
theorem ty_ze_84 : zeroT Try.prog 84 = some [.raw (.map none)] := by kernel_rfl
theorem ty_ze_92 : zeroT Try.prog 92 = some [.raw (.int .i64 0), .raw (.int .i64 0), .raw (.map none)] := by kernel_rfl
theorem ty_ze_94 : zeroT Try.prog 94 = some [.raw (.int .i64 0), .raw (.int .i64 0)] := by kernel_rfl
theorem ty_ze_99 : zeroT Try.prog 99 = some [.raw (.map none)] := by kernel_rfl
theorem ty_zs_102 : zeroE Try.prog 102 = some [.raw (.int .u16 0), .raw (.int .u8 0), .raw (.int .u8 0), .raw (.int .u8 0), .raw (.int .u8 0), .raw (.int .u8 0), .raw (.int .u8 0), .raw (.int .i64 0), .raw (.int .i64 0)] := by kernel_rfl
theorem ty_zs_70 : zeroE Try.prog 70 = some [.raw (.int .u8 0)] := by kernel_rfl
theorem ty_zs_96 : zeroE Try.prog 96 = some [.raw (.int .i64 0)] := by kernel_rfl
theorem hmix : Try.prog.follows .mixedOrders = true := by kernel_rfl
end Go.Ev
