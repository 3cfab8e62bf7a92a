/- A part of the proof: contracts of the functions that the statement reaches. -/
import Derived.Test.YtpjgbfddlagcaaaDoorProg
import Derived.Test.YtpjgbfddlagcaaaDoorEvD
import Derived.KernelRfl
namespace Go.Ev
open Go.Proofs
set_option maxRecDepth 100000
theorem ty_ag_104 : aggT Tryd.prog 104 = some false := by kernel_rfl
theorem ty_ag_110 : aggT Tryd.prog 110 = some false := by kernel_rfl
theorem ty_ag_122 : aggT Tryd.prog 122 = some false := by kernel_rfl
theorem ty_ag_22 : aggT Tryd.prog 22 = some false := by kernel_rfl
theorem ty_ag_23 : aggT Tryd.prog 23 = some false := by kernel_rfl
theorem ty_ag_26 : aggT Tryd.prog 26 = some false := by kernel_rfl
theorem ty_ag_27 : aggT Tryd.prog 27 = some false := by kernel_rfl
theorem ty_ag_29 : aggT Tryd.prog 29 = some true := by kernel_rfl
theorem ty_ag_3 : aggT Tryd.prog 3 = some false := by kernel_rfl
theorem ty_ag_31 : aggT Tryd.prog 31 = some false := by kernel_rfl
theorem ty_ag_32 : aggT Tryd.prog 32 = some false := by kernel_rfl
theorem ty_ag_33 : aggT Tryd.prog 33 = some false := by kernel_rfl
theorem ty_ag_35 : aggT Tryd.prog 35 = some true := by kernel_rfl
theorem ty_ag_4 : aggT Tryd.prog 4 = some false := by kernel_rfl
theorem ty_ag_40 : aggT Tryd.prog 40 = some true := by kernel_rfl
theorem ty_ag_42 : aggT Tryd.prog 42 = some true := by kernel_rfl
theorem ty_ag_45 : aggT Tryd.prog 45 = some true := by kernel_rfl
theorem ty_ag_46 : aggT Tryd.prog 46 = some false := by kernel_rfl
theorem ty_ag_48 : aggT Tryd.prog 48 = some true := by kernel_rfl
theorem ty_ag_5 : aggT Tryd.prog 5 = some false := by kernel_rfl
theorem ty_ag_51 : aggT Tryd.prog 51 = some true := by kernel_rfl
theorem ty_ag_58 : aggT Tryd.prog 58 = some true := by kernel_rfl
theorem ty_ag_63 : aggT Tryd.prog 63 = some true := by kernel_rfl
theorem ty_ag_67 : aggT Tryd.prog 67 = some true := by kernel_rfl
theorem ty_ag_70 : aggT Tryd.prog 70 = some false := by kernel_rfl
theorem ty_ag_73 : aggT Tryd.prog 73 = some true := by kernel_rfl
theorem ty_ag_81 : aggT Tryd.prog 81 = some true := by kernel_rfl
theorem ty_ag_86 : aggT Tryd.prog 86 = some true := by kernel_rfl
theorem ty_ag_9 : aggT Tryd.prog 9 = some false := by kernel_rfl
theorem ty_ag_95 : aggT Tryd.prog 95 = some true := by kernel_rfl
theorem ty_ar_24 : arrT Tryd.prog 24 = some (2, 1, false) := by kernel_rfl
theorem ty_ar_25 : arrT Tryd.prog 25 = some (3, 2, true) := by kernel_rfl
theorem ty_ar_40 : arrT Tryd.prog 40 = some (6, 1, false) := by kernel_rfl
theorem ty_ar_61 : arrT Tryd.prog 61 = some (4, 1, false) := by kernel_rfl
theorem ty_by_36 : bytesE Tryd.prog 36 = some 136 := by kernel_rfl
theorem ty_by_46 : bytesE Tryd.prog 46 = some 48 := by kernel_rfl
theorem ty_by_82 : bytesE Tryd.prog 82 = some 24 := by kernel_rfl
theorem ty_by_96 : bytesE Tryd.prog 96 = some 1 := by kernel_rfl
theorem ty_eg_67 : Tryd.prog.eqGuardType Tryd.prog.depth 67 = false := by kernel_rfl
theorem ty_eg_81 : Tryd.prog.eqGuardType Tryd.prog.depth 81 = false := by kernel_rfl
theorem ty_ib_96 : isBytesT Tryd.prog 96 = true := by kernel_rfl
theorem ty_lv_67 : leavesOf Tryd.prog 60 67 = some [.int .u16, .int .u8, .int .u8, .int .u8, .int .u8, .int .u8, .int .u8, .int .i64, .int .i64] := by kernel_rfl
theorem ty_lv_81 : leavesOf Tryd.prog 60 81 = some [.int .i64, .int .u8, .int .u8, .int .u8, .int .u8, .int .u8, .int .u8, .int .u8, .int .u8, .int .u8, .int .u8, .int .u8, .int .u8, .bool, .int .u8, .bool, .int .u16, .int .u16, .string] := by kernel_rfl
theorem ty_of_102_0 : offT Tryd.prog 102 0 = some (0, 1) := by kernel_rfl
theorem ty_of_102_1 : offT Tryd.prog 102 1 = some (1, 1) := by kernel_rfl
theorem ty_of_106_0 : offT Tryd.prog 106 0 = some (0, 1) := by kernel_rfl
theorem ty_of_106_2 : offT Tryd.prog 106 2 = some (2, 1) := by kernel_rfl
theorem ty_of_112_0 : offT Tryd.prog 112 0 = some (0, 1) := by kernel_rfl
theorem ty_of_124_0 : offT Tryd.prog 124 0 = some (0, 1) := by kernel_rfl
theorem ty_of_161_0 : offT Tryd.prog 161 0 = some (0, 1) := by kernel_rfl
theorem ty_of_161_1 : offT Tryd.prog 161 1 = some (1, 1) := by kernel_rfl
theorem ty_of_29_0 : offT Tryd.prog 29 0 = some (0, 1) := by kernel_rfl
theorem ty_of_29_1 : offT Tryd.prog 29 1 = some (1, 6) := by kernel_rfl
theorem ty_of_29_2 : offT Tryd.prog 29 2 = some (7, 1) := by kernel_rfl
theorem ty_of_29_3 : offT Tryd.prog 29 3 = some (8, 1) := by kernel_rfl
theorem ty_of_29_4 : offT Tryd.prog 29 4 = some (9, 1) := by kernel_rfl
theorem ty_of_35_0 : offT Tryd.prog 35 0 = some (0, 1) := by kernel_rfl
theorem ty_of_35_1 : offT Tryd.prog 35 1 = some (1, 1) := by kernel_rfl
theorem ty_of_35_2 : offT Tryd.prog 35 2 = some (2, 1) := by kernel_rfl
theorem ty_of_42_0 : offT Tryd.prog 42 0 = some (0, 6) := by kernel_rfl
theorem ty_of_42_1 : offT Tryd.prog 42 1 = some (6, 6) := by kernel_rfl
theorem ty_of_42_2 : offT Tryd.prog 42 2 = some (12, 1) := by kernel_rfl
theorem ty_of_42_3 : offT Tryd.prog 42 3 = some (13, 1) := by kernel_rfl
theorem ty_of_42_4 : offT Tryd.prog 42 4 = some (14, 1) := by kernel_rfl
theorem ty_of_42_5 : offT Tryd.prog 42 5 = some (15, 1) := by kernel_rfl
theorem ty_of_42_6 : offT Tryd.prog 42 6 = some (16, 1) := by kernel_rfl
theorem ty_of_42_7 : offT Tryd.prog 42 7 = some (17, 1) := by kernel_rfl
theorem ty_of_45_0 : offT Tryd.prog 45 0 = some (0, 1) := by kernel_rfl
theorem ty_of_45_1 : offT Tryd.prog 45 1 = some (1, 1) := by kernel_rfl
theorem ty_of_45_2 : offT Tryd.prog 45 2 = some (2, 1) := by kernel_rfl
theorem ty_of_45_3 : offT Tryd.prog 45 3 = some (3, 1) := by kernel_rfl
theorem ty_of_45_4 : offT Tryd.prog 45 4 = some (4, 1) := by kernel_rfl
theorem ty_of_45_5 : offT Tryd.prog 45 5 = some (5, 1) := by kernel_rfl
theorem ty_of_48_0 : offT Tryd.prog 48 0 = some (0, 1) := by kernel_rfl
theorem ty_of_48_1 : offT Tryd.prog 48 1 = some (1, 1) := by kernel_rfl
theorem ty_of_48_2 : offT Tryd.prog 48 2 = some (2, 1) := by kernel_rfl
theorem ty_of_48_3 : offT Tryd.prog 48 3 = some (3, 1) := by kernel_rfl
theorem ty_of_51_0 : offT Tryd.prog 51 0 = some (0, 1) := by kernel_rfl
theorem ty_of_51_1 : offT Tryd.prog 51 1 = some (1, 1) := by kernel_rfl
theorem ty_of_51_2 : offT Tryd.prog 51 2 = some (2, 1) := by kernel_rfl
theorem ty_of_58_0 : offT Tryd.prog 58 0 = some (0, 3) := by kernel_rfl
theorem ty_of_58_4 : offT Tryd.prog 58 4 = some (6, 1) := by kernel_rfl
theorem ty_of_58_5 : offT Tryd.prog 58 5 = some (7, 1) := by kernel_rfl
theorem ty_of_58_9 : offT Tryd.prog 58 9 = some (11, 1) := by kernel_rfl
theorem ty_of_63_0 : offT Tryd.prog 63 0 = some (0, 1) := by kernel_rfl
theorem ty_of_63_1 : offT Tryd.prog 63 1 = some (1, 6) := by kernel_rfl
theorem ty_of_67_0 : offT Tryd.prog 67 0 = some (0, 7) := by kernel_rfl
theorem ty_of_67_2 : offT Tryd.prog 67 2 = some (8, 1) := by kernel_rfl
theorem ty_of_73_0 : offT Tryd.prog 73 0 = some (0, 1) := by kernel_rfl
theorem ty_of_73_1 : offT Tryd.prog 73 1 = some (1, 1) := by kernel_rfl
theorem ty_of_73_2 : offT Tryd.prog 73 2 = some (2, 1) := by kernel_rfl
theorem ty_of_81_0 : offT Tryd.prog 81 0 = some (0, 1) := by kernel_rfl
theorem ty_of_81_1 : offT Tryd.prog 81 1 = some (1, 18) := by kernel_rfl
theorem ty_of_86_0 : offT Tryd.prog 86 0 = some (0, 1) := by kernel_rfl
theorem ty_of_86_1 : offT Tryd.prog 86 1 = some (1, 1) := by kernel_rfl
theorem ty_of_86_2 : offT Tryd.prog 86 2 = some (2, 1) := by kernel_rfl
theorem ty_of_86_3 : offT Tryd.prog 86 3 = some (3, 1) := by kernel_rfl
theorem ty_of_86_4 : offT Tryd.prog 86 4 = some (4, 1) := by kernel_rfl
theorem ty_of_95_0 : offT Tryd.prog 95 0 = some (0, 7) := by kernel_rfl
theorem ty_of_95_1 : offT Tryd.prog 95 1 = some (7, 1) := by kernel_rfl
theorem ty_ok_102 : plOk Tryd.prog 102 = true := by kernel_rfl
theorem ty_ok_106 : plOk Tryd.prog 106 = true := by kernel_rfl
theorem ty_ok_112 : plOk Tryd.prog 112 = true := by kernel_rfl
theorem ty_ok_124 : plOk Tryd.prog 124 = true := by kernel_rfl
theorem ty_ok_161 : plOk Tryd.prog 161 = true := by kernel_rfl
theorem ty_ok_24 : plOk Tryd.prog 24 = true := by kernel_rfl
theorem ty_ok_25 : plOk Tryd.prog 25 = true := by kernel_rfl
theorem ty_ok_29 : plOk Tryd.prog 29 = true := by kernel_rfl
theorem ty_ok_35 : plOk Tryd.prog 35 = true := by kernel_rfl
theorem ty_ok_40 : plOk Tryd.prog 40 = true := by kernel_rfl
theorem ty_ok_42 : plOk Tryd.prog 42 = true := by kernel_rfl
theorem ty_ok_48 : plOk Tryd.prog 48 = true := by kernel_rfl
theorem ty_ok_51 : plOk Tryd.prog 51 = true := by kernel_rfl
theorem ty_ok_58 : plOk Tryd.prog 58 = true := by kernel_rfl
theorem ty_ok_61 : plOk Tryd.prog 61 = true := by kernel_rfl
theorem ty_ok_63 : plOk Tryd.prog 63 = true := by kernel_rfl
theorem ty_ok_67 : plOk Tryd.prog 67 = true := by kernel_rfl
theorem ty_ok_73 : plOk Tryd.prog 73 = true := by kernel_rfl
theorem ty_ok_81 : plOk Tryd.prog 81 = true := by kernel_rfl
theorem ty_ok_86 : plOk Tryd.prog 86 = true := by kernel_rfl
theorem ty_ok_95 : plOk Tryd.prog 95 = true := by kernel_rfl
theorem ty_pl_102_0 : plT Tryd.prog 102 0 = some (0, 1) := by kernel_rfl
theorem ty_pl_102_1 : plT Tryd.prog 102 1 = some (1, 1) := by kernel_rfl
theorem ty_pl_106_0 : plT Tryd.prog 106 0 = some (0, 1) := by kernel_rfl
theorem ty_pl_106_1 : plT Tryd.prog 106 1 = some (1, 1) := by kernel_rfl
theorem ty_pl_106_2 : plT Tryd.prog 106 2 = some (2, 1) := by kernel_rfl
theorem ty_pl_112_0 : plT Tryd.prog 112 0 = some (0, 1) := by kernel_rfl
theorem ty_pl_124_0 : plT Tryd.prog 124 0 = some (0, 1) := by kernel_rfl
theorem ty_pl_161_0 : plT Tryd.prog 161 0 = some (0, 1) := by kernel_rfl
theorem ty_pl_24_0 : plT Tryd.prog 24 0 = some (0, 1) := by kernel_rfl
theorem ty_pl_24_1 : plT Tryd.prog 24 1 = some (1, 1) := by kernel_rfl
theorem ty_pl_25_0 : plT Tryd.prog 25 0 = some (0, 2) := by kernel_rfl
theorem ty_pl_29_0 : plT Tryd.prog 29 0 = some (0, 1) := by kernel_rfl
theorem ty_pl_29_1 : plT Tryd.prog 29 1 = some (1, 6) := by kernel_rfl
theorem ty_pl_29_3 : plT Tryd.prog 29 3 = some (8, 1) := by kernel_rfl
theorem ty_pl_35_0 : plT Tryd.prog 35 0 = some (0, 1) := by kernel_rfl
theorem ty_pl_35_1 : plT Tryd.prog 35 1 = some (1, 1) := by kernel_rfl
theorem ty_pl_35_2 : plT Tryd.prog 35 2 = some (2, 1) := by kernel_rfl
theorem ty_pl_40_0 : plT Tryd.prog 40 0 = some (0, 1) := by kernel_rfl
theorem ty_pl_40_1 : plT Tryd.prog 40 1 = some (1, 1) := by kernel_rfl
theorem ty_pl_40_2 : plT Tryd.prog 40 2 = some (2, 1) := by kernel_rfl
theorem ty_pl_40_3 : plT Tryd.prog 40 3 = some (3, 1) := by kernel_rfl
theorem ty_pl_40_4 : plT Tryd.prog 40 4 = some (4, 1) := by kernel_rfl
theorem ty_pl_40_5 : plT Tryd.prog 40 5 = some (5, 1) := by kernel_rfl
theorem ty_pl_42_0 : plT Tryd.prog 42 0 = some (0, 6) := by kernel_rfl
theorem ty_pl_42_1 : plT Tryd.prog 42 1 = some (6, 6) := by kernel_rfl
theorem ty_pl_42_6 : plT Tryd.prog 42 6 = some (16, 1) := by kernel_rfl
theorem ty_pl_42_7 : plT Tryd.prog 42 7 = some (17, 1) := by kernel_rfl
theorem ty_pl_48_1 : plT Tryd.prog 48 1 = some (1, 1) := by kernel_rfl
theorem ty_pl_51_0 : plT Tryd.prog 51 0 = some (0, 1) := by kernel_rfl
theorem ty_pl_51_1 : plT Tryd.prog 51 1 = some (1, 1) := by kernel_rfl
theorem ty_pl_51_2 : plT Tryd.prog 51 2 = some (2, 1) := by kernel_rfl
theorem ty_pl_58_0 : plT Tryd.prog 58 0 = some (0, 3) := by kernel_rfl
theorem ty_pl_58_4 : plT Tryd.prog 58 4 = some (6, 1) := by kernel_rfl
theorem ty_pl_58_5 : plT Tryd.prog 58 5 = some (7, 1) := by kernel_rfl
theorem ty_pl_58_9 : plT Tryd.prog 58 9 = some (11, 1) := by kernel_rfl
theorem ty_pl_61_0 : plT Tryd.prog 61 0 = some (0, 1) := by kernel_rfl
theorem ty_pl_61_1 : plT Tryd.prog 61 1 = some (1, 1) := by kernel_rfl
theorem ty_pl_61_2 : plT Tryd.prog 61 2 = some (2, 1) := by kernel_rfl
theorem ty_pl_61_3 : plT Tryd.prog 61 3 = some (3, 1) := by kernel_rfl
theorem ty_pl_63_0 : plT Tryd.prog 63 0 = some (0, 1) := by kernel_rfl
theorem ty_pl_63_1 : plT Tryd.prog 63 1 = some (1, 6) := by kernel_rfl
theorem ty_pl_67_0 : plT Tryd.prog 67 0 = some (0, 7) := by kernel_rfl
theorem ty_pl_67_1 : plT Tryd.prog 67 1 = some (7, 1) := by kernel_rfl
theorem ty_pl_67_2 : plT Tryd.prog 67 2 = some (8, 1) := by kernel_rfl
theorem ty_pl_73_0 : plT Tryd.prog 73 0 = some (0, 1) := by kernel_rfl
theorem ty_pl_73_1 : plT Tryd.prog 73 1 = some (1, 1) := by kernel_rfl
theorem ty_pl_73_2 : plT Tryd.prog 73 2 = some (2, 1) := by kernel_rfl
theorem ty_pl_81_0 : plT Tryd.prog 81 0 = some (0, 1) := by kernel_rfl
theorem ty_pl_81_1 : plT Tryd.prog 81 1 = some (1, 18) := by kernel_rfl
theorem ty_pl_86_1 : plT Tryd.prog 86 1 = some (1, 1) := by kernel_rfl
theorem ty_pl_95_0 : plT Tryd.prog 95 0 = some (0, 7) := by kernel_rfl
theorem ty_pl_95_1 : plT Tryd.prog 95 1 = some (7, 1) := by kernel_rfl
theorem ty_sf_96 : strT Tryd.prog 96 = false := by kernel_rfl
theorem ty_sl_130 : slT Tryd.prog 130 = some 1 := by kernel_rfl
theorem ty_sl_22 : slT Tryd.prog 22 = some 5 := by kernel_rfl
theorem ty_sl_26 : slT Tryd.prog 26 = some 2 := by kernel_rfl
theorem ty_sl_27 : slT Tryd.prog 27 = some 6 := by kernel_rfl
theorem ty_sl_36 : slT Tryd.prog 36 = some 21 := by kernel_rfl
theorem ty_sl_46 : slT Tryd.prog 46 = some 19 := by kernel_rfl
theorem ty_sl_82 : slT Tryd.prog 82 = some 9 := by kernel_rfl
theorem ty_sl_96 : slT Tryd.prog 96 = some 1 := by kernel_rfl
theorem ty_sr_36 : srcT Tryd.prog 36 = true := by kernel_rfl
theorem ty_sr_46 : srcT Tryd.prog 46 = true := by kernel_rfl
theorem ty_sr_82 : srcT Tryd.prog 82 = true := by kernel_rfl
theorem ty_st_9 : strT Tryd.prog 9 = true := by kernel_rfl
theorem ty_sz_102 : szT Tryd.prog 102 = some 2 := by kernel_rfl
theorem ty_sz_104 : szT Tryd.prog 104 = some 1 := by kernel_rfl
theorem ty_sz_110 : szT Tryd.prog 110 = some 1 := by kernel_rfl
theorem ty_sz_122 : szT Tryd.prog 122 = some 1 := by kernel_rfl
theorem ty_sz_22 : szT Tryd.prog 22 = some 1 := by kernel_rfl
theorem ty_sz_23 : szT Tryd.prog 23 = some 1 := by kernel_rfl
theorem ty_sz_26 : szT Tryd.prog 26 = some 1 := by kernel_rfl
theorem ty_sz_27 : szT Tryd.prog 27 = some 1 := by kernel_rfl
theorem ty_sz_29 : szT Tryd.prog 29 = some 10 := by kernel_rfl
theorem ty_sz_3 : szT Tryd.prog 3 = some 1 := by kernel_rfl
theorem ty_sz_31 : szT Tryd.prog 31 = some 1 := by kernel_rfl
theorem ty_sz_32 : szT Tryd.prog 32 = some 1 := by kernel_rfl
theorem ty_sz_33 : szT Tryd.prog 33 = some 1 := by kernel_rfl
theorem ty_sz_35 : szT Tryd.prog 35 = some 3 := by kernel_rfl
theorem ty_sz_4 : szT Tryd.prog 4 = some 1 := by kernel_rfl
theorem ty_sz_40 : szT Tryd.prog 40 = some 6 := by kernel_rfl
theorem ty_sz_42 : szT Tryd.prog 42 = some 18 := by kernel_rfl
theorem ty_sz_45 : szT Tryd.prog 45 = some 6 := by kernel_rfl
theorem ty_sz_46 : szT Tryd.prog 46 = some 1 := by kernel_rfl
theorem ty_sz_48 : szT Tryd.prog 48 = some 4 := by kernel_rfl
theorem ty_sz_5 : szT Tryd.prog 5 = some 1 := by kernel_rfl
theorem ty_sz_51 : szT Tryd.prog 51 = some 3 := by kernel_rfl
theorem ty_sz_58 : szT Tryd.prog 58 = some 21 := by kernel_rfl
theorem ty_sz_63 : szT Tryd.prog 63 = some 7 := by kernel_rfl
theorem ty_sz_67 : szT Tryd.prog 67 = some 9 := by kernel_rfl
theorem ty_sz_70 : szT Tryd.prog 70 = some 1 := by kernel_rfl
theorem ty_sz_73 : szT Tryd.prog 73 = some 3 := by kernel_rfl
theorem ty_sz_81 : szT Tryd.prog 81 = some 19 := by kernel_rfl
theorem ty_sz_86 : szT Tryd.prog 86 = some 5 := by kernel_rfl
theorem ty_sz_9 : szT Tryd.prog 9 = some 1 := by kernel_rfl
theorem ty_sz_95 : szT Tryd.prog 95 = some 8 := by kernel_rfl
theorem ty_ze_102 : zeroT Tryd.prog 102 = some [.raw (.int .i64 0), .raw (.int .i64 0)] := by kernel_rfl
theorem ty_ze_106 : zeroT Tryd.prog 106 = some [.raw (.int .i64 0), .raw (.int .i64 0), .raw (.map none)] := by kernel_rfl
theorem ty_ze_112 : zeroT Tryd.prog 112 = some [.raw (.map none)] := by kernel_rfl
theorem ty_ze_124 : zeroT Tryd.prog 124 = some [.raw (.map none)] := by kernel_rfl
theorem ty_ze_161 : zeroT Tryd.prog 161 = some [.raw (.string ⟨#[]⟩), .raw (.bool false)] := by kernel_rfl
theorem ty_ze_24 : zeroT Tryd.prog 24 = some [.raw (.int .u16 0), .raw (.int .u16 0)] := by kernel_rfl
theorem ty_ze_25 : zeroT Tryd.prog 25 = some [.raw (.int .u16 0), .raw (.int .u16 0), .raw (.int .u16 0), .raw (.int .u16 0), .raw (.int .u16 0), .raw (.int .u16 0)] := by kernel_rfl
theorem ty_ze_29 : zeroT Tryd.prog 29 = some [.raw (.slice none 0 0), .raw (.int .u16 0), .raw (.int .u16 0), .raw (.int .u16 0), .raw (.int .u16 0), .raw (.int .u16 0), .raw (.int .u16 0), .raw (.slice none 0 0), .raw (.int .u8 0), .raw (.slice none 0 0)] := by kernel_rfl
theorem ty_ze_35 : zeroT Tryd.prog 35 = some [.raw (.pointer none), .raw (.pointer none), .raw (.pointer none)] := by kernel_rfl
theorem ty_ze_40 : zeroT Tryd.prog 40 = some [.raw (.int .u8 0), .raw (.int .u8 0), .raw (.int .u8 0), .raw (.int .u8 0), .raw (.int .u8 0), .raw (.int .u8 0)] := by kernel_rfl
theorem ty_ze_42 : zeroT Tryd.prog 42 = some [.raw (.int .u8 0), .raw (.int .u8 0), .raw (.int .u8 0), .raw (.int .u8 0), .raw (.int .u8 0), .raw (.int .u8 0), .raw (.int .u8 0), .raw (.int .u8 0), .raw (.int .u8 0), .raw (.int .u8 0), .raw (.int .u8 0), .raw (.int .u8 0), .raw (.bool false), .raw (.int .u8 0), .raw (.bool false), .raw (.int .u16 0), .raw (.int .u16 0), .raw (.string ⟨#[]⟩)] := by kernel_rfl
theorem ty_ze_48 : zeroT Tryd.prog 48 = some [.raw (.slice none 0 0), .raw (.int .i64 0), .raw (.bool false), .raw (.bool false)] := by kernel_rfl
theorem ty_ze_51 : zeroT Tryd.prog 51 = some [.raw (.int .u16 0), .raw (.int .i64 0), .raw (.bool false)] := by kernel_rfl
theorem ty_ze_58 : zeroT Tryd.prog 58 = some [.raw (.int .u16 0), .raw (.int .i64 0), .raw (.bool false), .raw (.int .u32 0), .raw (.int .i64 0), .raw (.bool false), .raw (.bool false), .raw (.bool false), .raw (.bool false), .raw (.bool false), .raw (.int .i64 0), .raw (.int .i64 0), .raw (.int .i64 0), .raw (.int .u64 0), .raw (.int .u32 0), .raw (.int .u64 0), .raw (.int .u16 0), .raw (.int .i64 0), .raw (.int .i64 0), .raw (.int .i64 0), .raw (.int .i64 0)] := by kernel_rfl
theorem ty_ze_61 : zeroT Tryd.prog 61 = some [.raw (.int .i64 0), .raw (.int .i64 0), .raw (.int .i64 0), .raw (.int .i64 0)] := by kernel_rfl
theorem ty_ze_63 : zeroT Tryd.prog 63 = some [.raw (.int .u16 0), .raw (.int .u8 0), .raw (.int .u8 0), .raw (.int .u8 0), .raw (.int .u8 0), .raw (.int .u8 0), .raw (.int .u8 0)] := by kernel_rfl
theorem ty_ze_67 : zeroT Tryd.prog 67 = some [.raw (.int .u16 0), .raw (.int .u8 0), .raw (.int .u8 0), .raw (.int .u8 0), .raw (.int .u8 0), .raw (.int .u8 0), .raw (.int .u8 0), .raw (.int .i64 0), .raw (.int .i64 0)] := by kernel_rfl
theorem ty_ze_73 : zeroT Tryd.prog 73 = some [.raw (.int .u16 0), .raw (.int .u32 0), .raw (.int .u32 0)] := by kernel_rfl
theorem ty_ze_81 : zeroT Tryd.prog 81 = some [.raw (.int .i64 0), .raw (.int .u8 0), .raw (.int .u8 0), .raw (.int .u8 0), .raw (.int .u8 0), .raw (.int .u8 0), .raw (.int .u8 0), .raw (.int .u8 0), .raw (.int .u8 0), .raw (.int .u8 0), .raw (.int .u8 0), .raw (.int .u8 0), .raw (.int .u8 0), .raw (.bool false), .raw (.int .u8 0), .raw (.bool false), .raw (.int .u16 0), .raw (.int .u16 0), .raw (.string ⟨#[]⟩)] := by kernel_rfl
theorem ty_ze_86 : zeroT Tryd.prog 86 = some [.raw (.bool false), .raw (.int .u8 0), .raw (.int .u8 0), .raw (.bool false), .raw (.int .u8 0)] := by kernel_rfl
theorem ty_ze_95 : zeroT Tryd.prog 95 = some [.raw (.int .u16 0), .raw (.int .u8 0), .raw (.int .u8 0), .raw (.int .u8 0), .raw (.int .u8 0), .raw (.int .u8 0), .raw (.int .u8 0), .raw (.int .u32 0)] := by kernel_rfl
theorem ty_zs_130 : zeroE Tryd.prog 130 = some [.raw (.int .i64 0)] := by kernel_rfl
theorem ty_zs_22 : zeroE Tryd.prog 22 = some [.raw (.bool false), .raw (.int .u8 0), .raw (.int .u8 0), .raw (.bool false), .raw (.int .u8 0)] := by kernel_rfl
theorem ty_zs_36 : zeroE Tryd.prog 36 = some [.raw (.int .u16 0), .raw (.int .i64 0), .raw (.bool false), .raw (.int .u32 0), .raw (.int .i64 0), .raw (.bool false), .raw (.bool false), .raw (.bool false), .raw (.bool false), .raw (.bool false), .raw (.int .i64 0), .raw (.int .i64 0), .raw (.int .i64 0), .raw (.int .u64 0), .raw (.int .u32 0), .raw (.int .u64 0), .raw (.int .u16 0), .raw (.int .i64 0), .raw (.int .i64 0), .raw (.int .i64 0), .raw (.int .i64 0)] := by kernel_rfl
theorem ty_zs_46 : zeroE Tryd.prog 46 = some [.raw (.int .i64 0), .raw (.int .u8 0), .raw (.int .u8 0), .raw (.int .u8 0), .raw (.int .u8 0), .raw (.int .u8 0), .raw (.int .u8 0), .raw (.int .u8 0), .raw (.int .u8 0), .raw (.int .u8 0), .raw (.int .u8 0), .raw (.int .u8 0), .raw (.int .u8 0), .raw (.bool false), .raw (.int .u8 0), .raw (.bool false), .raw (.int .u16 0), .raw (.int .u16 0), .raw (.string ⟨#[]⟩)] := by kernel_rfl
theorem ty_zs_82 : zeroE Tryd.prog 82 = some [.raw (.int .u16 0), .raw (.int .u8 0), .raw (.int .u8 0), .raw (.int .u8 0), .raw (.int .u8 0), .raw (.int .u8 0), .raw (.int .u8 0), .raw (.int .i64 0), .raw (.int .i64 0)] := by kernel_rfl
theorem ty_zs_96 : zeroE Tryd.prog 96 = some [.raw (.int .u8 0)] := by kernel_rfl
theorem hmix : Tryd.prog.follows .mixedOrders = true := by kernel_rfl
end Go.Ev
