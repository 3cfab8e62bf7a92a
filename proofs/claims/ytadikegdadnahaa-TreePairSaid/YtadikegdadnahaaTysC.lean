/- A part of the proof: contracts of the functions that the statement reaches. -/
import Derived.Test.YtadikegdadnahaaProg
import Derived.Test.YtadikegdadnahaaEvD
import Derived.KernelRfl
namespace Go.Ev
open Go.Proofs
set_option maxRecDepth 100000
theorem ty_ag_110 : aggT Try.prog 110 = some true := by kernel_rfl
theorem ty_ag_117 : aggT Try.prog 117 = some true := by kernel_rfl
theorem ty_ag_124 : aggT Try.prog 124 = some true := by kernel_rfl
theorem ty_ag_127 : aggT Try.prog 127 = some true := by kernel_rfl
theorem ty_ag_25 : aggT Try.prog 25 = some false := by kernel_rfl
theorem ty_ag_27 : aggT Try.prog 27 = some true := by kernel_rfl
theorem ty_ag_29 : aggT Try.prog 29 = some true := by kernel_rfl
theorem ty_ag_3 : aggT Try.prog 3 = some false := by kernel_rfl
theorem ty_ag_31 : aggT Try.prog 31 = some false := by kernel_rfl
theorem ty_ag_33 : aggT Try.prog 33 = some true := by kernel_rfl
theorem ty_ag_34 : aggT Try.prog 34 = some false := by kernel_rfl
theorem ty_ag_35 : aggT Try.prog 35 = some false := by kernel_rfl
theorem ty_ag_36 : aggT Try.prog 36 = some false := by kernel_rfl
theorem ty_ag_37 : aggT Try.prog 37 = some false := by kernel_rfl
theorem ty_ag_38 : aggT Try.prog 38 = some false := by kernel_rfl
theorem ty_ag_4 : aggT Try.prog 4 = some false := by kernel_rfl
theorem ty_ag_40 : aggT Try.prog 40 = some true := by kernel_rfl
theorem ty_ag_42 : aggT Try.prog 42 = some true := by kernel_rfl
theorem ty_ag_44 : aggT Try.prog 44 = some false := by kernel_rfl
theorem ty_ag_45 : aggT Try.prog 45 = some false := by kernel_rfl
theorem ty_ag_47 : aggT Try.prog 47 = some true := by kernel_rfl
theorem ty_ag_5 : aggT Try.prog 5 = some false := by kernel_rfl
theorem ty_ag_52 : aggT Try.prog 52 = some false := by kernel_rfl
theorem ty_ag_53 : aggT Try.prog 53 = some false := by kernel_rfl
theorem ty_ag_55 : aggT Try.prog 55 = some true := by kernel_rfl
theorem ty_ag_57 : aggT Try.prog 57 = some true := by kernel_rfl
theorem ty_ag_59 : aggT Try.prog 59 = some true := by kernel_rfl
theorem ty_ag_65 : aggT Try.prog 65 = some true := by kernel_rfl
theorem ty_ag_67 : aggT Try.prog 67 = some true := by kernel_rfl
theorem ty_ag_73 : aggT Try.prog 73 = some true := by kernel_rfl
theorem ty_ag_79 : aggT Try.prog 79 = some true := by kernel_rfl
theorem ty_ag_80 : aggT Try.prog 80 = some false := by kernel_rfl
theorem ty_ag_82 : aggT Try.prog 82 = some true := by kernel_rfl
theorem ty_ar_128 : arrT Try.prog 128 = some (16, 1, false) := by kernel_rfl
theorem ty_ar_24 : arrT Try.prog 24 = some (3, 1, false) := by kernel_rfl
theorem ty_ar_43 : arrT Try.prog 43 = some (2, 25, true) := by kernel_rfl
theorem ty_ar_48 : arrT Try.prog 48 = some (2, 2, true) := by kernel_rfl
theorem ty_ar_70 : arrT Try.prog 70 = some (4, 1, false) := by kernel_rfl
theorem ty_ar_71 : arrT Try.prog 71 = some (4, 1, false) := by kernel_rfl
theorem ty_by_103 : bytesE Try.prog 103 = some 1 := by kernel_rfl
theorem ty_by_25 : bytesE Try.prog 25 = some 5 := by kernel_rfl
theorem ty_by_34 : bytesE Try.prog 34 = some 136 := by kernel_rfl
theorem ty_by_35 : bytesE Try.prog 35 = some 12 := by kernel_rfl
theorem ty_by_36 : bytesE Try.prog 36 = some 12 := by kernel_rfl
theorem ty_by_37 : bytesE Try.prog 37 = some 24 := by kernel_rfl
theorem ty_by_44 : bytesE Try.prog 44 = some 56 := by kernel_rfl
theorem ty_by_45 : bytesE Try.prog 45 = some 8 := by kernel_rfl
theorem ty_by_52 : bytesE Try.prog 52 = some 64 := by kernel_rfl
theorem ty_by_76 : bytesE Try.prog 76 = some 48 := by kernel_rfl
theorem ty_by_80 : bytesE Try.prog 80 = some 32 := by kernel_rfl
theorem ty_eg_117 : Try.prog.eqGuardType Try.prog.depth 117 = false := by kernel_rfl
theorem ty_eg_124 : Try.prog.eqGuardType Try.prog.depth 124 = false := by kernel_rfl
theorem ty_eg_127 : Try.prog.eqGuardType Try.prog.depth 127 = false := by kernel_rfl
theorem ty_eg_33 : Try.prog.eqGuardType Try.prog.depth 33 = false := by kernel_rfl
theorem ty_eg_40 : Try.prog.eqGuardType Try.prog.depth 40 = false := by kernel_rfl
theorem ty_eg_57 : Try.prog.eqGuardType Try.prog.depth 57 = false := by kernel_rfl
theorem ty_eg_65 : Try.prog.eqGuardType Try.prog.depth 65 = false := by kernel_rfl
theorem ty_eg_67 : Try.prog.eqGuardType Try.prog.depth 67 = false := by kernel_rfl
theorem ty_lv_117 : leavesOf Try.prog 60 117 = some [.int .u16, .int .u32, .int .u32] := by kernel_rfl
theorem ty_lv_124 : leavesOf Try.prog 60 124 = some [.int .u16, .int .u8, .int .u8, .int .u8, .int .u8, .int .u8, .int .u8, .int .u32] := by kernel_rfl
theorem ty_lv_127 : leavesOf Try.prog 60 127 = some [.int .u16, .int .u8, .int .u8, .int .u8, .int .u8, .int .u8, .int .u8, .int .i64, .int .i64] := by kernel_rfl
theorem ty_lv_33 : leavesOf Try.prog 60 33 = some [.int .u64, .int .i64, .int .i64, .int .i64, .int .i64, .int .i64] := by kernel_rfl
theorem ty_lv_40 : leavesOf Try.prog 60 40 = some [.int .u32, .int .u32, .int .u32, .int .u32, .int .u32, .int .u32, .int .u32, .int .u32, .int .u32, .int .u32, .int .u32, .int .u32, .int .u32, .int .u32] := by kernel_rfl
theorem ty_lv_57 : leavesOf Try.prog 60 57 = some [.int .i64, .int .u8, .bool, .bool, .bool, .bool, .bool, .bool, .int .u8, .int .u64, .int .u32, .int .u64, .int .u16, .int .u16, .int .u16, .int .u16, .int .u16] := by kernel_rfl
theorem ty_lv_65 : leavesOf Try.prog 60 65 = some [.int .u64, .int .u32, .int .u64, .int .u16] := by kernel_rfl
theorem ty_lv_67 : leavesOf Try.prog 60 67 = some [.int .u16, .int .i64, .bool, .int .u32, .int .i64, .bool, .bool, .bool, .bool, .bool, .int .i64, .int .i64, .int .i64, .int .u64, .int .u32, .int .u64, .int .u16, .int .i64, .int .i64, .int .i64, .int .i64] := by kernel_rfl
theorem ty_of_110_0 : offT Try.prog 110 0 = some (0, 4) := by kernel_rfl
theorem ty_of_110_1 : offT Try.prog 110 1 = some (4, 1) := by kernel_rfl
theorem ty_of_110_2 : offT Try.prog 110 2 = some (5, 1) := by kernel_rfl
theorem ty_of_27_0 : offT Try.prog 27 0 = some (0, 1) := by kernel_rfl
theorem ty_of_27_1 : offT Try.prog 27 1 = some (1, 3) := by kernel_rfl
theorem ty_of_27_2 : offT Try.prog 27 2 = some (4, 1) := by kernel_rfl
theorem ty_of_29_0 : offT Try.prog 29 0 = some (0, 1) := by kernel_rfl
theorem ty_of_29_1 : offT Try.prog 29 1 = some (1, 1) := by kernel_rfl
theorem ty_of_29_2 : offT Try.prog 29 2 = some (2, 1) := by kernel_rfl
theorem ty_of_29_3 : offT Try.prog 29 3 = some (3, 1) := by kernel_rfl
theorem ty_of_29_4 : offT Try.prog 29 4 = some (4, 1) := by kernel_rfl
theorem ty_of_33_0 : offT Try.prog 33 0 = some (0, 1) := by kernel_rfl
theorem ty_of_33_1 : offT Try.prog 33 1 = some (1, 1) := by kernel_rfl
theorem ty_of_33_2 : offT Try.prog 33 2 = some (2, 1) := by kernel_rfl
theorem ty_of_33_3 : offT Try.prog 33 3 = some (3, 1) := by kernel_rfl
theorem ty_of_42_0 : offT Try.prog 42 0 = some (0, 6) := by kernel_rfl
theorem ty_of_42_1 : offT Try.prog 42 1 = some (6, 1) := by kernel_rfl
theorem ty_of_42_2 : offT Try.prog 42 2 = some (7, 1) := by kernel_rfl
theorem ty_of_42_3 : offT Try.prog 42 3 = some (8, 1) := by kernel_rfl
theorem ty_of_42_4 : offT Try.prog 42 4 = some (9, 1) := by kernel_rfl
theorem ty_of_42_5 : offT Try.prog 42 5 = some (10, 14) := by kernel_rfl
theorem ty_of_42_6 : offT Try.prog 42 6 = some (24, 1) := by kernel_rfl
theorem ty_of_47_0 : offT Try.prog 47 0 = some (0, 1) := by kernel_rfl
theorem ty_of_47_1 : offT Try.prog 47 1 = some (1, 1) := by kernel_rfl
theorem ty_of_55_0 : offT Try.prog 55 0 = some (0, 1) := by kernel_rfl
theorem ty_of_55_1 : offT Try.prog 55 1 = some (1, 1) := by kernel_rfl
theorem ty_of_55_10 : offT Try.prog 55 10 = some (10, 1) := by kernel_rfl
theorem ty_of_55_11 : offT Try.prog 55 11 = some (11, 1) := by kernel_rfl
theorem ty_of_55_12 : offT Try.prog 55 12 = some (12, 1) := by kernel_rfl
theorem ty_of_55_13 : offT Try.prog 55 13 = some (13, 1) := by kernel_rfl
theorem ty_of_55_14 : offT Try.prog 55 14 = some (14, 1) := by kernel_rfl
theorem ty_of_55_15 : offT Try.prog 55 15 = some (15, 1) := by kernel_rfl
theorem ty_of_55_2 : offT Try.prog 55 2 = some (2, 1) := by kernel_rfl
theorem ty_of_55_3 : offT Try.prog 55 3 = some (3, 1) := by kernel_rfl
theorem ty_of_55_4 : offT Try.prog 55 4 = some (4, 1) := by kernel_rfl
theorem ty_of_55_5 : offT Try.prog 55 5 = some (5, 1) := by kernel_rfl
theorem ty_of_55_7 : offT Try.prog 55 7 = some (7, 1) := by kernel_rfl
theorem ty_of_55_8 : offT Try.prog 55 8 = some (8, 1) := by kernel_rfl
theorem ty_of_55_9 : offT Try.prog 55 9 = some (9, 1) := by kernel_rfl
theorem ty_of_57_0 : offT Try.prog 57 0 = some (0, 1) := by kernel_rfl
theorem ty_of_57_1 : offT Try.prog 57 1 = some (1, 16) := by kernel_rfl
theorem ty_of_59_0 : offT Try.prog 59 0 = some (0, 1) := by kernel_rfl
theorem ty_of_59_1 : offT Try.prog 59 1 = some (1, 1) := by kernel_rfl
theorem ty_of_59_2 : offT Try.prog 59 2 = some (2, 16) := by kernel_rfl
theorem ty_of_65_0 : offT Try.prog 65 0 = some (0, 1) := by kernel_rfl
theorem ty_of_65_1 : offT Try.prog 65 1 = some (1, 1) := by kernel_rfl
theorem ty_of_65_2 : offT Try.prog 65 2 = some (2, 1) := by kernel_rfl
theorem ty_of_65_3 : offT Try.prog 65 3 = some (3, 1) := by kernel_rfl
theorem ty_of_67_1 : offT Try.prog 67 1 = some (3, 1) := by kernel_rfl
theorem ty_of_67_10 : offT Try.prog 67 10 = some (12, 1) := by kernel_rfl
theorem ty_of_67_11 : offT Try.prog 67 11 = some (13, 4) := by kernel_rfl
theorem ty_of_67_12 : offT Try.prog 67 12 = some (17, 1) := by kernel_rfl
theorem ty_of_67_13 : offT Try.prog 67 13 = some (18, 1) := by kernel_rfl
theorem ty_of_67_14 : offT Try.prog 67 14 = some (19, 1) := by kernel_rfl
theorem ty_of_67_15 : offT Try.prog 67 15 = some (20, 1) := by kernel_rfl
theorem ty_of_67_2 : offT Try.prog 67 2 = some (4, 1) := by kernel_rfl
theorem ty_of_67_3 : offT Try.prog 67 3 = some (5, 1) := by kernel_rfl
theorem ty_of_67_4 : offT Try.prog 67 4 = some (6, 1) := by kernel_rfl
theorem ty_of_67_5 : offT Try.prog 67 5 = some (7, 1) := by kernel_rfl
theorem ty_of_67_6 : offT Try.prog 67 6 = some (8, 1) := by kernel_rfl
theorem ty_of_67_7 : offT Try.prog 67 7 = some (9, 1) := by kernel_rfl
theorem ty_of_67_8 : offT Try.prog 67 8 = some (10, 1) := by kernel_rfl
theorem ty_of_67_9 : offT Try.prog 67 9 = some (11, 1) := by kernel_rfl
theorem ty_of_73_0 : offT Try.prog 73 0 = some (0, 1) := by kernel_rfl
theorem ty_of_73_1 : offT Try.prog 73 1 = some (1, 1) := by kernel_rfl
theorem ty_of_73_2 : offT Try.prog 73 2 = some (2, 1) := by kernel_rfl
theorem ty_of_73_3 : offT Try.prog 73 3 = some (3, 1) := by kernel_rfl
theorem ty_of_73_4 : offT Try.prog 73 4 = some (4, 4) := by kernel_rfl
theorem ty_of_73_5 : offT Try.prog 73 5 = some (8, 4) := by kernel_rfl
theorem ty_of_73_6 : offT Try.prog 73 6 = some (12, 1) := by kernel_rfl
theorem ty_of_73_7 : offT Try.prog 73 7 = some (13, 1) := by kernel_rfl
theorem ty_of_79_0 : offT Try.prog 79 0 = some (0, 1) := by kernel_rfl
theorem ty_of_79_1 : offT Try.prog 79 1 = some (1, 1) := by kernel_rfl
theorem ty_of_79_2 : offT Try.prog 79 2 = some (2, 4) := by kernel_rfl
theorem ty_of_79_3 : offT Try.prog 79 3 = some (6, 1) := by kernel_rfl
theorem ty_of_79_4 : offT Try.prog 79 4 = some (7, 1) := by kernel_rfl
theorem ty_of_82_0 : offT Try.prog 82 0 = some (0, 1) := by kernel_rfl
theorem ty_of_82_1 : offT Try.prog 82 1 = some (1, 1) := by kernel_rfl
theorem ty_of_82_2 : offT Try.prog 82 2 = some (2, 1) := by kernel_rfl
theorem ty_of_82_3 : offT Try.prog 82 3 = some (3, 1) := by kernel_rfl
theorem ty_of_82_4 : offT Try.prog 82 4 = some (4, 1) := by kernel_rfl
theorem ty_of_89_0 : offT Try.prog 89 0 = some (0, 25) := by kernel_rfl
theorem ty_of_89_1 : offT Try.prog 89 1 = some (25, 1) := by kernel_rfl
theorem ty_of_89_2 : offT Try.prog 89 2 = some (26, 1) := by kernel_rfl
theorem ty_of_97_0 : offT Try.prog 97 0 = some (0, 25) := by kernel_rfl
theorem ty_of_97_1 : offT Try.prog 97 1 = some (25, 2) := by kernel_rfl
theorem ty_ok_110 : plOk Try.prog 110 = true := by kernel_rfl
theorem ty_ok_24 : plOk Try.prog 24 = true := by kernel_rfl
theorem ty_ok_27 : plOk Try.prog 27 = true := by kernel_rfl
theorem ty_ok_29 : plOk Try.prog 29 = true := by kernel_rfl
theorem ty_ok_33 : plOk Try.prog 33 = true := by kernel_rfl
theorem ty_ok_42 : plOk Try.prog 42 = true := by kernel_rfl
theorem ty_ok_47 : plOk Try.prog 47 = true := by kernel_rfl
theorem ty_ok_55 : plOk Try.prog 55 = true := by kernel_rfl
theorem ty_ok_57 : plOk Try.prog 57 = true := by kernel_rfl
theorem ty_ok_63 : plOk Try.prog 63 = true := by kernel_rfl
theorem ty_ok_65 : plOk Try.prog 65 = true := by kernel_rfl
theorem ty_ok_67 : plOk Try.prog 67 = true := by kernel_rfl
theorem ty_ok_71 : plOk Try.prog 71 = true := by kernel_rfl
theorem ty_ok_79 : plOk Try.prog 79 = true := by kernel_rfl
theorem ty_ok_82 : plOk Try.prog 82 = true := by kernel_rfl
theorem ty_ok_89 : plOk Try.prog 89 = true := by kernel_rfl
theorem ty_ok_97 : plOk Try.prog 97 = true := by kernel_rfl
theorem ty_pl_110_0 : plT Try.prog 110 0 = some (0, 4) := by kernel_rfl
theorem ty_pl_110_1 : plT Try.prog 110 1 = some (4, 1) := by kernel_rfl
theorem ty_pl_110_2 : plT Try.prog 110 2 = some (5, 1) := by kernel_rfl
theorem ty_pl_24_0 : plT Try.prog 24 0 = some (0, 1) := by kernel_rfl
theorem ty_pl_24_1 : plT Try.prog 24 1 = some (1, 1) := by kernel_rfl
theorem ty_pl_24_2 : plT Try.prog 24 2 = some (2, 1) := by kernel_rfl
theorem ty_pl_27_0 : plT Try.prog 27 0 = some (0, 1) := by kernel_rfl
theorem ty_pl_27_1 : plT Try.prog 27 1 = some (1, 3) := by kernel_rfl
theorem ty_pl_27_2 : plT Try.prog 27 2 = some (4, 1) := by kernel_rfl
theorem ty_pl_29_0 : plT Try.prog 29 0 = some (0, 1) := by kernel_rfl
theorem ty_pl_29_3 : plT Try.prog 29 3 = some (3, 1) := by kernel_rfl
theorem ty_pl_29_4 : plT Try.prog 29 4 = some (4, 1) := by kernel_rfl
theorem ty_pl_33_0 : plT Try.prog 33 0 = some (0, 1) := by kernel_rfl
theorem ty_pl_33_1 : plT Try.prog 33 1 = some (1, 1) := by kernel_rfl
theorem ty_pl_33_2 : plT Try.prog 33 2 = some (2, 1) := by kernel_rfl
theorem ty_pl_33_3 : plT Try.prog 33 3 = some (3, 1) := by kernel_rfl
theorem ty_pl_33_4 : plT Try.prog 33 4 = some (4, 1) := by kernel_rfl
theorem ty_pl_33_5 : plT Try.prog 33 5 = some (5, 1) := by kernel_rfl
theorem ty_pl_42_0 : plT Try.prog 42 0 = some (0, 6) := by kernel_rfl
theorem ty_pl_55_0 : plT Try.prog 55 0 = some (0, 1) := by kernel_rfl
theorem ty_pl_55_1 : plT Try.prog 55 1 = some (1, 1) := by kernel_rfl
theorem ty_pl_55_10 : plT Try.prog 55 10 = some (10, 1) := by kernel_rfl
theorem ty_pl_55_11 : plT Try.prog 55 11 = some (11, 1) := by kernel_rfl
theorem ty_pl_55_8 : plT Try.prog 55 8 = some (8, 1) := by kernel_rfl
theorem ty_pl_55_9 : plT Try.prog 55 9 = some (9, 1) := by kernel_rfl
theorem ty_pl_57_0 : plT Try.prog 57 0 = some (0, 1) := by kernel_rfl
theorem ty_pl_57_1 : plT Try.prog 57 1 = some (1, 16) := by kernel_rfl
theorem ty_pl_63_0 : plT Try.prog 63 0 = some (0, 1) := by kernel_rfl
theorem ty_pl_65_0 : plT Try.prog 65 0 = some (0, 1) := by kernel_rfl
theorem ty_pl_65_1 : plT Try.prog 65 1 = some (1, 1) := by kernel_rfl
theorem ty_pl_65_2 : plT Try.prog 65 2 = some (2, 1) := by kernel_rfl
theorem ty_pl_65_3 : plT Try.prog 65 3 = some (3, 1) := by kernel_rfl
theorem ty_pl_67_0 : plT Try.prog 67 0 = some (0, 3) := by kernel_rfl
theorem ty_pl_67_1 : plT Try.prog 67 1 = some (3, 1) := by kernel_rfl
theorem ty_pl_67_2 : plT Try.prog 67 2 = some (4, 1) := by kernel_rfl
theorem ty_pl_67_3 : plT Try.prog 67 3 = some (5, 1) := by kernel_rfl
theorem ty_pl_67_4 : plT Try.prog 67 4 = some (6, 1) := by kernel_rfl
theorem ty_pl_67_5 : plT Try.prog 67 5 = some (7, 1) := by kernel_rfl
theorem ty_pl_71_0 : plT Try.prog 71 0 = some (0, 1) := by kernel_rfl
theorem ty_pl_71_1 : plT Try.prog 71 1 = some (1, 1) := by kernel_rfl
theorem ty_pl_71_2 : plT Try.prog 71 2 = some (2, 1) := by kernel_rfl
theorem ty_pl_71_3 : plT Try.prog 71 3 = some (3, 1) := by kernel_rfl
theorem ty_pl_79_0 : plT Try.prog 79 0 = some (0, 1) := by kernel_rfl
theorem ty_pl_79_1 : plT Try.prog 79 1 = some (1, 1) := by kernel_rfl
theorem ty_pl_79_2 : plT Try.prog 79 2 = some (2, 4) := by kernel_rfl
theorem ty_pl_79_3 : plT Try.prog 79 3 = some (6, 1) := by kernel_rfl
theorem ty_pl_79_4 : plT Try.prog 79 4 = some (7, 1) := by kernel_rfl
theorem ty_pl_82_0 : plT Try.prog 82 0 = some (0, 1) := by kernel_rfl
theorem ty_pl_89_0 : plT Try.prog 89 0 = some (0, 25) := by kernel_rfl
theorem ty_pl_97_0 : plT Try.prog 97 0 = some (0, 25) := by kernel_rfl
theorem ty_sl_103 : slT Try.prog 103 = some 1 := by kernel_rfl
theorem ty_sl_22 : slT Try.prog 22 = some 1 := by kernel_rfl
theorem ty_sl_25 : slT Try.prog 25 = some 5 := by kernel_rfl
theorem ty_sl_34 : slT Try.prog 34 = some 21 := by kernel_rfl
theorem ty_sl_35 : slT Try.prog 35 = some 3 := by kernel_rfl
theorem ty_sl_36 : slT Try.prog 36 = some 8 := by kernel_rfl
theorem ty_sl_37 : slT Try.prog 37 = some 9 := by kernel_rfl
theorem ty_sl_44 : slT Try.prog 44 = some 17 := by kernel_rfl
theorem ty_sl_45 : slT Try.prog 45 = some 1 := by kernel_rfl
theorem ty_sl_52 : slT Try.prog 52 = some 18 := by kernel_rfl
theorem ty_sl_69 : slT Try.prog 69 = some 14 := by kernel_rfl
theorem ty_sl_76 : slT Try.prog 76 = some 8 := by kernel_rfl
theorem ty_sl_80 : slT Try.prog 80 = some 4 := by kernel_rfl
theorem ty_sr_25 : srcT Try.prog 25 = true := by kernel_rfl
theorem ty_sr_34 : srcT Try.prog 34 = true := by kernel_rfl
theorem ty_sr_35 : srcT Try.prog 35 = true := by kernel_rfl
theorem ty_sr_36 : srcT Try.prog 36 = true := by kernel_rfl
theorem ty_sr_37 : srcT Try.prog 37 = true := by kernel_rfl
theorem ty_sr_44 : srcT Try.prog 44 = true := by kernel_rfl
theorem ty_sr_45 : srcT Try.prog 45 = true := by kernel_rfl
theorem ty_sr_52 : srcT Try.prog 52 = true := by kernel_rfl
theorem ty_sr_76 : srcT Try.prog 76 = true := by kernel_rfl
theorem ty_sr_80 : srcT Try.prog 80 = true := by kernel_rfl
theorem ty_sz_110 : szT Try.prog 110 = some 6 := by kernel_rfl
theorem ty_sz_117 : szT Try.prog 117 = some 3 := by kernel_rfl
theorem ty_sz_124 : szT Try.prog 124 = some 8 := by kernel_rfl
theorem ty_sz_127 : szT Try.prog 127 = some 9 := by kernel_rfl
theorem ty_sz_25 : szT Try.prog 25 = some 1 := by kernel_rfl
theorem ty_sz_27 : szT Try.prog 27 = some 5 := by kernel_rfl
theorem ty_sz_29 : szT Try.prog 29 = some 5 := by kernel_rfl
theorem ty_sz_3 : szT Try.prog 3 = some 1 := by kernel_rfl
theorem ty_sz_31 : szT Try.prog 31 = some 1 := by kernel_rfl
theorem ty_sz_33 : szT Try.prog 33 = some 6 := by kernel_rfl
theorem ty_sz_34 : szT Try.prog 34 = some 1 := by kernel_rfl
theorem ty_sz_35 : szT Try.prog 35 = some 1 := by kernel_rfl
theorem ty_sz_36 : szT Try.prog 36 = some 1 := by kernel_rfl
theorem ty_sz_37 : szT Try.prog 37 = some 1 := by kernel_rfl
theorem ty_sz_38 : szT Try.prog 38 = some 1 := by kernel_rfl
theorem ty_sz_4 : szT Try.prog 4 = some 1 := by kernel_rfl
theorem ty_sz_40 : szT Try.prog 40 = some 14 := by kernel_rfl
theorem ty_sz_42 : szT Try.prog 42 = some 25 := by kernel_rfl
theorem ty_sz_44 : szT Try.prog 44 = some 1 := by kernel_rfl
theorem ty_sz_45 : szT Try.prog 45 = some 1 := by kernel_rfl
theorem ty_sz_47 : szT Try.prog 47 = some 2 := by kernel_rfl
theorem ty_sz_5 : szT Try.prog 5 = some 1 := by kernel_rfl
theorem ty_sz_52 : szT Try.prog 52 = some 1 := by kernel_rfl
theorem ty_sz_53 : szT Try.prog 53 = some 1 := by kernel_rfl
theorem ty_sz_55 : szT Try.prog 55 = some 16 := by kernel_rfl
theorem ty_sz_57 : szT Try.prog 57 = some 17 := by kernel_rfl
theorem ty_sz_59 : szT Try.prog 59 = some 18 := by kernel_rfl
theorem ty_sz_65 : szT Try.prog 65 = some 4 := by kernel_rfl
theorem ty_sz_67 : szT Try.prog 67 = some 21 := by kernel_rfl
theorem ty_sz_71 : szT Try.prog 71 = some 4 := by kernel_rfl
theorem ty_sz_73 : szT Try.prog 73 = some 14 := by kernel_rfl
theorem ty_sz_79 : szT Try.prog 79 = some 8 := by kernel_rfl
theorem ty_sz_80 : szT Try.prog 80 = some 1 := by kernel_rfl
theorem ty_sz_82 : szT Try.prog 82 = some 5 := by kernel_rfl
theorem ty_ze_110 : zeroT Try.prog 110 = some [.raw (.int .u64 0), .raw (.int .u32 0), .raw (.int .u64 0), .raw (.int .u16 0), .raw (.int .i64 0), .raw (.int .u16 0)] := by kernel_rfl
theorem ty_ze_128 : zeroT Try.prog 128 = some [.raw (.bool false), .raw (.bool false), .raw (.bool false), .raw (.bool false), .raw (.bool false), .raw (.bool false), .raw (.bool false), .raw (.bool false), .raw (.bool false), .raw (.bool false), .raw (.bool false), .raw (.bool false), .raw (.bool false), .raw (.bool false), .raw (.bool false), .raw (.bool false)] := by kernel_rfl
theorem ty_ze_24 : zeroT Try.prog 24 = some [.raw (.int .u8 0), .raw (.int .u8 0), .raw (.int .u8 0)] := by kernel_rfl
theorem ty_ze_27 : zeroT Try.prog 27 = some [.raw (.int .u8 0), .raw (.int .u8 0), .raw (.int .u8 0), .raw (.int .u8 0), .raw (.slice none 0 0)] := by kernel_rfl
theorem ty_ze_29 : zeroT Try.prog 29 = some [.raw (.int .u8 0), .raw (.int .u8 0), .raw (.bool false), .raw (.bool false), .raw (.bool false)] := by kernel_rfl
theorem ty_ze_33 : zeroT Try.prog 33 = some [.raw (.int .u64 0), .raw (.int .i64 0), .raw (.int .i64 0), .raw (.int .i64 0), .raw (.int .i64 0), .raw (.int .i64 0)] := by kernel_rfl
theorem ty_ze_42 : zeroT Try.prog 42 = some [.raw (.int .u64 0), .raw (.int .i64 0), .raw (.int .i64 0), .raw (.int .i64 0), .raw (.int .i64 0), .raw (.int .i64 0), .raw (.slice none 0 0), .raw (.slice none 0 0), .raw (.slice none 0 0), .raw (.slice none 0 0), .raw (.int .u32 0), .raw (.int .u32 0), .raw (.int .u32 0), .raw (.int .u32 0), .raw (.int .u32 0), .raw (.int .u32 0), .raw (.int .u32 0), .raw (.int .u32 0), .raw (.int .u32 0), .raw (.int .u32 0), .raw (.int .u32 0), .raw (.int .u32 0), .raw (.int .u32 0), .raw (.int .u32 0), .raw (.int .i64 0)] := by kernel_rfl
theorem ty_ze_43 : zeroT Try.prog 43 = some [.raw (.int .u64 0), .raw (.int .i64 0), .raw (.int .i64 0), .raw (.int .i64 0), .raw (.int .i64 0), .raw (.int .i64 0), .raw (.slice none 0 0), .raw (.slice none 0 0), .raw (.slice none 0 0), .raw (.slice none 0 0), .raw (.int .u32 0), .raw (.int .u32 0), .raw (.int .u32 0), .raw (.int .u32 0), .raw (.int .u32 0), .raw (.int .u32 0), .raw (.int .u32 0), .raw (.int .u32 0), .raw (.int .u32 0), .raw (.int .u32 0), .raw (.int .u32 0), .raw (.int .u32 0), .raw (.int .u32 0), .raw (.int .u32 0), .raw (.int .i64 0), .raw (.int .u64 0), .raw (.int .i64 0), .raw (.int .i64 0), .raw (.int .i64 0), .raw (.int .i64 0), .raw (.int .i64 0), .raw (.slice none 0 0), .raw (.slice none 0 0), .raw (.slice none 0 0), .raw (.slice none 0 0), .raw (.int .u32 0), .raw (.int .u32 0), .raw (.int .u32 0), .raw (.int .u32 0), .raw (.int .u32 0), .raw (.int .u32 0), .raw (.int .u32 0), .raw (.int .u32 0), .raw (.int .u32 0), .raw (.int .u32 0), .raw (.int .u32 0), .raw (.int .u32 0), .raw (.int .u32 0), .raw (.int .u32 0), .raw (.int .i64 0)] := by kernel_rfl
theorem ty_ze_47 : zeroT Try.prog 47 = some [.raw (.slice none 0 0), .raw (.slice none 0 0)] := by kernel_rfl
theorem ty_ze_48 : zeroT Try.prog 48 = some [.raw (.slice none 0 0), .raw (.slice none 0 0), .raw (.slice none 0 0), .raw (.slice none 0 0)] := by kernel_rfl
theorem ty_ze_52 : zeroT Try.prog 52 = some [.raw (.slice none 0 0)] := by kernel_rfl
theorem ty_ze_55 : zeroT Try.prog 55 = some [.raw (.int .u8 0), .raw (.bool false), .raw (.bool false), .raw (.bool false), .raw (.bool false), .raw (.bool false), .raw (.bool false), .raw (.int .u8 0), .raw (.int .u64 0), .raw (.int .u32 0), .raw (.int .u64 0), .raw (.int .u16 0), .raw (.int .u16 0), .raw (.int .u16 0), .raw (.int .u16 0), .raw (.int .u16 0)] := by kernel_rfl
theorem ty_ze_57 : zeroT Try.prog 57 = some [.raw (.int .i64 0), .raw (.int .u8 0), .raw (.bool false), .raw (.bool false), .raw (.bool false), .raw (.bool false), .raw (.bool false), .raw (.bool false), .raw (.int .u8 0), .raw (.int .u64 0), .raw (.int .u32 0), .raw (.int .u64 0), .raw (.int .u16 0), .raw (.int .u16 0), .raw (.int .u16 0), .raw (.int .u16 0), .raw (.int .u16 0)] := by kernel_rfl
theorem ty_ze_59 : zeroT Try.prog 59 = some [.raw (.int .i64 0), .raw (.int .i64 0), .raw (.int .u8 0), .raw (.bool false), .raw (.bool false), .raw (.bool false), .raw (.bool false), .raw (.bool false), .raw (.bool false), .raw (.int .u8 0), .raw (.int .u64 0), .raw (.int .u32 0), .raw (.int .u64 0), .raw (.int .u16 0), .raw (.int .u16 0), .raw (.int .u16 0), .raw (.int .u16 0), .raw (.int .u16 0)] := by kernel_rfl
theorem ty_ze_63 : zeroT Try.prog 63 = some [.raw (.int .u16 0), .raw (.int .i64 0), .raw (.bool false)] := by kernel_rfl
theorem ty_ze_65 : zeroT Try.prog 65 = some [.raw (.int .u64 0), .raw (.int .u32 0), .raw (.int .u64 0), .raw (.int .u16 0)] := by kernel_rfl
theorem ty_ze_67 : zeroT Try.prog 67 = some [.raw (.int .u16 0), .raw (.int .i64 0), .raw (.bool false), .raw (.int .u32 0), .raw (.int .i64 0), .raw (.bool false), .raw (.bool false), .raw (.bool false), .raw (.bool false), .raw (.bool false), .raw (.int .i64 0), .raw (.int .i64 0), .raw (.int .i64 0), .raw (.int .u64 0), .raw (.int .u32 0), .raw (.int .u64 0), .raw (.int .u16 0), .raw (.int .i64 0), .raw (.int .i64 0), .raw (.int .i64 0), .raw (.int .i64 0)] := by kernel_rfl
theorem ty_ze_71 : zeroT Try.prog 71 = some [.raw (.int .u8 0), .raw (.int .u8 0), .raw (.int .u8 0), .raw (.int .u8 0)] := by kernel_rfl
theorem ty_ze_73 : zeroT Try.prog 73 = some [.raw (.int .u8 0), .raw (.int .u8 0), .raw (.int .u8 0), .raw (.int .u8 0), .raw (.bool false), .raw (.bool false), .raw (.bool false), .raw (.bool false), .raw (.int .u8 0), .raw (.int .u8 0), .raw (.int .u8 0), .raw (.int .u8 0), .raw (.int .u8 0), .raw (.bool false)] := by kernel_rfl
theorem ty_ze_79 : zeroT Try.prog 79 = some [.raw (.bool false), .raw (.bool false), .raw (.int .u64 0), .raw (.int .u32 0), .raw (.int .u64 0), .raw (.int .u16 0), .raw (.int .u32 0), .raw (.int .u16 0)] := by kernel_rfl
theorem ty_ze_82 : zeroT Try.prog 82 = some [.raw (.int .u64 0), .raw (.int .u32 0), .raw (.int .i64 0), .raw (.slice none 0 0), .raw (.slice none 0 0)] := by kernel_rfl
theorem ty_ze_89 : zeroT Try.prog 89 = some [.raw (.int .u64 0), .raw (.int .i64 0), .raw (.int .i64 0), .raw (.int .i64 0), .raw (.int .i64 0), .raw (.int .i64 0), .raw (.slice none 0 0), .raw (.slice none 0 0), .raw (.slice none 0 0), .raw (.slice none 0 0), .raw (.int .u32 0), .raw (.int .u32 0), .raw (.int .u32 0), .raw (.int .u32 0), .raw (.int .u32 0), .raw (.int .u32 0), .raw (.int .u32 0), .raw (.int .u32 0), .raw (.int .u32 0), .raw (.int .u32 0), .raw (.int .u32 0), .raw (.int .u32 0), .raw (.int .u32 0), .raw (.int .u32 0), .raw (.int .i64 0), .raw (.slice none 0 0), .raw (.slice none 0 0)] := by kernel_rfl
theorem ty_ze_97 : zeroT Try.prog 97 = some [.raw (.int .u64 0), .raw (.int .i64 0), .raw (.int .i64 0), .raw (.int .i64 0), .raw (.int .i64 0), .raw (.int .i64 0), .raw (.slice none 0 0), .raw (.slice none 0 0), .raw (.slice none 0 0), .raw (.slice none 0 0), .raw (.int .u32 0), .raw (.int .u32 0), .raw (.int .u32 0), .raw (.int .u32 0), .raw (.int .u32 0), .raw (.int .u32 0), .raw (.int .u32 0), .raw (.int .u32 0), .raw (.int .u32 0), .raw (.int .u32 0), .raw (.int .u32 0), .raw (.int .u32 0), .raw (.int .u32 0), .raw (.int .u32 0), .raw (.int .i64 0), .raw (.slice none 0 0), .raw (.slice none 0 0)] := by kernel_rfl
theorem ty_zs_103 : zeroE Try.prog 103 = some [.raw (.bool false)] := by kernel_rfl
theorem ty_zs_25 : zeroE Try.prog 25 = some [.raw (.int .u8 0), .raw (.int .u8 0), .raw (.bool false), .raw (.bool false), .raw (.bool false)] := by kernel_rfl
theorem ty_zs_34 : zeroE Try.prog 34 = some [.raw (.int .u16 0), .raw (.int .i64 0), .raw (.bool false), .raw (.int .u32 0), .raw (.int .i64 0), .raw (.bool false), .raw (.bool false), .raw (.bool false), .raw (.bool false), .raw (.bool false), .raw (.int .i64 0), .raw (.int .i64 0), .raw (.int .i64 0), .raw (.int .u64 0), .raw (.int .u32 0), .raw (.int .u64 0), .raw (.int .u16 0), .raw (.int .i64 0), .raw (.int .i64 0), .raw (.int .i64 0), .raw (.int .i64 0)] := by kernel_rfl
theorem ty_zs_35 : zeroE Try.prog 35 = some [.raw (.int .u16 0), .raw (.int .u32 0), .raw (.int .u32 0)] := by kernel_rfl
theorem ty_zs_36 : zeroE Try.prog 36 = some [.raw (.int .u16 0), .raw (.int .u8 0), .raw (.int .u8 0), .raw (.int .u8 0), .raw (.int .u8 0), .raw (.int .u8 0), .raw (.int .u8 0), .raw (.int .u32 0)] := by kernel_rfl
theorem ty_zs_37 : zeroE Try.prog 37 = some [.raw (.int .u16 0), .raw (.int .u8 0), .raw (.int .u8 0), .raw (.int .u8 0), .raw (.int .u8 0), .raw (.int .u8 0), .raw (.int .u8 0), .raw (.int .i64 0), .raw (.int .i64 0)] := by kernel_rfl
theorem ty_zs_44 : zeroE Try.prog 44 = some [.raw (.int .i64 0), .raw (.int .u8 0), .raw (.bool false), .raw (.bool false), .raw (.bool false), .raw (.bool false), .raw (.bool false), .raw (.bool false), .raw (.int .u8 0), .raw (.int .u64 0), .raw (.int .u32 0), .raw (.int .u64 0), .raw (.int .u16 0), .raw (.int .u16 0), .raw (.int .u16 0), .raw (.int .u16 0), .raw (.int .u16 0)] := by kernel_rfl
theorem ty_zs_45 : zeroE Try.prog 45 = some [.raw (.int .i64 0)] := by kernel_rfl
theorem ty_zs_52 : zeroE Try.prog 52 = some [.raw (.int .i64 0), .raw (.int .i64 0), .raw (.int .u8 0), .raw (.bool false), .raw (.bool false), .raw (.bool false), .raw (.bool false), .raw (.bool false), .raw (.bool false), .raw (.int .u8 0), .raw (.int .u64 0), .raw (.int .u32 0), .raw (.int .u64 0), .raw (.int .u16 0), .raw (.int .u16 0), .raw (.int .u16 0), .raw (.int .u16 0), .raw (.int .u16 0)] := by kernel_rfl
theorem ty_zs_76 : zeroE Try.prog 76 = some [.raw (.bool false), .raw (.bool false), .raw (.int .u64 0), .raw (.int .u32 0), .raw (.int .u64 0), .raw (.int .u16 0), .raw (.int .u32 0), .raw (.int .u16 0)] := by kernel_rfl
theorem ty_zs_80 : zeroE Try.prog 80 = some [.raw (.int .u64 0), .raw (.int .u32 0), .raw (.int .u64 0), .raw (.int .u16 0)] := by kernel_rfl
theorem hmix : Try.prog.follows .mixedOrders = true := by kernel_rfl
abbrev TY_ := And.intro (@ty_ag_110) (And.intro (@ty_ag_117) (And.intro (@ty_ag_124) (And.intro (@ty_ag_127) (And.intro (@ty_ag_25) (And.intro (@ty_ag_27) (And.intro (@ty_ag_29) (And.intro (@ty_ag_3) (And.intro (@ty_ag_31) (And.intro (@ty_ag_33) (And.intro (@ty_ag_34) (And.intro (@ty_ag_35) (And.intro (@ty_ag_36) (And.intro (@ty_ag_37) (And.intro (@ty_ag_38) (And.intro (@ty_ag_4) (And.intro (@ty_ag_40) (And.intro (@ty_ag_42) (And.intro (@ty_ag_44) (And.intro (@ty_ag_45) (And.intro (@ty_ag_47) (And.intro (@ty_ag_5) (And.intro (@ty_ag_52) (And.intro (@ty_ag_53) (And.intro (@ty_ag_55) (And.intro (@ty_ag_57) (And.intro (@ty_ag_59) (And.intro (@ty_ag_65) (And.intro (@ty_ag_67) (And.intro (@ty_ag_73) (And.intro (@ty_ag_79) (And.intro (@ty_ag_80) (And.intro (@ty_ag_82) (And.intro (@ty_ar_128) (And.intro (@ty_ar_24) (And.intro (@ty_ar_43) (And.intro (@ty_ar_48) (And.intro (@ty_ar_70) (And.intro (@ty_ar_71) (And.intro (@ty_by_103) (And.intro (@ty_by_25) (And.intro (@ty_by_34) (And.intro (@ty_by_35) (And.intro (@ty_by_36) (And.intro (@ty_by_37) (And.intro (@ty_by_44) (And.intro (@ty_by_45) (And.intro (@ty_by_52) (And.intro (@ty_by_76) (And.intro (@ty_by_80) (And.intro (@ty_eg_117) (And.intro (@ty_eg_124) (And.intro (@ty_eg_127) (And.intro (@ty_eg_33) (And.intro (@ty_eg_40) (And.intro (@ty_eg_57) (And.intro (@ty_eg_65) (And.intro (@ty_eg_67) (And.intro (@ty_lv_117) (And.intro (@ty_lv_124) (And.intro (@ty_lv_127) (And.intro (@ty_lv_33) (And.intro (@ty_lv_40) (And.intro (@ty_lv_57) (And.intro (@ty_lv_65) (And.intro (@ty_lv_67) (And.intro (@ty_of_110_0) (And.intro (@ty_of_110_1) (And.intro (@ty_of_110_2) (And.intro (@ty_of_27_0) (And.intro (@ty_of_27_1) (And.intro (@ty_of_27_2) (And.intro (@ty_of_29_0) (And.intro (@ty_of_29_1) (And.intro (@ty_of_29_2) (And.intro (@ty_of_29_3) (And.intro (@ty_of_29_4) (And.intro (@ty_of_33_0) (And.intro (@ty_of_33_1) (And.intro (@ty_of_33_2) (And.intro (@ty_of_33_3) (And.intro (@ty_of_42_0) (And.intro (@ty_of_42_1) (And.intro (@ty_of_42_2) (And.intro (@ty_of_42_3) (And.intro (@ty_of_42_4) (And.intro (@ty_of_42_5) (And.intro (@ty_of_42_6) (And.intro (@ty_of_47_0) (And.intro (@ty_of_47_1) (And.intro (@ty_of_55_0) (And.intro (@ty_of_55_1) (And.intro (@ty_of_55_10) (And.intro (@ty_of_55_11) (And.intro (@ty_of_55_12) (And.intro (@ty_of_55_13) (And.intro (@ty_of_55_14) (And.intro (@ty_of_55_15) (And.intro (@ty_of_55_2) (And.intro (@ty_of_55_3) (And.intro (@ty_of_55_4) (And.intro (@ty_of_55_5) (And.intro (@ty_of_55_7) (And.intro (@ty_of_55_8) (And.intro (@ty_of_55_9) (And.intro (@ty_of_57_0) (And.intro (@ty_of_57_1) (And.intro (@ty_of_59_0) (And.intro (@ty_of_59_1) (And.intro (@ty_of_59_2) (And.intro (@ty_of_65_0) (And.intro (@ty_of_65_1) (And.intro (@ty_of_65_2) (And.intro (@ty_of_65_3) (And.intro (@ty_of_67_1) (And.intro (@ty_of_67_10) (And.intro (@ty_of_67_11) (And.intro (@ty_of_67_12) (And.intro (@ty_of_67_13) (And.intro (@ty_of_67_14) (And.intro (@ty_of_67_15) (And.intro (@ty_of_67_2) (And.intro (@ty_of_67_3) (And.intro (@ty_of_67_4) (And.intro (@ty_of_67_5) (And.intro (@ty_of_67_6) (And.intro (@ty_of_67_7) (And.intro (@ty_of_67_8) (And.intro (@ty_of_67_9) (And.intro (@ty_of_73_0) (And.intro (@ty_of_73_1) (And.intro (@ty_of_73_2) (And.intro (@ty_of_73_3) (And.intro (@ty_of_73_4) (And.intro (@ty_of_73_5) (And.intro (@ty_of_73_6) (And.intro (@ty_of_73_7) (And.intro (@ty_of_79_0) (And.intro (@ty_of_79_1) (And.intro (@ty_of_79_2) (And.intro (@ty_of_79_3) (And.intro (@ty_of_79_4) (And.intro (@ty_of_82_0) (And.intro (@ty_of_82_1) (And.intro (@ty_of_82_2) (And.intro (@ty_of_82_3) (And.intro (@ty_of_82_4) (And.intro (@ty_of_89_0) (And.intro (@ty_of_89_1) (And.intro (@ty_of_89_2) (And.intro (@ty_of_97_0) (And.intro (@ty_of_97_1) (And.intro (@ty_ok_110) (And.intro (@ty_ok_24) (And.intro (@ty_ok_27) (And.intro (@ty_ok_29) (And.intro (@ty_ok_33) (And.intro (@ty_ok_42) (And.intro (@ty_ok_47) (And.intro (@ty_ok_55) (And.intro (@ty_ok_57) (And.intro (@ty_ok_63) (And.intro (@ty_ok_65) (And.intro (@ty_ok_67) (And.intro (@ty_ok_71) (And.intro (@ty_ok_79) (And.intro (@ty_ok_82) (And.intro (@ty_ok_89) (And.intro (@ty_ok_97) (And.intro (@ty_pl_110_0) (And.intro (@ty_pl_110_1) (And.intro (@ty_pl_110_2) (And.intro (@ty_pl_24_0) (And.intro (@ty_pl_24_1) (And.intro (@ty_pl_24_2) (And.intro (@ty_pl_27_0) (And.intro (@ty_pl_27_1) (And.intro (@ty_pl_27_2) (And.intro (@ty_pl_29_0) (And.intro (@ty_pl_29_3) (And.intro (@ty_pl_29_4) (And.intro (@ty_pl_33_0) (And.intro (@ty_pl_33_1) (And.intro (@ty_pl_33_2) (And.intro (@ty_pl_33_3) (And.intro (@ty_pl_33_4) (And.intro (@ty_pl_33_5) (And.intro (@ty_pl_42_0) (And.intro (@ty_pl_55_0) (And.intro (@ty_pl_55_1) (And.intro (@ty_pl_55_10) (And.intro (@ty_pl_55_11) (And.intro (@ty_pl_55_8) (And.intro (@ty_pl_55_9) (And.intro (@ty_pl_57_0) (And.intro (@ty_pl_57_1) (And.intro (@ty_pl_63_0) (And.intro (@ty_pl_65_0) (And.intro (@ty_pl_65_1) (And.intro (@ty_pl_65_2) (And.intro (@ty_pl_65_3) (And.intro (@ty_pl_67_0) (And.intro (@ty_pl_67_1) (And.intro (@ty_pl_67_2) (And.intro (@ty_pl_67_3) (And.intro (@ty_pl_67_4) (And.intro (@ty_pl_67_5) (And.intro (@ty_pl_71_0) (And.intro (@ty_pl_71_1) (And.intro (@ty_pl_71_2) (And.intro (@ty_pl_71_3) (And.intro (@ty_pl_79_0) (And.intro (@ty_pl_79_1) (And.intro (@ty_pl_79_2) (And.intro (@ty_pl_79_3) (And.intro (@ty_pl_79_4) (And.intro (@ty_pl_82_0) (And.intro (@ty_pl_89_0) (And.intro (@ty_pl_97_0) (And.intro (@ty_sl_103) (And.intro (@ty_sl_22) (And.intro (@ty_sl_25) (And.intro (@ty_sl_34) (And.intro (@ty_sl_35) (And.intro (@ty_sl_36) (And.intro (@ty_sl_37) (And.intro (@ty_sl_44) (And.intro (@ty_sl_45) (And.intro (@ty_sl_52) (And.intro (@ty_sl_69) (And.intro (@ty_sl_76) (And.intro (@ty_sl_80) (And.intro (@ty_sr_25) (And.intro (@ty_sr_34) (And.intro (@ty_sr_35) (And.intro (@ty_sr_36) (And.intro (@ty_sr_37) (And.intro (@ty_sr_44) (And.intro (@ty_sr_45) (And.intro (@ty_sr_52) (And.intro (@ty_sr_76) (And.intro (@ty_sr_80) (And.intro (@ty_sz_110) (And.intro (@ty_sz_117) (And.intro (@ty_sz_124) (And.intro (@ty_sz_127) (And.intro (@ty_sz_25) (And.intro (@ty_sz_27) (And.intro (@ty_sz_29) (And.intro (@ty_sz_3) (And.intro (@ty_sz_31) (And.intro (@ty_sz_33) (And.intro (@ty_sz_34) (And.intro (@ty_sz_35) (And.intro (@ty_sz_36) (And.intro (@ty_sz_37) (And.intro (@ty_sz_38) (And.intro (@ty_sz_4) (And.intro (@ty_sz_40) (And.intro (@ty_sz_42) (And.intro (@ty_sz_44) (And.intro (@ty_sz_45) (And.intro (@ty_sz_47) (And.intro (@ty_sz_5) (And.intro (@ty_sz_52) (And.intro (@ty_sz_53) (And.intro (@ty_sz_55) (And.intro (@ty_sz_57) (And.intro (@ty_sz_59) (And.intro (@ty_sz_65) (And.intro (@ty_sz_67) (And.intro (@ty_sz_71) (And.intro (@ty_sz_73) (And.intro (@ty_sz_79) (And.intro (@ty_sz_80) (And.intro (@ty_sz_82) (And.intro (@Try.underlying3) (And.intro (@Try.underlying30) (And.intro (@Try.underlying38) (And.intro (@Try.underlying4) (And.intro (@Try.underlying5) (And.intro (@Try.underlying53) (And.intro (@ty_ze_110) (And.intro (@ty_ze_128) (And.intro (@ty_ze_24) (And.intro (@ty_ze_27) (And.intro (@ty_ze_29) (And.intro (@ty_ze_33) (And.intro (@ty_ze_42) (And.intro (@ty_ze_43) (And.intro (@ty_ze_47) (And.intro (@ty_ze_48) (And.intro (@ty_ze_52) (And.intro (@ty_ze_55) (And.intro (@ty_ze_57) (And.intro (@ty_ze_59) (And.intro (@ty_ze_63) (And.intro (@ty_ze_65) (And.intro (@ty_ze_67) (And.intro (@ty_ze_71) (And.intro (@ty_ze_73) (And.intro (@ty_ze_79) (And.intro (@ty_ze_82) (And.intro (@ty_ze_89) (And.intro (@ty_ze_97) (And.intro (@ty_zs_103) (And.intro (@ty_zs_25) (And.intro (@ty_zs_34) (And.intro (@ty_zs_35) (And.intro (@ty_zs_36) (And.intro (@ty_zs_37) (And.intro (@ty_zs_44) (And.intro (@ty_zs_45) (And.intro (@ty_zs_52) (And.intro (@ty_zs_76) (@ty_zs_80)))))))))))))))))))))))))))))))))))))))))))))))))))))))))))))))))))))))))))))))))))))))))))))))))))))))))))))))))))))))))))))))))))))))))))))))))))))))))))))))))))))))))))))))))))))))))))))))))))))))))))))))))))))))))))))))))))))))))))))))))))))))))))))))))))))))))))))))))))))))))))))))))))))))))))))))))))))))))))
end Go.Ev
