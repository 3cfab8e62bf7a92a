/- A part of the proof: contracts of the functions that the statement reaches. -/
import Derived.Test.YtlngmicffhkghaaDoorProg
import Derived.Test.YtlngmicffhkghaaDoorEvAny
import Derived.KernelRfl
namespace Go.Ev
open Go.Proofs
set_option maxRecDepth 100000
theorem ty_ag_22 : aggT Tryd.prog 22 = some false := by kernel_rfl
theorem ty_ag_23 : aggT Tryd.prog 23 = some true := by kernel_rfl
theorem ty_ag_26 : aggT Tryd.prog 26 = some true := by kernel_rfl
theorem ty_ag_3 : aggT Tryd.prog 3 = some false := by kernel_rfl
theorem ty_ag_30 : aggT Tryd.prog 30 = some false := by kernel_rfl
theorem ty_ag_38 : aggT Tryd.prog 38 = some false := by kernel_rfl
theorem ty_ag_41 : aggT Tryd.prog 41 = some false := by kernel_rfl
theorem ty_ag_42 : aggT Tryd.prog 42 = some false := by kernel_rfl
theorem ty_ag_46 : aggT Tryd.prog 46 = some true := by kernel_rfl
theorem ty_ag_47 : aggT Tryd.prog 47 = some true := by kernel_rfl
theorem ty_ag_5 : aggT Tryd.prog 5 = some false := by kernel_rfl
theorem ty_ag_61 : aggT Tryd.prog 61 = some true := by kernel_rfl
theorem ty_ag_67 : aggT Tryd.prog 67 = some false := by kernel_rfl
theorem ty_ag_74 : aggT Tryd.prog 74 = some true := by kernel_rfl
theorem ty_ag_77 : aggT Tryd.prog 77 = some false := by kernel_rfl
theorem ty_ag_9 : aggT Tryd.prog 9 = some false := by kernel_rfl
theorem ty_ar_103 : arrT Tryd.prog 103 = some (32, 1, false) := by kernel_rfl
theorem ty_ar_104 : arrT Tryd.prog 104 = some (64, 1, false) := by kernel_rfl
theorem ty_ar_23 : arrT Tryd.prog 23 = some (14, 1, false) := by kernel_rfl
theorem ty_ar_26 : arrT Tryd.prog 26 = some (14, 1, false) := by kernel_rfl
theorem ty_ar_27 : arrT Tryd.prog 27 = some (2, 1, false) := by kernel_rfl
theorem ty_ar_47 : arrT Tryd.prog 47 = some (6, 1, false) := by kernel_rfl
theorem ty_ar_62 : arrT Tryd.prog 62 = some (5, 1, false) := by kernel_rfl
theorem ty_ar_63 : arrT Tryd.prog 63 = some (3, 1, false) := by kernel_rfl
theorem ty_ar_74 : arrT Tryd.prog 74 = some (6, 1, false) := by kernel_rfl
theorem ty_ar_86 : arrT Tryd.prog 86 = some (24, 1, false) := by kernel_rfl
theorem ty_ar_95 : arrT Tryd.prog 95 = some (20, 1, false) := by kernel_rfl
theorem ty_ar_96 : arrT Tryd.prog 96 = some (65, 1, false) := by kernel_rfl
theorem ty_by_41 : bytesE Tryd.prog 41 = some 24 := by kernel_rfl
theorem ty_by_42 : bytesE Tryd.prog 42 = some 136 := by kernel_rfl
theorem ty_by_52 : bytesE Tryd.prog 52 = some 16 := by kernel_rfl
theorem ty_by_67 : bytesE Tryd.prog 67 = some 1 := by kernel_rfl
theorem ty_eg_26 : Tryd.prog.eqGuardType Tryd.prog.depth 26 = false := by kernel_rfl
theorem ty_ib_67 : isBytesT Tryd.prog 67 = true := by kernel_rfl
theorem ty_lv_26 : leavesOf Tryd.prog 60 26 = some [.int .u32, .int .u32, .int .u32, .int .u32, .int .u32, .int .u32, .int .u32, .int .u32, .int .u32, .int .u32, .int .u32, .int .u32, .int .u32, .int .u32] := by kernel_rfl
theorem ty_of_40_0 : offT Tryd.prog 40 0 = some (0, 1) := by kernel_rfl
theorem ty_of_46_0 : offT Tryd.prog 46 0 = some (0, 6) := by kernel_rfl
theorem ty_of_46_1 : offT Tryd.prog 46 1 = some (6, 1) := by kernel_rfl
theorem ty_of_46_4 : offT Tryd.prog 46 4 = some (9, 1) := by kernel_rfl
theorem ty_of_46_5 : offT Tryd.prog 46 5 = some (10, 14) := by kernel_rfl
theorem ty_of_54_0 : offT Tryd.prog 54 0 = some (0, 1) := by kernel_rfl
theorem ty_of_54_1 : offT Tryd.prog 54 1 = some (1, 1) := by kernel_rfl
theorem ty_of_54_2 : offT Tryd.prog 54 2 = some (2, 1) := by kernel_rfl
theorem ty_of_61_1 : offT Tryd.prog 61 1 = some (3, 1) := by kernel_rfl
theorem ty_of_61_8 : offT Tryd.prog 61 8 = some (10, 1) := by kernel_rfl
theorem ty_of_61_9 : offT Tryd.prog 61 9 = some (11, 1) := by kernel_rfl
theorem ty_of_79_0 : offT Tryd.prog 79 0 = some (0, 1) := by kernel_rfl
theorem ty_of_79_1 : offT Tryd.prog 79 1 = some (1, 1) := by kernel_rfl
theorem ty_ok_26 : plOk Tryd.prog 26 = true := by kernel_rfl
theorem ty_ok_40 : plOk Tryd.prog 40 = true := by kernel_rfl
theorem ty_ok_46 : plOk Tryd.prog 46 = true := by kernel_rfl
theorem ty_ok_61 : plOk Tryd.prog 61 = true := by kernel_rfl
theorem ty_ok_62 : plOk Tryd.prog 62 = true := by kernel_rfl
theorem ty_ok_63 : plOk Tryd.prog 63 = true := by kernel_rfl
theorem ty_pl_40_0 : plT Tryd.prog 40 0 = some (0, 1) := by kernel_rfl
theorem ty_pl_46_0 : plT Tryd.prog 46 0 = some (0, 6) := by kernel_rfl
theorem ty_pl_46_1 : plT Tryd.prog 46 1 = some (6, 1) := by kernel_rfl
theorem ty_pl_46_4 : plT Tryd.prog 46 4 = some (9, 1) := by kernel_rfl
theorem ty_pl_46_5 : plT Tryd.prog 46 5 = some (10, 14) := by kernel_rfl
theorem ty_pl_61_1 : plT Tryd.prog 61 1 = some (3, 1) := by kernel_rfl
theorem ty_pl_61_8 : plT Tryd.prog 61 8 = some (10, 1) := by kernel_rfl
theorem ty_pl_61_9 : plT Tryd.prog 61 9 = some (11, 1) := by kernel_rfl
theorem ty_pl_62_0 : plT Tryd.prog 62 0 = some (0, 1) := by kernel_rfl
theorem ty_pl_62_1 : plT Tryd.prog 62 1 = some (1, 1) := by kernel_rfl
theorem ty_pl_62_2 : plT Tryd.prog 62 2 = some (2, 1) := by kernel_rfl
theorem ty_pl_62_3 : plT Tryd.prog 62 3 = some (3, 1) := by kernel_rfl
theorem ty_pl_62_4 : plT Tryd.prog 62 4 = some (4, 1) := by kernel_rfl
theorem ty_pl_63_0 : plT Tryd.prog 63 0 = some (0, 1) := by kernel_rfl
theorem ty_pl_63_1 : plT Tryd.prog 63 1 = some (1, 1) := by kernel_rfl
theorem ty_pl_63_2 : plT Tryd.prog 63 2 = some (2, 1) := by kernel_rfl
theorem ty_sf_67 : strT Tryd.prog 67 = false := by kernel_rfl
theorem ty_sl_24 : slT Tryd.prog 24 = some 2 := by kernel_rfl
theorem ty_sl_37 : slT Tryd.prog 37 = some 3 := by kernel_rfl
theorem ty_sl_41 : slT Tryd.prog 41 = some 9 := by kernel_rfl
theorem ty_sl_42 : slT Tryd.prog 42 = some 21 := by kernel_rfl
theorem ty_sl_52 : slT Tryd.prog 52 = some 1 := by kernel_rfl
theorem ty_sl_67 : slT Tryd.prog 67 = some 1 := by kernel_rfl
theorem ty_sr_42 : srcT Tryd.prog 42 = true := by kernel_rfl
theorem ty_sr_52 : srcT Tryd.prog 52 = true := by kernel_rfl
theorem ty_sr_67 : srcT Tryd.prog 67 = true := by kernel_rfl
theorem ty_sr_9 : srcT Tryd.prog 9 = true := by kernel_rfl
theorem ty_st_9 : strT Tryd.prog 9 = true := by kernel_rfl
theorem ty_sz_22 : szT Tryd.prog 22 = some 1 := by kernel_rfl
theorem ty_sz_23 : szT Tryd.prog 23 = some 14 := by kernel_rfl
theorem ty_sz_26 : szT Tryd.prog 26 = some 14 := by kernel_rfl
theorem ty_sz_3 : szT Tryd.prog 3 = some 1 := by kernel_rfl
theorem ty_sz_30 : szT Tryd.prog 30 = some 1 := by kernel_rfl
theorem ty_sz_38 : szT Tryd.prog 38 = some 1 := by kernel_rfl
theorem ty_sz_41 : szT Tryd.prog 41 = some 1 := by kernel_rfl
theorem ty_sz_42 : szT Tryd.prog 42 = some 1 := by kernel_rfl
theorem ty_sz_46 : szT Tryd.prog 46 = some 25 := by kernel_rfl
theorem ty_sz_47 : szT Tryd.prog 47 = some 6 := by kernel_rfl
theorem ty_sz_5 : szT Tryd.prog 5 = some 1 := by kernel_rfl
theorem ty_sz_61 : szT Tryd.prog 61 = some 21 := by kernel_rfl
theorem ty_sz_67 : szT Tryd.prog 67 = some 1 := by kernel_rfl
theorem ty_sz_74 : szT Tryd.prog 74 = some 6 := by kernel_rfl
theorem ty_sz_77 : szT Tryd.prog 77 = some 1 := by kernel_rfl
theorem ty_sz_9 : szT Tryd.prog 9 = some 1 := by kernel_rfl
theorem ty_ze_23 : zeroT Tryd.prog 23 = some [.raw (.int .u32 0), .raw (.int .u32 0), .raw (.int .u32 0), .raw (.int .u32 0), .raw (.int .u32 0), .raw (.int .u32 0), .raw (.int .u32 0), .raw (.int .u32 0), .raw (.int .u32 0), .raw (.int .u32 0), .raw (.int .u32 0), .raw (.int .u32 0), .raw (.int .u32 0), .raw (.int .u32 0)] := by kernel_rfl
theorem ty_ze_26 : zeroT Tryd.prog 26 = some [.raw (.int .u32 0), .raw (.int .u32 0), .raw (.int .u32 0), .raw (.int .u32 0), .raw (.int .u32 0), .raw (.int .u32 0), .raw (.int .u32 0), .raw (.int .u32 0), .raw (.int .u32 0), .raw (.int .u32 0), .raw (.int .u32 0), .raw (.int .u32 0), .raw (.int .u32 0), .raw (.int .u32 0)] := by kernel_rfl
theorem ty_ze_40 : zeroT Tryd.prog 40 = some [.raw (.int .u64 0), .raw (.int .i64 0), .raw (.int .i64 0), .raw (.int .i64 0), .raw (.int .i64 0), .raw (.int .i64 0)] := by kernel_rfl
theorem ty_ze_46 : zeroT Tryd.prog 46 = some [.raw (.int .u64 0), .raw (.int .i64 0), .raw (.int .i64 0), .raw (.int .i64 0), .raw (.int .i64 0), .raw (.int .i64 0), .raw (.slice none 0 0), .raw (.slice none 0 0), .raw (.slice none 0 0), .raw (.slice none 0 0), .raw (.int .u32 0), .raw (.int .u32 0), .raw (.int .u32 0), .raw (.int .u32 0), .raw (.int .u32 0), .raw (.int .u32 0), .raw (.int .u32 0), .raw (.int .u32 0), .raw (.int .u32 0), .raw (.int .u32 0), .raw (.int .u32 0), .raw (.int .u32 0), .raw (.int .u32 0), .raw (.int .u32 0), .raw (.int .i64 0)] := by kernel_rfl
theorem ty_ze_47 : zeroT Tryd.prog 47 = some [.raw (.int .u8 0), .raw (.int .u8 0), .raw (.int .u8 0), .raw (.int .u8 0), .raw (.int .u8 0), .raw (.int .u8 0)] := by kernel_rfl
theorem ty_ze_61 : zeroT Tryd.prog 61 = some [.raw (.int .u16 0), .raw (.int .i64 0), .raw (.bool false), .raw (.int .u32 0), .raw (.int .i64 0), .raw (.bool false), .raw (.bool false), .raw (.bool false), .raw (.bool false), .raw (.bool false), .raw (.int .i64 0), .raw (.int .i64 0), .raw (.int .i64 0), .raw (.int .u64 0), .raw (.int .u32 0), .raw (.int .u64 0), .raw (.int .u16 0), .raw (.int .i64 0), .raw (.int .i64 0), .raw (.int .i64 0), .raw (.int .i64 0)] := by kernel_rfl
theorem ty_ze_62 : zeroT Tryd.prog 62 = some [.raw (.string ⟨#[]⟩), .raw (.string ⟨#[]⟩), .raw (.string ⟨#[]⟩), .raw (.string ⟨#[]⟩), .raw (.string ⟨#[]⟩)] := by kernel_rfl
theorem ty_ze_63 : zeroT Tryd.prog 63 = some [.raw (.string ⟨#[]⟩), .raw (.string ⟨#[]⟩), .raw (.string ⟨#[]⟩)] := by kernel_rfl
theorem ty_ze_74 : zeroT Tryd.prog 74 = some [.raw (.int .u8 0), .raw (.int .u8 0), .raw (.int .u8 0), .raw (.int .u8 0), .raw (.int .u8 0), .raw (.int .u8 0)] := by kernel_rfl
theorem ty_ze_79 : zeroT Tryd.prog 79 = some [.raw (.pointer none), .raw (.slice none 0 0)] := by kernel_rfl
theorem ty_ze_86 : zeroT Tryd.prog 86 = some [.raw (.int .u8 0), .raw (.int .u8 0), .raw (.int .u8 0), .raw (.int .u8 0), .raw (.int .u8 0), .raw (.int .u8 0), .raw (.int .u8 0), .raw (.int .u8 0), .raw (.int .u8 0), .raw (.int .u8 0), .raw (.int .u8 0), .raw (.int .u8 0), .raw (.int .u8 0), .raw (.int .u8 0), .raw (.int .u8 0), .raw (.int .u8 0), .raw (.int .u8 0), .raw (.int .u8 0), .raw (.int .u8 0), .raw (.int .u8 0), .raw (.int .u8 0), .raw (.int .u8 0), .raw (.int .u8 0), .raw (.int .u8 0)] := by kernel_rfl
theorem ty_ze_96 : zeroT Tryd.prog 96 = some [.raw (.int .u8 0), .raw (.int .u8 0), .raw (.int .u8 0), .raw (.int .u8 0), .raw (.int .u8 0), .raw (.int .u8 0), .raw (.int .u8 0), .raw (.int .u8 0), .raw (.int .u8 0), .raw (.int .u8 0), .raw (.int .u8 0), .raw (.int .u8 0), .raw (.int .u8 0), .raw (.int .u8 0), .raw (.int .u8 0), .raw (.int .u8 0), .raw (.int .u8 0), .raw (.int .u8 0), .raw (.int .u8 0), .raw (.int .u8 0), .raw (.int .u8 0), .raw (.int .u8 0), .raw (.int .u8 0), .raw (.int .u8 0), .raw (.int .u8 0), .raw (.int .u8 0), .raw (.int .u8 0), .raw (.int .u8 0), .raw (.int .u8 0), .raw (.int .u8 0), .raw (.int .u8 0), .raw (.int .u8 0), .raw (.int .u8 0), .raw (.int .u8 0), .raw (.int .u8 0), .raw (.int .u8 0), .raw (.int .u8 0), .raw (.int .u8 0), .raw (.int .u8 0), .raw (.int .u8 0), .raw (.int .u8 0), .raw (.int .u8 0), .raw (.int .u8 0), .raw (.int .u8 0), .raw (.int .u8 0), .raw (.int .u8 0), .raw (.int .u8 0), .raw (.int .u8 0), .raw (.int .u8 0), .raw (.int .u8 0), .raw (.int .u8 0), .raw (.int .u8 0), .raw (.int .u8 0), .raw (.int .u8 0), .raw (.int .u8 0), .raw (.int .u8 0), .raw (.int .u8 0), .raw (.int .u8 0), .raw (.int .u8 0), .raw (.int .u8 0), .raw (.int .u8 0), .raw (.int .u8 0), .raw (.int .u8 0), .raw (.int .u8 0), .raw (.int .u8 0)] := by kernel_rfl
theorem ty_zs_41 : zeroE Tryd.prog 41 = some [.raw (.int .u16 0), .raw (.int .u8 0), .raw (.int .u8 0), .raw (.int .u8 0), .raw (.int .u8 0), .raw (.int .u8 0), .raw (.int .u8 0), .raw (.int .i64 0), .raw (.int .i64 0)] := by kernel_rfl
theorem ty_zs_42 : zeroE Tryd.prog 42 = some [.raw (.int .u16 0), .raw (.int .i64 0), .raw (.bool false), .raw (.int .u32 0), .raw (.int .i64 0), .raw (.bool false), .raw (.bool false), .raw (.bool false), .raw (.bool false), .raw (.bool false), .raw (.int .i64 0), .raw (.int .i64 0), .raw (.int .i64 0), .raw (.int .u64 0), .raw (.int .u32 0), .raw (.int .u64 0), .raw (.int .u16 0), .raw (.int .i64 0), .raw (.int .i64 0), .raw (.int .i64 0), .raw (.int .i64 0)] := by kernel_rfl
theorem ty_zs_52 : zeroE Tryd.prog 52 = some [.raw (.string ⟨#[]⟩)] := by kernel_rfl
theorem ty_zs_67 : zeroE Tryd.prog 67 = some [.raw (.int .u8 0)] := by kernel_rfl
theorem hmix : Tryd.prog.follows .mixedOrders = true := by kernel_rfl
end Go.Ev
