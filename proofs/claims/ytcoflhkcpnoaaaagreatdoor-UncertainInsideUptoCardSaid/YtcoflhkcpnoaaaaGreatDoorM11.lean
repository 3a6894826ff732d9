/- Blocks of one proof, laid one behind the other by a program (merge2.py). -/
import Derived.Test.YtcoflhkcpnoaaaaGreatDoorM10
import Derived.Test.YtcoflhkcpnoaaaaGreatDoorProg
import Derived.KernelRfl
set_option linter.unusedSimpArgs false
set_option linter.unusedVariables false
namespace Go.Proofs.YtcoflhkcpnoaaaaGreatDoor
open Go.AI
@[go_sem] theorem tya_s_2 : tSz Tryz.prog 2 = some (false, 1) := by kernel_rfl
@[go_sem] theorem tya_zi_2 : tZI Tryz.prog 2 = some (.i64, 0) := by kernel_rfl
@[go_sem] theorem tya_i_2 : tInt Tryz.prog 2 = some .i64 := by kernel_rfl
@[go_sem] theorem tya_z_2 : tZero Tryz.prog 2 = some [.int .i64 0] := by kernel_rfl
@[go_sem] theorem tya_s_3 : tSz Tryz.prog 3 = some (false, 1) := by kernel_rfl
@[go_sem] theorem tya_zi_3 : tZI Tryz.prog 3 = some (.i64, 0) := by kernel_rfl
@[go_sem] theorem tya_i_3 : tInt Tryz.prog 3 = some .i64 := by kernel_rfl
@[go_sem] theorem tya_z_3 : tZero Tryz.prog 3 = some [.int .i64 0] := by kernel_rfl
@[go_sem] theorem tya_s_4 : tSz Tryz.prog 4 = some (false, 1) := by kernel_rfl
@[go_sem] theorem tya_b_4 : tBool Tryz.prog 4 = true := by kernel_rfl
@[go_sem] theorem tya_z_4 : tZero Tryz.prog 4 = some [.bool false] := by kernel_rfl
@[go_sem] theorem tya_s_5 : tSz Tryz.prog 5 = some (false, 1) := by kernel_rfl
@[go_sem] theorem tya_zi_5 : tZI Tryz.prog 5 = some (.u8, 0) := by kernel_rfl
@[go_sem] theorem tya_i_5 : tInt Tryz.prog 5 = some .u8 := by kernel_rfl
@[go_sem] theorem tya_z_5 : tZero Tryz.prog 5 = some [.int .u8 0] := by kernel_rfl
@[go_sem] theorem tya_s_6 : tSz Tryz.prog 6 = some (false, 1) := by kernel_rfl
@[go_sem] theorem tya_zi_6 : tZI Tryz.prog 6 = some (.u8, 0) := by kernel_rfl
@[go_sem] theorem tya_i_6 : tInt Tryz.prog 6 = some .u8 := by kernel_rfl
@[go_sem] theorem tya_z_6 : tZero Tryz.prog 6 = some [.int .u8 0] := by kernel_rfl
@[go_sem] theorem tya_s_7 : tSz Tryz.prog 7 = some (true, 4) := by kernel_rfl
@[go_sem] theorem tya_fl_7 : tFlds Tryz.prog 7 = some [(0, 1), (1, 1), (2, 1), (3, 1)] := by kernel_rfl
@[go_sem] theorem tya_f0_7 : tFld Tryz.prog 7 0 = some 0 := by kernel_rfl
@[go_sem] theorem tya_f1_7 : tFld Tryz.prog 7 1 = some 1 := by kernel_rfl
@[go_sem] theorem tya_f2_7 : tFld Tryz.prog 7 2 = some 2 := by kernel_rfl
@[go_sem] theorem tya_f3_7 : tFld Tryz.prog 7 3 = some 3 := by kernel_rfl
@[go_sem] theorem tya_z_7 : tZero Tryz.prog 7 = some [.int .i64 0, .int .i64 0, .bool false, .int .u8 0] := by kernel_rfl
@[go_sem] theorem tya_s_8 : tSz Tryz.prog 8 = some (true, 4) := by kernel_rfl
@[go_sem] theorem tya_fl_8 : tFlds Tryz.prog 8 = some [(0, 1), (1, 1), (2, 1), (3, 1)] := by kernel_rfl
@[go_sem] theorem tya_f0_8 : tFld Tryz.prog 8 0 = some 0 := by kernel_rfl
@[go_sem] theorem tya_f1_8 : tFld Tryz.prog 8 1 = some 1 := by kernel_rfl
@[go_sem] theorem tya_f2_8 : tFld Tryz.prog 8 2 = some 2 := by kernel_rfl
@[go_sem] theorem tya_f3_8 : tFld Tryz.prog 8 3 = some 3 := by kernel_rfl
@[go_sem] theorem tya_z_8 : tZero Tryz.prog 8 = some [.int .i64 0, .int .i64 0, .bool false, .int .u8 0] := by kernel_rfl
@[go_sem] theorem tya_s_9 : tSz Tryz.prog 9 = some (false, 1) := by kernel_rfl
@[go_sem] theorem tya_z_9 : tZero Tryz.prog 9 = some [.str ⟨#[]⟩] := by kernel_rfl
@[go_sem] theorem tya_s_10 : tSz Tryz.prog 10 = some (false, 1) := by kernel_rfl
@[go_sem] theorem tya_z_10 : tZero Tryz.prog 10 = some [.str ⟨#[]⟩] := by kernel_rfl
@[go_sem] theorem tya_s_11 : tSz Tryz.prog 11 = some (false, 1) := by kernel_rfl
@[go_sem] theorem tya_z_11 : tZero Tryz.prog 11 = some [.str ⟨#[]⟩] := by kernel_rfl
@[go_sem] theorem tya_s_12 : tSz Tryz.prog 12 = some (false, 1) := by kernel_rfl
@[go_sem] theorem tya_zi_12 : tZI Tryz.prog 12 = some (.u64, 0) := by kernel_rfl
@[go_sem] theorem tya_i_12 : tInt Tryz.prog 12 = some .u64 := by kernel_rfl
@[go_sem] theorem tya_z_12 : tZero Tryz.prog 12 = some [.int .u64 0] := by kernel_rfl
@[go_sem] theorem tya_s_13 : tSz Tryz.prog 13 = some (true, 2) := by kernel_rfl
@[go_sem] theorem tya_fl_13 : tFlds Tryz.prog 13 = some [(0, 1), (1, 1)] := by kernel_rfl
@[go_sem] theorem tya_f0_13 : tFld Tryz.prog 13 0 = some 0 := by kernel_rfl
@[go_sem] theorem tya_f1_13 : tFld Tryz.prog 13 1 = some 1 := by kernel_rfl
@[go_sem] theorem tya_z_13 : tZero Tryz.prog 13 = some [.str ⟨#[]⟩, .int .u64 0] := by kernel_rfl
@[go_sem] theorem tya_s_14 : tSz Tryz.prog 14 = some (true, 2) := by kernel_rfl
@[go_sem] theorem tya_fl_14 : tFlds Tryz.prog 14 = some [(0, 1), (1, 1)] := by kernel_rfl
@[go_sem] theorem tya_f0_14 : tFld Tryz.prog 14 0 = some 0 := by kernel_rfl
@[go_sem] theorem tya_f1_14 : tFld Tryz.prog 14 1 = some 1 := by kernel_rfl
@[go_sem] theorem tya_z_14 : tZero Tryz.prog 14 = some [.str ⟨#[]⟩, .int .u64 0] := by kernel_rfl
@[go_sem] theorem tya_s_15 : tSz Tryz.prog 15 = some (false, 1) := by kernel_rfl
@[go_sem] theorem tya_z_15 : tZero Tryz.prog 15 = some [.raw (.pointer none)] := by kernel_rfl
@[go_sem] theorem tya_s_16 : tSz Tryz.prog 16 = some (false, 1) := by kernel_rfl
@[go_sem] theorem tya_z_16 : tZero Tryz.prog 16 = some [.raw (.pointer none)] := by kernel_rfl
@[go_sem] theorem tya_s_17 : tSz Tryz.prog 17 = some (false, 1) := by kernel_rfl
@[go_sem] theorem tya_z_17 : tZero Tryz.prog 17 = some [.raw (.pointer none)] := by kernel_rfl
@[go_sem] theorem tya_s_18 : tSz Tryz.prog 18 = some (true, 1) := by kernel_rfl
@[go_sem] theorem tya_fl_18 : tFlds Tryz.prog 18 = some [(0, 1)] := by kernel_rfl
@[go_sem] theorem tya_f0_18 : tFld Tryz.prog 18 0 = some 0 := by kernel_rfl
@[go_sem] theorem tya_z_18 : tZero Tryz.prog 18 = some [.raw (.pointer none)] := by kernel_rfl
@[go_sem] theorem tya_s_19 : tSz Tryz.prog 19 = some (true, 1) := by kernel_rfl
@[go_sem] theorem tya_fl_19 : tFlds Tryz.prog 19 = some [(0, 1)] := by kernel_rfl
@[go_sem] theorem tya_f0_19 : tFld Tryz.prog 19 0 = some 0 := by kernel_rfl
@[go_sem] theorem tya_z_19 : tZero Tryz.prog 19 = some [.raw (.pointer none)] := by kernel_rfl
@[go_sem] theorem tya_s_20 : tSz Tryz.prog 20 = some (false, 1) := by kernel_rfl
@[go_sem] theorem tya_c_20 : tIfc Tryz.prog 20 = true := by kernel_rfl
@[go_sem] theorem tya_z_20 : tZero Tryz.prog 20 = some [.nilI] := by kernel_rfl
@[go_sem] theorem tya_s_21 : tSz Tryz.prog 21 = some (false, 1) := by kernel_rfl
@[go_sem] theorem tya_zi_21 : tZI Tryz.prog 21 = some (.i32, 0) := by kernel_rfl
@[go_sem] theorem tya_i_21 : tInt Tryz.prog 21 = some .i32 := by kernel_rfl
@[go_sem] theorem tya_z_21 : tZero Tryz.prog 21 = some [.int .i32 0] := by kernel_rfl
@[go_sem] theorem tya_e_22 : tElem Tryz.prog 22 = some (63, 3, 40) := by kernel_rfl
@[go_sem] theorem tya_s_22 : tSz Tryz.prog 22 = some (false, 1) := by kernel_rfl
@[go_sem] theorem tya_z_22 : tZero Tryz.prog 22 = some [.nils] := by kernel_rfl
@[go_sem] theorem tya_s_23 : tSz Tryz.prog 23 = some (true, 3) := by kernel_rfl
@[go_sem] theorem tya_fl_23 : tFlds Tryz.prog 23 = some [(0, 1), (1, 1), (2, 1)] := by kernel_rfl
@[go_sem] theorem tya_f0_23 : tFld Tryz.prog 23 0 = some 0 := by kernel_rfl
@[go_sem] theorem tya_f1_23 : tFld Tryz.prog 23 1 = some 1 := by kernel_rfl
@[go_sem] theorem tya_f2_23 : tFld Tryz.prog 23 2 = some 2 := by kernel_rfl
@[go_sem] theorem tya_z_23 : tZero Tryz.prog 23 = some [.int .i64 0, .nils, .int .i64 0] := by kernel_rfl
@[go_sem] theorem tya_s_24 : tSz Tryz.prog 24 = some (true, 3) := by kernel_rfl
@[go_sem] theorem tya_fl_24 : tFlds Tryz.prog 24 = some [(0, 1), (1, 1), (2, 1)] := by kernel_rfl
@[go_sem] theorem tya_f0_24 : tFld Tryz.prog 24 0 = some 0 := by kernel_rfl
@[go_sem] theorem tya_f1_24 : tFld Tryz.prog 24 1 = some 1 := by kernel_rfl
@[go_sem] theorem tya_f2_24 : tFld Tryz.prog 24 2 = some 2 := by kernel_rfl
@[go_sem] theorem tya_z_24 : tZero Tryz.prog 24 = some [.int .i64 0, .nils, .int .i64 0] := by kernel_rfl
@[go_sem] theorem tya_e_25 : tElem Tryz.prog 25 = some (32, 6, 112) := by kernel_rfl
@[go_sem] theorem tya_s_25 : tSz Tryz.prog 25 = some (false, 1) := by kernel_rfl
@[go_sem] theorem tya_z_25 : tZero Tryz.prog 25 = some [.nils] := by kernel_rfl
@[go_sem] theorem tya_e_28 : tElem Tryz.prog 28 = some (106, 1, 4) := by kernel_rfl
@[go_sem] theorem tya_s_28 : tSz Tryz.prog 28 = some (false, 1) := by kernel_rfl
@[go_sem] theorem tya_z_28 : tZero Tryz.prog 28 = some [.nils] := by kernel_rfl
@[go_sem] theorem tya_s_29 : tSz Tryz.prog 29 = some (true, 3) := by kernel_rfl
@[go_sem] theorem tya_fl_29 : tFlds Tryz.prog 29 = some [(0, 1), (1, 1), (2, 1)] := by kernel_rfl
@[go_sem] theorem tya_f0_29 : tFld Tryz.prog 29 0 = some 0 := by kernel_rfl
@[go_sem] theorem tya_f1_29 : tFld Tryz.prog 29 1 = some 1 := by kernel_rfl
@[go_sem] theorem tya_f2_29 : tFld Tryz.prog 29 2 = some 2 := by kernel_rfl
@[go_sem] theorem tya_z_29 : tZero Tryz.prog 29 = some [.bool false, .nils, .nils] := by kernel_rfl
@[go_sem] theorem tya_s_30 : tSz Tryz.prog 30 = some (true, 3) := by kernel_rfl
@[go_sem] theorem tya_fl_30 : tFlds Tryz.prog 30 = some [(0, 1), (1, 1), (2, 1)] := by kernel_rfl
@[go_sem] theorem tya_f0_30 : tFld Tryz.prog 30 0 = some 0 := by kernel_rfl
@[go_sem] theorem tya_f1_30 : tFld Tryz.prog 30 1 = some 1 := by kernel_rfl
@[go_sem] theorem tya_f2_30 : tFld Tryz.prog 30 2 = some 2 := by kernel_rfl
@[go_sem] theorem tya_z_30 : tZero Tryz.prog 30 = some [.bool false, .nils, .nils] := by kernel_rfl
@[go_sem] theorem tya_s_31 : tSz Tryz.prog 31 = some (true, 6) := by kernel_rfl
@[go_sem] theorem tya_fl_31 : tFlds Tryz.prog 31 = some [(0, 3), (3, 3)] := by kernel_rfl
@[go_sem] theorem tya_f0_31 : tFld Tryz.prog 31 0 = some 0 := by kernel_rfl
@[go_sem] theorem tya_f1_31 : tFld Tryz.prog 31 1 = some 3 := by kernel_rfl
@[go_sem] theorem tya_z_31 : tZero Tryz.prog 31 = some [.bool false, .nils, .nils, .bool false, .nils, .nils] := by kernel_rfl
@[go_sem] theorem tya_s_32 : tSz Tryz.prog 32 = some (true, 6) := by kernel_rfl
@[go_sem] theorem tya_fl_32 : tFlds Tryz.prog 32 = some [(0, 3), (3, 3)] := by kernel_rfl
@[go_sem] theorem tya_f0_32 : tFld Tryz.prog 32 0 = some 0 := by kernel_rfl
@[go_sem] theorem tya_f1_32 : tFld Tryz.prog 32 1 = some 3 := by kernel_rfl
@[go_sem] theorem tya_z_32 : tZero Tryz.prog 32 = some [.bool false, .nils, .nils, .bool false, .nils, .nils] := by kernel_rfl
@[go_sem] theorem tya_s_33 : tSz Tryz.prog 33 = some (false, 1) := by kernel_rfl
@[go_sem] theorem tya_c_33 : tIfc Tryz.prog 33 = true := by kernel_rfl
@[go_sem] theorem tya_z_33 : tZero Tryz.prog 33 = some [.nilI] := by kernel_rfl
@[go_sem] theorem tya_s_34 : tSz Tryz.prog 34 = some (false, 1) := by kernel_rfl
@[go_sem] theorem tya_c_34 : tIfc Tryz.prog 34 = true := by kernel_rfl
@[go_sem] theorem tya_z_34 : tZero Tryz.prog 34 = some [.nilI] := by kernel_rfl
@[go_sem] theorem tya_e_43 : tElem Tryz.prog 43 = some (5, 1, 1) := by kernel_rfl
@[go_sem] theorem tya_s_43 : tSz Tryz.prog 43 = some (false, 1) := by kernel_rfl
@[go_sem] theorem tya_z_43 : tZero Tryz.prog 43 = some [.nils] := by kernel_rfl
@[go_sem] theorem tya_e_44 : tElem Tryz.prog 44 = some (30, 3, 56) := by kernel_rfl
@[go_sem] theorem tya_s_44 : tSz Tryz.prog 44 = some (false, 1) := by kernel_rfl
@[go_sem] theorem tya_z_44 : tZero Tryz.prog 44 = some [.nils] := by kernel_rfl
@[go_sem] theorem tya_s_53 : tSz Tryz.prog 53 = some (false, 1) := by kernel_rfl
@[go_sem] theorem tya_zi_53 : tZI Tryz.prog 53 = some (.i64, 0) := by kernel_rfl
@[go_sem] theorem tya_i_53 : tInt Tryz.prog 53 = some .i64 := by kernel_rfl
@[go_sem] theorem tya_z_53 : tZero Tryz.prog 53 = some [.int .i64 0] := by kernel_rfl
@[go_sem] theorem tya_e_61 : tElem Tryz.prog 61 = some (3, 1, 8) := by kernel_rfl
@[go_sem] theorem tya_s_61 : tSz Tryz.prog 61 = some (false, 1) := by kernel_rfl
@[go_sem] theorem tya_z_61 : tZero Tryz.prog 61 = some [.nils] := by kernel_rfl
@[go_sem] theorem tya_s_62 : tSz Tryz.prog 62 = some (true, 3) := by kernel_rfl
@[go_sem] theorem tya_fl_62 : tFlds Tryz.prog 62 = some [(0, 1), (1, 1), (2, 1)] := by kernel_rfl
@[go_sem] theorem tya_f0_62 : tFld Tryz.prog 62 0 = some 0 := by kernel_rfl
@[go_sem] theorem tya_f1_62 : tFld Tryz.prog 62 1 = some 1 := by kernel_rfl
@[go_sem] theorem tya_f2_62 : tFld Tryz.prog 62 2 = some 2 := by kernel_rfl
@[go_sem] theorem tya_z_62 : tZero Tryz.prog 62 = some [.int .i64 0, .int .i64 0, .nils] := by kernel_rfl
@[go_sem] theorem tya_s_63 : tSz Tryz.prog 63 = some (true, 3) := by kernel_rfl
@[go_sem] theorem tya_fl_63 : tFlds Tryz.prog 63 = some [(0, 1), (1, 1), (2, 1)] := by kernel_rfl
@[go_sem] theorem tya_f0_63 : tFld Tryz.prog 63 0 = some 0 := by kernel_rfl
@[go_sem] theorem tya_f1_63 : tFld Tryz.prog 63 1 = some 1 := by kernel_rfl
@[go_sem] theorem tya_f2_63 : tFld Tryz.prog 63 2 = some 2 := by kernel_rfl
@[go_sem] theorem tya_z_63 : tZero Tryz.prog 63 = some [.int .i64 0, .int .i64 0, .nils] := by kernel_rfl
@[go_sem] theorem tya_e_84 : tElem Tryz.prog 84 = some (125, 3, 24) := by kernel_rfl
@[go_sem] theorem tya_s_84 : tSz Tryz.prog 84 = some (false, 1) := by kernel_rfl
@[go_sem] theorem tya_z_84 : tZero Tryz.prog 84 = some [.nils] := by kernel_rfl
@[go_sem] theorem tya_s_85 : tSz Tryz.prog 85 = some (true, 3) := by kernel_rfl
@[go_sem] theorem tya_fl_85 : tFlds Tryz.prog 85 = some [(0, 1), (1, 1), (2, 1)] := by kernel_rfl
@[go_sem] theorem tya_f0_85 : tFld Tryz.prog 85 0 = some 0 := by kernel_rfl
@[go_sem] theorem tya_f1_85 : tFld Tryz.prog 85 1 = some 1 := by kernel_rfl
@[go_sem] theorem tya_f2_85 : tFld Tryz.prog 85 2 = some 2 := by kernel_rfl
@[go_sem] theorem tya_z_85 : tZero Tryz.prog 85 = some [.nils, .nils, .int .i64 0] := by kernel_rfl
@[go_sem] theorem tya_s_86 : tSz Tryz.prog 86 = some (true, 3) := by kernel_rfl
@[go_sem] theorem tya_fl_86 : tFlds Tryz.prog 86 = some [(0, 1), (1, 1), (2, 1)] := by kernel_rfl
@[go_sem] theorem tya_f0_86 : tFld Tryz.prog 86 0 = some 0 := by kernel_rfl
@[go_sem] theorem tya_f1_86 : tFld Tryz.prog 86 1 = some 1 := by kernel_rfl
@[go_sem] theorem tya_f2_86 : tFld Tryz.prog 86 2 = some 2 := by kernel_rfl
@[go_sem] theorem tya_z_86 : tZero Tryz.prog 86 = some [.nils, .nils, .int .i64 0] := by kernel_rfl
@[go_sem] theorem tya_e_103 : tElem Tryz.prog 103 = some (4, 1, 1) := by kernel_rfl
@[go_sem] theorem tya_s_103 : tSz Tryz.prog 103 = some (false, 1) := by kernel_rfl
@[go_sem] theorem tya_z_103 : tZero Tryz.prog 103 = some [.nils] := by kernel_rfl
@[go_sem] theorem tya_s_106 : tSz Tryz.prog 106 = some (false, 1) := by kernel_rfl
@[go_sem] theorem tya_zi_106 : tZI Tryz.prog 106 = some (.u32, 0) := by kernel_rfl
@[go_sem] theorem tya_i_106 : tInt Tryz.prog 106 = some .u32 := by kernel_rfl
@[go_sem] theorem tya_z_106 : tZero Tryz.prog 106 = some [.int .u32 0] := by kernel_rfl
@[go_sem] theorem tya_s_118 : tSz Tryz.prog 118 = some (false, 1) := by kernel_rfl
@[go_sem] theorem tya_z_118 : tZero Tryz.prog 118 = some [.raw (.pointer none)] := by kernel_rfl
@[go_sem] theorem tya_s_124 : tSz Tryz.prog 124 = some (true, 3) := by kernel_rfl
@[go_sem] theorem tya_fl_124 : tFlds Tryz.prog 124 = some [(0, 1), (1, 1), (2, 1)] := by kernel_rfl
@[go_sem] theorem tya_f0_124 : tFld Tryz.prog 124 0 = some 0 := by kernel_rfl
@[go_sem] theorem tya_f1_124 : tFld Tryz.prog 124 1 = some 1 := by kernel_rfl
@[go_sem] theorem tya_f2_124 : tFld Tryz.prog 124 2 = some 2 := by kernel_rfl
@[go_sem] theorem tya_q_124 : tEqS Tryz.prog 124 = some 3 := by kernel_rfl
@[go_sem] theorem tya_z_124 : tZero Tryz.prog 124 = some [.int .i64 0, .int .i64 0, .int .i64 0] := by kernel_rfl
@[go_sem] theorem tya_s_125 : tSz Tryz.prog 125 = some (true, 3) := by kernel_rfl
@[go_sem] theorem tya_fl_125 : tFlds Tryz.prog 125 = some [(0, 1), (1, 1), (2, 1)] := by kernel_rfl
@[go_sem] theorem tya_f0_125 : tFld Tryz.prog 125 0 = some 0 := by kernel_rfl
@[go_sem] theorem tya_f1_125 : tFld Tryz.prog 125 1 = some 1 := by kernel_rfl
@[go_sem] theorem tya_f2_125 : tFld Tryz.prog 125 2 = some 2 := by kernel_rfl
@[go_sem] theorem tya_q_125 : tEqS Tryz.prog 125 = some 3 := by kernel_rfl
@[go_sem] theorem tya_z_125 : tZero Tryz.prog 125 = some [.int .i64 0, .int .i64 0, .int .i64 0] := by kernel_rfl
@[go_sem] theorem tya_e_132 : tElem Tryz.prog 132 = some (9, 1, 16) := by kernel_rfl
@[go_sem] theorem tya_s_132 : tSz Tryz.prog 132 = some (false, 1) := by kernel_rfl
@[go_sem] theorem tya_z_132 : tZero Tryz.prog 132 = some [.nils] := by kernel_rfl
@[go_sem] theorem tya_s_136 : tSz Tryz.prog 136 = some (false, 1) := by kernel_rfl
@[go_sem] theorem tya_z_136 : tZero Tryz.prog 136 = some [.raw (.pointer none)] := by kernel_rfl
@[go_sem] theorem tya_s_137 : tSz Tryz.prog 137 = some (true, 2) := by kernel_rfl
@[go_sem] theorem tya_fl_137 : tFlds Tryz.prog 137 = some [(0, 1), (1, 1)] := by kernel_rfl
@[go_sem] theorem tya_f0_137 : tFld Tryz.prog 137 0 = some 0 := by kernel_rfl
@[go_sem] theorem tya_f1_137 : tFld Tryz.prog 137 1 = some 1 := by kernel_rfl
@[go_sem] theorem tya_z_137 : tZero Tryz.prog 137 = some [.raw (.pointer none), .nils] := by kernel_rfl
@[go_sem] theorem tya_s_138 : tSz Tryz.prog 138 = some (true, 2) := by kernel_rfl
@[go_sem] theorem tya_fl_138 : tFlds Tryz.prog 138 = some [(0, 1), (1, 1)] := by kernel_rfl
@[go_sem] theorem tya_f0_138 : tFld Tryz.prog 138 0 = some 0 := by kernel_rfl
@[go_sem] theorem tya_f1_138 : tFld Tryz.prog 138 1 = some 1 := by kernel_rfl
@[go_sem] theorem tya_z_138 : tZero Tryz.prog 138 = some [.raw (.pointer none), .nils] := by kernel_rfl
@[go_sem] theorem tya_s_145 : tSz Tryz.prog 145 = some (false, 1) := by kernel_rfl
@[go_sem] theorem tya_zi_145 : tZI Tryz.prog 145 = some (.u64, 0) := by kernel_rfl
@[go_sem] theorem tya_i_145 : tInt Tryz.prog 145 = some .u64 := by kernel_rfl
@[go_sem] theorem tya_z_145 : tZero Tryz.prog 145 = some [.int .u64 0] := by kernel_rfl
@[go_sem] theorem tya_s_146 : tSz Tryz.prog 146 = some (false, 1) := by kernel_rfl
@[go_sem] theorem tya_zi_146 : tZI Tryz.prog 146 = some (.u64, 0) := by kernel_rfl
@[go_sem] theorem tya_i_146 : tInt Tryz.prog 146 = some .u64 := by kernel_rfl
@[go_sem] theorem tya_z_146 : tZero Tryz.prog 146 = some [.int .u64 0] := by kernel_rfl
@[go_sem] theorem tya_s_149 : tSz Tryz.prog 149 = some (false, 1) := by kernel_rfl
@[go_sem] theorem tya_z_149 : tZero Tryz.prog 149 = some [.raw (.pointer none)] := by kernel_rfl
@[go_sem] theorem tya_s_150 : tSz Tryz.prog 150 = some (true, 5) := by kernel_rfl
@[go_sem] theorem tya_fl_150 : tFlds Tryz.prog 150 = some [(0, 3), (3, 1), (4, 1)] := by kernel_rfl
@[go_sem] theorem tya_f0_150 : tFld Tryz.prog 150 0 = some 0 := by kernel_rfl
@[go_sem] theorem tya_f1_150 : tFld Tryz.prog 150 1 = some 3 := by kernel_rfl
@[go_sem] theorem tya_f2_150 : tFld Tryz.prog 150 2 = some 4 := by kernel_rfl
@[go_sem] theorem tya_z_150 : tZero Tryz.prog 150 = some [.int .i64 0, .nils, .int .i64 0, .nils, .nils] := by kernel_rfl
@[go_sem] theorem tya_s_151 : tSz Tryz.prog 151 = some (true, 5) := by kernel_rfl
@[go_sem] theorem tya_fl_151 : tFlds Tryz.prog 151 = some [(0, 3), (3, 1), (4, 1)] := by kernel_rfl
@[go_sem] theorem tya_f0_151 : tFld Tryz.prog 151 0 = some 0 := by kernel_rfl
@[go_sem] theorem tya_f1_151 : tFld Tryz.prog 151 1 = some 3 := by kernel_rfl
@[go_sem] theorem tya_f2_151 : tFld Tryz.prog 151 2 = some 4 := by kernel_rfl
@[go_sem] theorem tya_z_151 : tZero Tryz.prog 151 = some [.int .i64 0, .nils, .int .i64 0, .nils, .nils] := by kernel_rfl
@[go_sem] theorem tya_s_153 : tSz Tryz.prog 153 = some (false, 1) := by kernel_rfl
@[go_sem] theorem tya_z_153 : tZero Tryz.prog 153 = some [.raw (.map none)] := by kernel_rfl
@[go_sem] theorem tya_s_154 : tSz Tryz.prog 154 = some (false, 1) := by kernel_rfl
@[go_sem] theorem tya_z_154 : tZero Tryz.prog 154 = some [.raw (.map none)] := by kernel_rfl
@[go_sem] theorem tya_s_155 : tSz Tryz.prog 155 = some (true, 5) := by kernel_rfl
@[go_sem] theorem tya_fl_155 : tFlds Tryz.prog 155 = some [(0, 1), (1, 1), (2, 1), (3, 1), (4, 1)] := by kernel_rfl
@[go_sem] theorem tya_f0_155 : tFld Tryz.prog 155 0 = some 0 := by kernel_rfl
@[go_sem] theorem tya_f1_155 : tFld Tryz.prog 155 1 = some 1 := by kernel_rfl
@[go_sem] theorem tya_f2_155 : tFld Tryz.prog 155 2 = some 2 := by kernel_rfl
@[go_sem] theorem tya_f3_155 : tFld Tryz.prog 155 3 = some 3 := by kernel_rfl
@[go_sem] theorem tya_f4_155 : tFld Tryz.prog 155 4 = some 4 := by kernel_rfl
@[go_sem] theorem tya_z_155 : tZero Tryz.prog 155 = some [.nils, .nils, .nils, .raw (.map none), .raw (.map none)] := by kernel_rfl
@[go_sem] theorem tya_s_156 : tSz Tryz.prog 156 = some (true, 5) := by kernel_rfl
@[go_sem] theorem tya_fl_156 : tFlds Tryz.prog 156 = some [(0, 1), (1, 1), (2, 1), (3, 1), (4, 1)] := by kernel_rfl
@[go_sem] theorem tya_f0_156 : tFld Tryz.prog 156 0 = some 0 := by kernel_rfl
@[go_sem] theorem tya_f1_156 : tFld Tryz.prog 156 1 = some 1 := by kernel_rfl
@[go_sem] theorem tya_f2_156 : tFld Tryz.prog 156 2 = some 2 := by kernel_rfl
@[go_sem] theorem tya_f3_156 : tFld Tryz.prog 156 3 = some 3 := by kernel_rfl
@[go_sem] theorem tya_f4_156 : tFld Tryz.prog 156 4 = some 4 := by kernel_rfl
@[go_sem] theorem tya_z_156 : tZero Tryz.prog 156 = some [.nils, .nils, .nils, .raw (.map none), .raw (.map none)] := by kernel_rfl
@[go_sem] theorem tya_s_161 : tSz Tryz.prog 161 = some (false, 1) := by kernel_rfl
@[go_sem] theorem tya_z_161 : tZero Tryz.prog 161 = some [.raw (.map none)] := by kernel_rfl
@[go_sem] theorem tya_s_162 : tSz Tryz.prog 162 = some (false, 1) := by kernel_rfl
@[go_sem] theorem tya_z_162 : tZero Tryz.prog 162 = some [.raw (.map none)] := by kernel_rfl
@[go_sem] theorem tya_s_170 : tSz Tryz.prog 170 = some (true, 9) := by kernel_rfl
@[go_sem] theorem tya_z_170 : tZero Tryz.prog 170 = some [.int .u8 0, .int .u8 0, .int .u8 0, .int .u8 0, .int .u8 0, .int .u8 0, .int .u8 0, .int .u8 0, .int .u8 0] := by kernel_rfl
@[go_sem] theorem tya_s_172 : tSz Tryz.prog 172 = some (true, 256) := by kernel_rfl
@[go_sem] theorem tya_s_173 : tSz Tryz.prog 173 = some (true, 256) := by kernel_rfl
@[go_sem] theorem tya_s_177 : tSz Tryz.prog 177 = some (false, 1) := by kernel_rfl
@[go_sem] theorem tya_z_177 : tZero Tryz.prog 177 = some [.raw (.pointer none)] := by kernel_rfl
@[go_sem] theorem tya_s_178 : tSz Tryz.prog 178 = some (false, 1) := by kernel_rfl
@[go_sem] theorem tya_z_178 : tZero Tryz.prog 178 = some [.raw (.pointer none)] := by kernel_rfl
@[go_sem] theorem tya_s_180 : tSz Tryz.prog 180 = some (true, 2) := by kernel_rfl
@[go_sem] theorem tya_fl_180 : tFlds Tryz.prog 180 = some [(0, 1), (1, 1)] := by kernel_rfl
@[go_sem] theorem tya_f0_180 : tFld Tryz.prog 180 0 = some 0 := by kernel_rfl
@[go_sem] theorem tya_f1_180 : tFld Tryz.prog 180 1 = some 1 := by kernel_rfl
@[go_sem] theorem tya_q_180 : tEqS Tryz.prog 180 = some 2 := by kernel_rfl
@[go_sem] theorem tya_z_180 : tZero Tryz.prog 180 = some [.int .i64 0, .int .i64 0] := by kernel_rfl
@[go_sem] theorem tya_s_181 : tSz Tryz.prog 181 = some (true, 2) := by kernel_rfl
@[go_sem] theorem tya_fl_181 : tFlds Tryz.prog 181 = some [(0, 1), (1, 1)] := by kernel_rfl
@[go_sem] theorem tya_f0_181 : tFld Tryz.prog 181 0 = some 0 := by kernel_rfl
@[go_sem] theorem tya_f1_181 : tFld Tryz.prog 181 1 = some 1 := by kernel_rfl
@[go_sem] theorem tya_q_181 : tEqS Tryz.prog 181 = some 2 := by kernel_rfl
@[go_sem] theorem tya_z_181 : tZero Tryz.prog 181 = some [.int .i64 0, .int .i64 0] := by kernel_rfl
@[go_sem] theorem tya_s_184 : tSz Tryz.prog 184 = some (false, 1) := by kernel_rfl
@[go_sem] theorem tya_z_184 : tZero Tryz.prog 184 = some [.raw (.pointer none)] := by kernel_rfl
@[go_sem] theorem tya_s_190 : tSz Tryz.prog 190 = some (true, 3) := by kernel_rfl
@[go_sem] theorem tya_z_190 : tZero Tryz.prog 190 = some [.int .i64 0, .int .i64 0, .int .i64 0] := by kernel_rfl
@[go_sem] theorem tya_s_194 : tSz Tryz.prog 194 = some (true, 256) := by kernel_rfl
@[go_sem] theorem tya_s_195 : tSz Tryz.prog 195 = some (true, 2) := by kernel_rfl
@[go_sem] theorem tya_fl_195 : tFlds Tryz.prog 195 = some [(0, 1), (1, 1)] := by kernel_rfl
@[go_sem] theorem tya_f0_195 : tFld Tryz.prog 195 0 = some 0 := by kernel_rfl
@[go_sem] theorem tya_f1_195 : tFld Tryz.prog 195 1 = some 1 := by kernel_rfl
@[go_sem] theorem tya_q_195 : tEqS Tryz.prog 195 = some 2 := by kernel_rfl
@[go_sem] theorem tya_z_195 : tZero Tryz.prog 195 = some [.int .u8 0, .int .u8 0] := by kernel_rfl
@[go_sem] theorem tya_s_196 : tSz Tryz.prog 196 = some (true, 2) := by kernel_rfl
@[go_sem] theorem tya_fl_196 : tFlds Tryz.prog 196 = some [(0, 1), (1, 1)] := by kernel_rfl
@[go_sem] theorem tya_f0_196 : tFld Tryz.prog 196 0 = some 0 := by kernel_rfl
@[go_sem] theorem tya_f1_196 : tFld Tryz.prog 196 1 = some 1 := by kernel_rfl
@[go_sem] theorem tya_q_196 : tEqS Tryz.prog 196 = some 2 := by kernel_rfl
@[go_sem] theorem tya_z_196 : tZero Tryz.prog 196 = some [.int .u8 0, .int .u8 0] := by kernel_rfl
@[go_sem] theorem tya_s_197 : tSz Tryz.prog 197 = some (true, 32) := by kernel_rfl
@[go_sem] theorem tya_z_197 : tZero Tryz.prog 197 = some [.int .u8 0, .int .u8 0, .int .u8 0, .int .u8 0, .int .u8 0, .int .u8 0, .int .u8 0, .int .u8 0, .int .u8 0, .int .u8 0, .int .u8 0, .int .u8 0, .int .u8 0, .int .u8 0, .int .u8 0, .int .u8 0, .int .u8 0, .int .u8 0, .int .u8 0, .int .u8 0, .int .u8 0, .int .u8 0, .int .u8 0, .int .u8 0, .int .u8 0, .int .u8 0, .int .u8 0, .int .u8 0, .int .u8 0, .int .u8 0, .int .u8 0, .int .u8 0] := by kernel_rfl
@[go_sem] theorem tya_s_201 : tSz Tryz.prog 201 = some (true, 4) := by kernel_rfl
@[go_sem] theorem tya_fl_201 : tFlds Tryz.prog 201 = some [(0, 1), (1, 1), (2, 1), (3, 1)] := by kernel_rfl
@[go_sem] theorem tya_f0_201 : tFld Tryz.prog 201 0 = some 0 := by kernel_rfl
@[go_sem] theorem tya_f1_201 : tFld Tryz.prog 201 1 = some 1 := by kernel_rfl
@[go_sem] theorem tya_f2_201 : tFld Tryz.prog 201 2 = some 2 := by kernel_rfl
@[go_sem] theorem tya_f3_201 : tFld Tryz.prog 201 3 = some 3 := by kernel_rfl
@[go_sem] theorem tya_z_201 : tZero Tryz.prog 201 = some [.raw (.pointer none), .raw (.pointer none), .raw (.pointer none), .str ⟨#[]⟩] := by kernel_rfl
@[go_sem] theorem tya_s_202 : tSz Tryz.prog 202 = some (true, 4) := by kernel_rfl
@[go_sem] theorem tya_fl_202 : tFlds Tryz.prog 202 = some [(0, 1), (1, 1), (2, 1), (3, 1)] := by kernel_rfl
@[go_sem] theorem tya_f0_202 : tFld Tryz.prog 202 0 = some 0 := by kernel_rfl
@[go_sem] theorem tya_f1_202 : tFld Tryz.prog 202 1 = some 1 := by kernel_rfl
@[go_sem] theorem tya_f2_202 : tFld Tryz.prog 202 2 = some 2 := by kernel_rfl
@[go_sem] theorem tya_f3_202 : tFld Tryz.prog 202 3 = some 3 := by kernel_rfl
@[go_sem] theorem tya_z_202 : tZero Tryz.prog 202 = some [.raw (.pointer none), .raw (.pointer none), .raw (.pointer none), .str ⟨#[]⟩] := by kernel_rfl
@[go_sem] theorem tya_s_207 : tSz Tryz.prog 207 = some (false, 1) := by kernel_rfl
@[go_sem] theorem tya_zi_207 : tZI Tryz.prog 207 = some (.u8, 0) := by kernel_rfl
@[go_sem] theorem tya_i_207 : tInt Tryz.prog 207 = some .u8 := by kernel_rfl
@[go_sem] theorem tya_z_207 : tZero Tryz.prog 207 = some [.int .u8 0] := by kernel_rfl
@[go_sem] theorem tya_s_208 : tSz Tryz.prog 208 = some (false, 1) := by kernel_rfl
@[go_sem] theorem tya_zi_208 : tZI Tryz.prog 208 = some (.u8, 0) := by kernel_rfl
@[go_sem] theorem tya_i_208 : tInt Tryz.prog 208 = some .u8 := by kernel_rfl
@[go_sem] theorem tya_z_208 : tZero Tryz.prog 208 = some [.int .u8 0] := by kernel_rfl
@[go_sem] theorem tya_s_210 : tSz Tryz.prog 210 = some (false, 1) := by kernel_rfl
@[go_sem] theorem tya_zi_210 : tZI Tryz.prog 210 = some (.i32, 0) := by kernel_rfl
@[go_sem] theorem tya_i_210 : tInt Tryz.prog 210 = some .i32 := by kernel_rfl
@[go_sem] theorem tya_z_210 : tZero Tryz.prog 210 = some [.int .i32 0] := by kernel_rfl
@[go_sem] theorem tya_s_211 : tSz Tryz.prog 211 = some (false, 1) := by kernel_rfl
@[go_sem] theorem tya_zi_211 : tZI Tryz.prog 211 = some (.i32, 0) := by kernel_rfl
@[go_sem] theorem tya_i_211 : tInt Tryz.prog 211 = some .i32 := by kernel_rfl
@[go_sem] theorem tya_z_211 : tZero Tryz.prog 211 = some [.int .i32 0] := by kernel_rfl
@[go_sem] theorem tya_s_212 : tSz Tryz.prog 212 = some (true, 11) := by kernel_rfl
@[go_sem] theorem tya_fl_212 : tFlds Tryz.prog 212 = some [(0, 1), (1, 1), (2, 1), (3, 1), (4, 1), (5, 1), (6, 1), (7, 1), (8, 1), (9, 1), (10, 1)] := by kernel_rfl
@[go_sem] theorem tya_f0_212 : tFld Tryz.prog 212 0 = some 0 := by kernel_rfl
@[go_sem] theorem tya_f1_212 : tFld Tryz.prog 212 1 = some 1 := by kernel_rfl
@[go_sem] theorem tya_f2_212 : tFld Tryz.prog 212 2 = some 2 := by kernel_rfl
@[go_sem] theorem tya_f3_212 : tFld Tryz.prog 212 3 = some 3 := by kernel_rfl
@[go_sem] theorem tya_f4_212 : tFld Tryz.prog 212 4 = some 4 := by kernel_rfl
@[go_sem] theorem tya_f5_212 : tFld Tryz.prog 212 5 = some 5 := by kernel_rfl
@[go_sem] theorem tya_f6_212 : tFld Tryz.prog 212 6 = some 6 := by kernel_rfl
@[go_sem] theorem tya_f7_212 : tFld Tryz.prog 212 7 = some 7 := by kernel_rfl
@[go_sem] theorem tya_f8_212 : tFld Tryz.prog 212 8 = some 8 := by kernel_rfl
@[go_sem] theorem tya_f9_212 : tFld Tryz.prog 212 9 = some 9 := by kernel_rfl
@[go_sem] theorem tya_f10_212 : tFld Tryz.prog 212 10 = some 10 := by kernel_rfl
@[go_sem] theorem tya_z_212 : tZero Tryz.prog 212 = some [.int .u64 0, .int .u64 0, .int .u32 0, .int .u8 0, .int .u8 0, .int .u8 0, .int .u8 0, .raw .nilFunc, .raw (.pointer none), .int .i32 0, .int .i32 0] := by kernel_rfl
@[go_sem] theorem tya_s_213 : tSz Tryz.prog 213 = some (true, 11) := by kernel_rfl
@[go_sem] theorem tya_fl_213 : tFlds Tryz.prog 213 = some [(0, 1), (1, 1), (2, 1), (3, 1), (4, 1), (5, 1), (6, 1), (7, 1), (8, 1), (9, 1), (10, 1)] := by kernel_rfl
@[go_sem] theorem tya_f0_213 : tFld Tryz.prog 213 0 = some 0 := by kernel_rfl
@[go_sem] theorem tya_f1_213 : tFld Tryz.prog 213 1 = some 1 := by kernel_rfl
@[go_sem] theorem tya_f2_213 : tFld Tryz.prog 213 2 = some 2 := by kernel_rfl
@[go_sem] theorem tya_f3_213 : tFld Tryz.prog 213 3 = some 3 := by kernel_rfl
@[go_sem] theorem tya_f4_213 : tFld Tryz.prog 213 4 = some 4 := by kernel_rfl
@[go_sem] theorem tya_f5_213 : tFld Tryz.prog 213 5 = some 5 := by kernel_rfl
@[go_sem] theorem tya_f6_213 : tFld Tryz.prog 213 6 = some 6 := by kernel_rfl
@[go_sem] theorem tya_f7_213 : tFld Tryz.prog 213 7 = some 7 := by kernel_rfl
@[go_sem] theorem tya_f8_213 : tFld Tryz.prog 213 8 = some 8 := by kernel_rfl
@[go_sem] theorem tya_f9_213 : tFld Tryz.prog 213 9 = some 9 := by kernel_rfl
@[go_sem] theorem tya_f10_213 : tFld Tryz.prog 213 10 = some 10 := by kernel_rfl
@[go_sem] theorem tya_z_213 : tZero Tryz.prog 213 = some [.int .u64 0, .int .u64 0, .int .u32 0, .int .u8 0, .int .u8 0, .int .u8 0, .int .u8 0, .raw .nilFunc, .raw (.pointer none), .int .i32 0, .int .i32 0] := by kernel_rfl
end Go.Proofs.YtcoflhkcpnoaaaaGreatDoor
namespace Go.Proofs.YtcoflhkcpnoaaaaGreatDoor
open Go.AI Go.PN
attribute [local irreducible] aw Fa Fh DrK
abbrev rdc (r : RD) : List CV := [.bool r.neg, ws true r.num, ws true r.den]
theorem cmp_one {n : Nat} : (cmpN n (val [1]) == 0) = decide (n = 1) := by
  have : val [1] = 1 := rfl
  rw [this]
  unfold cmpN
  by_cases h : n = 1
  · subst h; rfl
  · have : ¬ (n = 1) := h
    simp only [this, decide_false, if_false]
    by_cases h0 : n < 1 <;> simp [h0]
theorem plain_eq {xs : List Nat} (h0 : 0 < xs.length) : plainB xs = (((xs.getD (xs.length - 1) 0 : Nat) : Int) != 0) := by
  simp only [plainB, h0, decide_true, Bool.true_and, bne]
  congr 1
  rw [Bool.eq_iff_iff]; simp
theorem plain_no {xs : List Nat} (h0 : ¬ 0 < xs.length) : plainB xs = false := by simp [plainB, h0]
set_option maxHeartbeats 400000 in
theorem one_fa : Fa Tryz.prog 63 [] (.c (ws true [1])) := by
  refine fa_of_body Tryz.func63 rfl rfl (by simp [Tryz.ntmps63]) fun C hC => ?_
  simp only [initS]
  refine xG ?_
  refine aw_buildSlice (xs := [.const (.int .u32 1)]) (cells := [.int .u32 1]) rfl rfl rfl ty_e_ws (by rw [envP, ty_z_u32]; rfl) rfl (by omega) (by omega) (by intro x hx; simp only [List.mem_cons, List.not_mem_nil, or_false] at hx; subst hx; exact ⟨rfl, rfl, rfl⟩) rfl fun g hg => ?_
  refine xS ?_
  refine xG ?_
  refine xT hC ?_
  exact .one (.c (ler_oslws eE (by omega) rfl (fun j hj => by match j, hj with | 0, _ => rfl)))
set_option maxHeartbeats 400000 in
theorem plain_fa (xs : List Nat) (hlx : xs.length ≤ 68719476738) : Fa Tryz.prog 95 [.c (ws false xs)] (.c (.bool (plainB xs))) := by
  refine fa_of_body Tryz.func95 rfl rfl (by simp [Tryz.ntmps95]) fun C hC => ?_
  simp only [initS, Nat.reduceAdd]
  refine xG ?_
  refine aw_split 6 eE (fun hb => ?_) (fun hb => ?_) <;> refine xS ?_
  · have h0 : 0 < xs.length := by have := of_decide_eq_true hb; omega
    refine xG ?_
    refine xT hC ?_
    exact .one (.c (ler_bool (plain_eq h0).symm))
  · have h0 : ¬ 0 < xs.length := by have := of_decide_eq_false hb; omega
    refine xG ?_
    refine xT hC ?_
    exact .one (.c (ler_bool (plain_no h0).symm))
theorem valid_zero {r : RD} (h1 : ((r.num.length : Int) == 0) = true) (h2 : ((r.den.length : Int) == 0) = true) : (!r.neg) = r.valid := by
  have h1' : r.num.length = 0 := by have := eq_of_beq h1; omega
  have h2' : r.den.length = 0 := by have := eq_of_beq h2; omega
  simp [RD.valid, h1', h2']
theorem valid_else {r : RD} (h : ((r.num.length : Int) == 0) = false ∨ ((r.den.length : Int) == 0) = false) : r.valid = (plainB r.num && plainB r.den && decide (Nat.gcd (val r.num) (val r.den) = 1)) := by
  unfold RD.valid
  rw [if_neg]
  rintro ⟨h1, h2⟩
  rcases h with h | h
  · rw [h1] at h; cases h
  · rw [h2] at h; cases h
set_option maxHeartbeats 1600000 in
theorem rvalid_fa (r : RD) (hw : r.wf 68719476736) : Fa Tryz.prog 54 [.agg (rdc r)] (.c (.bool r.valid)) := by
  have hp1 : r.num.length ≤ 68719476738 := by have := hw.2.2.1; omega
  have hp2 : r.den.length ≤ 68719476738 := by have := hw.2.2.2; omega
  have hg : (words (Nat.gcd (val r.num) (val r.den))).length ≤ 68719476736 := by
    by_cases h : val r.num = 0
    · rw [h, Nat.gcd_zero_left]; exact Nat.le_trans (words_val_len _ hw.2.1) hw.2.2.2
    · exact Nat.le_trans (words_len_mono (Nat.gcd_le_left _ (Nat.pos_of_ne_zero h))) (Nat.le_trans (words_val_len _ hw.1) hw.2.2.1)
  refine fa_of_body Tryz.func54 rfl rfl (by simp [Tryz.ntmps54]) fun C hC => ?_
  simp only [initS, Nat.reduceAdd]
  refine xG ?_
  refine xB fun g1 hn_g1=>?_
  refine yH hn_g1 ?_
  apply aw_seq
  refine aw_cut (fun _ : Unit => [(1, .c (.optr g1 0))]) (fun _ => [(g1, .cells 30 3 (ofL (rdc r)))]) (fun _ => ((r.num.length : Int) == 0) = false ∨ ((r.den.length : Int) == 0) = false) ?_ ?_
  · refine yG hn_g1 ?_
    refine aw_split 7 (zE hn_g1) (fun hb => ?_) (fun hb => ?_) <;> refine yS hn_g1 ?_
    · refine yG hn_g1 ?_
      refine yF hn_g1 (fun hd=>?_) fun hd=>?_
      · refine yG hn_g1 ?_
        refine yT hC hn_g1 ?_
        exact .one (.c (ler_bool (valid_zero hb hd)))
      · refine yG hn_g1 ?_
        exact aw_stop ⟨(), (zB hn_g1), zZ, .inr hd⟩
    · refine yG hn_g1 ?_
      refine yN hn_g1 ?_
      refine yG hn_g1 ?_
      exact aw_stop ⟨(), (zB hn_g1), zZ, .inl hb⟩
  rintro _ hd
  rw [valid_else hd]
  refine yG hn_g1 ?_
  refine yC hn_g1 (plain_fa r.num hp1) ?_
  refine yG hn_g1 ?_
  refine aw_split 19 (zE hn_g1) (fun h1 => ?_) (fun h1 => ?_) <;> refine yS hn_g1 ?_
  · refine yG hn_g1 ?_
    refine yC hn_g1 (plain_fa r.den hp2) ?_
    refine yG hn_g1 ?_
    refine aw_split 24 (zE hn_g1) (fun h2 => ?_) (fun h2 => ?_) <;> refine yS hn_g1 ?_
    · refine yG hn_g1 ?_
      refine yC hn_g1 (gcd_fa _ _ hw.1 hw.2.1 hw.2.2.1 hw.2.2.2) ?_
      refine yG hn_g1 ?_
      refine yC hn_g1 (one_fa) ?_
      refine yG hn_g1 ?_
      refine yC hn_g1 (cmp_fa _ [1] (words_lt _) ?_ hg ?_) ?_
      · simp
      · simp
      refine yG hn_g1 ?_
      refine yT hC hn_g1 ?_
      refine .one (.c (ler_bool ?_))
      rw [h1, h2, val_words, cmp_one]; rfl
    · refine yG hn_g1 ?_
      refine yT hC hn_g1 ?_
      refine .one (.c (ler_bool ?_))
      rw [h2, Bool.and_false, Bool.false_and]
  · refine yG hn_g1 ?_
    refine yT hC hn_g1 ?_
    refine .one (.c (ler_bool ?_))
    rw [h1, Bool.false_and, Bool.false_and]
end Go.Proofs.YtcoflhkcpnoaaaaGreatDoor
namespace Go.Proofs.YtcoflhkcpnoaaaaGreatDoor
open Go.AI Go.PN
attribute [local irreducible] aw Fa Fh DrK
theorem words_mul_len (m n : Nat) : (words (m * n)).length ≤ (words m).length + (words n).length := words_len_le (pow_mul_lt (words_pow_lt m) (words_pow_lt n))
theorem words_add_len {m n k : Nat} (hm : (words m).length ≤ k) (hn : (words n).length ≤ k) : (words (m + n)).length ≤ k + 1 := by
  have h1 := Nat.lt_of_lt_of_le (words_pow_lt m) (Nat.pow_le_pow_right (show 0 < 4294967296 by omega) hm)
  have h2 := Nat.lt_of_lt_of_le (words_pow_lt n) (Nat.pow_le_pow_right (show 0 < 4294967296 by omega) hn)
  refine words_len_le ?_
  rw [Nat.pow_succ]
  omega
theorem mulW (a b : Nat) (ha : (words a).length ≤ 68719476736) (hb : (words b).length ≤ 68719476736) : Fa Tryz.prog 135 [.c (ws false (words a)), .c (ws false (words b))] (.c (ws true (words (a * b)))) := by
  have := mul_fa (words a) (words b) (words_lt a) (words_lt b) ha hb
  rwa [val_words, val_words] at this
theorem addW (a b : Nat) (ha : (words a).length ≤ 68719476736) (hb : (words b).length ≤ 68719476736) : Fa Tryz.prog 136 [.c (ws false (words a)), .c (ws false (words b))] (.c (ws true (words (a + b)))) := by
  have := add_fa (words a) (words b) (words_lt a) (words_lt b) ha hb
  rwa [val_words, val_words] at this
theorem subW (a b : Nat) (ha : (words a).length ≤ 68719476736) (hb : (words b).length ≤ 68719476736) (h : b ≤ a) : Fa Tryz.prog 137 [.c (ws false (words a)), .c (ws false (words b))] (.tup [.c (ws true (words (a - b))), .c .nilI]) := by
  have := sub_fa (words a) (words b) (words_lt a) (words_lt b) ha hb (by rw [val_words, val_words]; exact h)
  rwa [val_words, val_words] at this
theorem cmpW (a b : Nat) (ha : (words a).length ≤ 68719476736) (hb : (words b).length ≤ 68719476736) : Fa Tryz.prog 62 [.c (ws false (words a)), .c (ws false (words b))] (.c (.int .i64 (cmpN a b))) := by
  have := cmp_fa (words a) (words b) (words_lt a) (words_lt b) ha hb
  rwa [val_words, val_words] at this
theorem gcdW (a b : Nat) (ha : (words a).length ≤ 68719476736) (hb : (words b).length ≤ 68719476736) : Fa Tryz.prog 96 [.c (ws false (words a)), .c (ws false (words b))] (.c (ws true (words (Nat.gcd a b)))) := by
  have := gcd_fa (words a) (words b) (words_lt a) (words_lt b) ha hb
  rwa [val_words, val_words] at this
theorem divW (a b : Nat) (ha : (words a).length ≤ 68719476736) (hb : (words b).length ≤ 68719476736) (h : b ≠ 0) : Fa Tryz.prog 101 [.c (ws false (words a)), .c (ws false (words b))] (.tup [.c (ws true (words (a / b))), .c (ws true (words (a % b))), .c .nilI]) := by
  have := div_fa (words a) (words b) (words_lt a) (words_lt b) ha hb (by rw [val_words]; exact h)
  rwa [val_words, val_words] at this
theorem bitsW (a : Nat) (ha : (words a).length ≤ 68719476736) : Fa Tryz.prog 100 [.c (ws false (words a))] (.c (.int .i64 (bitlen a : Nat))) := by
  have := bits_fa (words a) (words_lt a) ha
  rwa [val_words] at this
theorem some_of {r : RD} (h1 : r.valid = true) (h2 : ((r.num.length : Int) == 0) = false) : r.some = true := by
  have : r.num.length ≠ 0 := fun e => by rw [e] at h2; cases h2
  simp [RD.some, h1, this]
theorem none_of {r : RD} (h : r.valid = false ∨ ((r.num.length : Int) == 0) = true) : r.some = false := by
  rcases h with h | h
  · simp [RD.some, h]
  · have : r.num.length = 0 := by have := eq_of_beq h; omega
    simp [RD.some, this]
theorem wf_mono {r : RD} {L M : Nat} (h : r.wf L) (hm : L ≤ M) : r.wf M := ⟨h.1, h.2.1, Nat.le_trans h.2.2.1 hm, Nat.le_trans h.2.2.2 hm⟩
abbrev partsAV (r : RD) : AV := .tup [.c (.bool r.ps), .c (ws true (words r.pn)), .c (ws true (words r.pd))]
set_option maxHeartbeats 1600000 in
theorem rparts_fa (r : RD) (hw : r.wf 1073741824) : Fa Tryz.prog 37 [.agg (rdc r)] (partsAV r) := by
  refine fa_of_body Tryz.func37 rfl rfl (by simp [Tryz.ntmps37]) fun C hC => ?_
  simp only [initS, Nat.reduceAdd]
  refine xG ?_
  refine xB fun g1 hn_g1=>?_
  refine yG hn_g1 ?_
  refine yC hn_g1 (rvalid_fa r (wf_mono hw ?_)) ?_
  · omega
  refine yG hn_g1 ?_
  refine aw_split 8 (zE hn_g1) (fun hv => ?_) (fun hv => ?_) <;> refine yS hn_g1 ?_
  · have hs := RD.pn_none (none_of (r := r) (.inl (by simpa using hv)))
    refine yG hn_g1 ?_
    refine yP hn_g1 ?_
    refine yG hn_g1 ?_
    refine yC hn_g1 (one_fa) ?_
    refine yG hn_g1 ?_
    refine yT hC hn_g1 ?_
    refine .tup ⟨.c (ler_bool hs.2.2.symm), .c ?_, .c ?_, trivial⟩
    · rw [hs.1]; exact .nils
    · rw [hs.2.1]; exact ler_ws
  · have hv' : r.valid = true := by simpa using hv
    refine yG hn_g1 ?_
    refine yF hn_g1 (fun hn=>?_) fun hn=>?_
    · have hs := RD.pn_none (none_of (r := r) (.inr hn))
      refine yG hn_g1 ?_
      refine yC hn_g1 (one_fa) ?_
      refine yG hn_g1 ?_
      refine yT hC hn_g1 ?_
      refine .tup ⟨.c (ler_bool hs.2.2.symm), .c ?_, .c ?_, trivial⟩
      · rw [hs.1]; exact .nils
      · rw [hs.2.1]; exact ler_ws
    · have hs := RD.pn_words hw (some_of hv' hn)
      refine yG hn_g1 ?_
      refine aw_dr 9 ty_mixed (by kernel_rfl) ?_
      refine yG hn_g1 ?_
      refine yT hC hn_g1 ?_
      refine .tup ⟨.c (ler_bool hs.2.2.symm), .c ?_, .c ?_, trivial⟩
      · rw [hs.1]; exact ler_ws
      · rw [hs.2.1]; exact ler_ws
theorem lerl_rd {h : Heap} {r : RD} : LeRL h (rdc r) (rdc r) := ⟨.bool _, ler_ws, ler_ws, trivial⟩
theorem ler_rd {h : Heap} {r s : RD} (e : r = s) : LeRA h (.agg (rdc r)) (.agg (rdc s)) := by subst e; exact .one (.agg lerl_rd)
set_option maxHeartbeats 1600000 in
theorem rform_fa (neg : Bool) (n d : Nat) (hn : (words n).length ≤ 68719476736) (hd : (words d).length ≤ 68719476736) (h0 : d ≠ 0) :
    Fa Tryz.prog 58 [.c (.bool neg), .c (ws false (words n)), .c (ws false (words d))] (.agg (rdc (rd (sq neg n d)))) := by
  refine fa_of_body Tryz.func58 rfl rfl (by simp [Tryz.ntmps58]) fun C hC => ?_
  simp only [initS, Nat.reduceAdd]
  refine xG ?_
  refine xA fun g6 hn_g6=>?_
  refine yG hn_g6 ?_
  refine yC hn_g6 (bitsW n hn) ?_
  refine yG hn_g6 ?_
  refine yF hn_g6 (fun hb=>?_) fun hb=>?_
  · have hz : n = 0 := bitlen_zero.1 (by have := eq_of_beq hb; omega)
    refine yG hn_g6 ?_
    refine yW hn_g6 ?_
    refine yS hn_g6 ?_
    refine yG hn_g6 ?_
    refine yT hC hn_g6 ?_
    rw [hz, sq_zero, rd_zero]
    exact .one (.agg ⟨.bool _, .nils, .nils, trivial⟩)
  · have hz : n ≠ 0 := fun e => by rw [e] at hb; cases hb
    have hg : Nat.gcd n d ≠ 0 := fun e => h0 (Nat.eq_zero_of_gcd_eq_zero_right e)
    have hgl : (words (Nat.gcd n d)).length ≤ 68719476736 := Nat.le_trans (words_len_mono (Nat.gcd_le_left _ (Nat.pos_of_ne_zero hz))) hn
    refine yG hn_g6 ?_
    refine yC hn_g6 (gcdW n d hn hd) ?_
    refine yG hn_g6 ?_
    refine yC hn_g6 (divW n (Nat.gcd n d) hn hgl hg) ?_
    refine yG hn_g6 ?_
    refine yC hn_g6 (divW d (Nat.gcd n d) hd hgl hg) ?_
    refine yG hn_g6 ?_
    refine yW hn_g6 ?_
    refine yS hn_g6 ?_
    refine yG hn_g6 ?_
    refine yT hC hn_g6 ?_
    rw [rd_sq hz h0]
    exact .one (.agg ⟨.bool _, ler_ws, ler_ws, trivial⟩)
end Go.Proofs.YtcoflhkcpnoaaaaGreatDoor
namespace Go.Proofs.YtcoflhkcpnoaaaaGreatDoor
open Go.AI Go.PN
attribute [local irreducible] aw Fa Fh DrK
theorem words_min : words 9223372036854775808 = [0, 2147483648] := by
  rw [words_cons (by omega), words_cons (by omega), show (9223372036854775808 / 4294967296 / 4294967296 : Nat) = 0 from rfl, words_zero]
theorem int_neg {n : Int} (h0 : -9223372036854775808 < n) (h1 : n ≤ 9223372036854775807) : wrapZ .i64 (0 - n) = -n := by
  rw [wrapZ_eq, wrap_inRange (k := .i64) (by simp only [inRange]; omega)]; omega
theorem words_small {n : Nat} (h : n ≤ 9223372036854775808) : (words n).length ≤ 2 := words_len_le (Nat.lt_of_le_of_lt h (by decide))
set_option maxHeartbeats 800000 in
theorem rsize_fa (n : Int) (h0 : -9223372036854775808 ≤ n) (h1 : n ≤ 9223372036854775807) : Fa Tryz.prog 59 [.c (.int .i64 n)] (.c (ws true (words n.natAbs))) := by
  refine fa_of_body Tryz.func59 rfl rfl (by simp [Tryz.ntmps59]) fun C hC => ?_
  simp only [initS, Nat.reduceAdd]
  refine xG ?_
  refine xF (fun hb=>?_) fun hb=>?_
  · have hn : n = -9223372036854775808 := eq_of_beq hb
    refine xG ?_
    refine aw_buildSlice (xs := [.const (.int .u32 0), .const (.int .u32 2147483648)]) (cells := [.int .u32 0, .int .u32 2147483648]) rfl rfl rfl ty_e_ws (by rw [envP, ty_z_u32]; rfl) rfl (by omega) (by omega) (by intro x hx; simp only [List.mem_cons, List.not_mem_nil, or_false] at hx; rcases hx with rfl | rfl <;> exact ⟨rfl, rfl, rfl⟩) rfl fun g hg => ?_
    refine xS ?_
    refine xG ?_
    refine xT hC ?_
    subst hn
    rw [show ((-9223372036854775808 : Int).natAbs) = 9223372036854775808 from rfl, words_min]
    exact .one (.c (ler_oslws eE (by simp) rfl (fun j hj => by match j, hj with | 0, _ => rfl | 1, _ => rfl)))
  · have hn : n ≠ -9223372036854775808 := fun e => by rw [e] at hb; cases hb
    refine xG ?_
    rw [int_neg (by omega) h1]
    have hm : (if -n > n then -n else n) = (n.natAbs : Int) := by split <;> omega
    rw [hm]
    refine xC (of_fa (n.natAbs : Int) ?_ ?_) ?_
    · omega
    · omega
    refine xG ?_
    refine xT hC ?_
    exact .one (.c ler_ws)
theorem sq_int (n : Int) : sq (decide (n < 0)) n.natAbs 1 = (n : Rat) := by
  unfold sq sgn
  rw [Rat.mkRat_one]
  congr 1
  split
  · rename_i h; simp only [decide_eq_true_eq] at h; omega
  · rename_i h; simp only [decide_eq_true_eq] at h; omega
set_option maxHeartbeats 800000 in
theorem rof_fa (n : Int) (h0 : -9223372036854775808 ≤ n) (h1 : n ≤ 9223372036854775807) : Fa Tryz.prog 64 [.c (.int .i64 n)] (.agg (rdc (rd (n : Rat)))) := by
  have hl := words_small (n := n.natAbs) (by omega)
  refine fa_of_body Tryz.func64 rfl rfl (by simp [Tryz.ntmps64]) fun C hC => ?_
  simp only [initS, Nat.reduceAdd]
  refine xG ?_
  refine xA fun g2 hn_g2=>?_
  refine yG hn_g2 ?_
  refine yC hn_g2 (rsize_fa n h0 h1) ?_
  refine yG hn_g2 ?_
  refine yC hn_g2 (one_fa) ?_
  refine yG hn_g2 ?_
  rw [show ([1] : List Nat) = words 1 from words_one.symm]
  refine yC hn_g2 (rform_fa _ n.natAbs 1 ?_ ?_ ?_) ?_
  · omega
  · rw [words_one]; simp
  · omega
  refine yG hn_g2 ?_
  refine yW hn_g2 ?_
  refine yS hn_g2 ?_
  refine yG hn_g2 ?_
  refine yT hC hn_g2 ?_
  exact ler_rd (by rw [sq_int])
set_option maxHeartbeats 800000 in
theorem rneg_fa (r : RD) (hw : r.wf 1073741824) : Fa Tryz.prog 99 [.agg (rdc r)] (.agg (rdc (rd (-r.q)))) := by
  obtain ⟨hl1, hl2⟩ := RD.p_len hw (by omega)
  refine fa_of_body Tryz.func99 rfl rfl (by simp [Tryz.ntmps99]) fun C hC => ?_
  simp only [initS, Nat.reduceAdd]
  refine xG ?_
  refine xB fun g1 hn_g1=>?_
  refine yA hn_g1 fun g2 hn_g2=>?_
  refine yG (oj hn_g1 hn_g2) ?_
  refine yC (oj hn_g1 hn_g2) (rparts_fa r hw) ?_
  refine yG (oj hn_g1 hn_g2) ?_
  refine yC (oj hn_g1 hn_g2) (rform_fa _ r.pn r.pd ?_ ?_ (RD.pd_ne hw)) ?_
  · omega
  · omega
  refine yG (oj hn_g1 hn_g2) ?_
  refine yW (oj hn_g1 hn_g2) ?_
  refine yS (oj hn_g1 hn_g2) ?_
  refine yG (oj hn_g1 hn_g2) ?_
  refine yT hC (oj hn_g1 hn_g2) ?_
  exact ler_rd (by rw [sq_neg]; rfl)
theorem sign_zero {r : RD} {L : Nat} (hw : r.wf L) (h : (((words r.pn).length : Int) == 0) = true) : 0 = signQ r.q := by
  have h1 : r.pn = 0 := words_eq_nil.1 (List.length_eq_zero_iff.1 (by have := eq_of_beq h; omega))
  unfold RD.q
  rw [h1, sq_zero]; rfl
theorem sign_some {r : RD} {L : Nat} (hw : r.wf L) (h : (((words r.pn).length : Int) == 0) = false) : signQ r.q = if r.ps then -1 else 1 := by
  have h1 : r.pn ≠ 0 := fun e => by rw [e, words_zero] at h; cases h
  unfold signQ RD.q
  rw [if_neg (sq_ne h1 (RD.pd_ne hw))]
  have := sq_lt (neg := r.ps) h1 (RD.pd_ne hw)
  simp only [this]
set_option maxHeartbeats 800000 in
theorem rsign_fa (r : RD) (hw : r.wf 1073741824) : Fa Tryz.prog 12 [.agg (rdc r)] (.c (.int .i64 (signQ r.q))) := by
  refine fa_of_body Tryz.func12 rfl rfl (by simp [Tryz.ntmps12]) fun C hC => ?_
  simp only [initS, Nat.reduceAdd]
  refine xG ?_
  refine xB fun g1 hn_g1=>?_
  refine yG hn_g1 ?_
  refine yC hn_g1 (rparts_fa r hw) ?_
  refine yG hn_g1 ?_
  refine yF hn_g1 (fun hb=>?_) fun hb=>?_
  · refine yG hn_g1 ?_
    refine yT hC hn_g1 ?_
    exact .one (.c (ler_int (sign_zero hw hb)))
  · refine yG hn_g1 ?_
    refine yF hn_g1 (fun hp=>?_) fun hp=>?_
    · refine yG hn_g1 ?_
      refine yT hC hn_g1 ?_
      refine .one (.c (ler_int ?_))
      rw [sign_some hw hb, hp]; rfl
    · refine yG hn_g1 ?_
      refine yT hC hn_g1 ?_
      refine .one (.c (ler_int ?_))
      rw [sign_some hw hb, hp]; rfl
theorem not_of_bne {a b : Bool} (h : (a == b) = false) : b = !a := by cases a <;> cases b <;> simp_all
set_option maxHeartbeats 1600000 in
theorem radd_fa (a b : RD) (ha : a.wf 1073741824) (hb : b.wf 1073741824) : Fa Tryz.prog 98 [.agg (rdc a), .agg (rdc b)] (.agg (rdc (rd (a.q + b.q)))) := by
  obtain ⟨l1, l2⟩ := RD.p_len ha (by omega)
  obtain ⟨l3, l4⟩ := RD.p_len hb (by omega)
  have d1 := RD.pd_ne ha
  have d2 := RD.pd_ne hb
  have dd : a.pd * b.pd ≠ 0 := Nat.mul_ne_zero d1 d2
  have m1 := words_mul_len a.pn b.pd
  have m2 := words_mul_len b.pn a.pd
  have m3 := words_mul_len a.pd b.pd
  have m4 := words_add_len (m := a.pn * b.pd) (n := b.pn * a.pd) (k := 2147483648) (by omega) (by omega)
  refine fa_of_body Tryz.func98 rfl rfl (by simp [Tryz.ntmps98]) fun C hC => ?_
  simp only [initS, Nat.reduceAdd]
  refine xG ?_
  refine xB fun g2 hn_g2=>?_
  refine yB hn_g2 fun g3 hn_g3=>?_
  refine yA (oj hn_g2 hn_g3) fun g4 hn_g4=>?_
  refine yG (oj hn_g2 (oj hn_g3 hn_g4)) ?_
  refine yC (oj hn_g2 (oj hn_g3 hn_g4)) (rparts_fa a ha) ?_
  refine yG (oj hn_g2 (oj hn_g3 hn_g4)) ?_
  refine yC (oj hn_g2 (oj hn_g3 hn_g4)) (rparts_fa b hb) ?_
  refine yG (oj hn_g2 (oj hn_g3 hn_g4)) ?_
  refine yC (oj hn_g2 (oj hn_g3 hn_g4)) (mulW a.pn b.pd ?_ ?_) ?_
  · omega
  · omega
  refine yG (oj hn_g2 (oj hn_g3 hn_g4)) ?_
  refine yC (oj hn_g2 (oj hn_g3 hn_g4)) (mulW b.pn a.pd ?_ ?_) ?_
  · omega
  · omega
  refine yG (oj hn_g2 (oj hn_g3 hn_g4)) ?_
  refine yC (oj hn_g2 (oj hn_g3 hn_g4)) (mulW a.pd b.pd ?_ ?_) ?_
  · omega
  · omega
  refine yG (oj hn_g2 (oj hn_g3 hn_g4)) ?_
  refine yF (oj hn_g2 (oj hn_g3 hn_g4)) (fun hs=>?_) fun hs=>?_
  · have hs' : a.ps = b.ps := eq_of_beq hs
    refine yG (oj hn_g2 (oj hn_g3 hn_g4)) ?_
    refine yC (oj hn_g2 (oj hn_g3 hn_g4)) (addW _ _ ?_ ?_) ?_
    · omega
    · omega
    refine yG (oj hn_g2 (oj hn_g3 hn_g4)) ?_
    refine yC (oj hn_g2 (oj hn_g3 hn_g4)) (rform_fa _ _ _ ?_ ?_ dd) ?_
    · omega
    · omega
    refine yG (oj hn_g2 (oj hn_g3 hn_g4)) ?_
    refine yW (oj hn_g2 (oj hn_g3 hn_g4)) ?_
    refine yS (oj hn_g2 (oj hn_g3 hn_g4)) ?_
    refine yG (oj hn_g2 (oj hn_g3 hn_g4)) ?_
    refine yT hC (oj hn_g2 (oj hn_g3 hn_g4)) ?_
    refine ler_rd ?_
    rw [sq_add_same _ d1 d2]
    unfold RD.q; rw [hs']
  · have hs' : b.ps = !a.ps := not_of_bne hs
    refine yG (oj hn_g2 (oj hn_g3 hn_g4)) ?_
    refine yC (oj hn_g2 (oj hn_g3 hn_g4)) (cmpW _ _ ?_ ?_) ?_
    · omega
    · omega
    refine yG (oj hn_g2 (oj hn_g3 hn_g4)) ?_
    refine yF (oj hn_g2 (oj hn_g3 hn_g4)) (fun hc=>?_) fun hc=>?_
    · have hle : b.pn * a.pd ≤ a.pn * b.pd := by
        have := of_decide_eq_true hc
        unfold cmpN at this
        split at this
        · omega
        · omega
      have hl5 := words_len_mono (Nat.sub_le (a.pn * b.pd) (b.pn * a.pd))
      refine yG (oj hn_g2 (oj hn_g3 hn_g4)) ?_
      refine yC (oj hn_g2 (oj hn_g3 hn_g4)) (subW _ _ ?_ ?_ hle) ?_
      · omega
      · omega
      refine yG (oj hn_g2 (oj hn_g3 hn_g4)) ?_
      refine yC (oj hn_g2 (oj hn_g3 hn_g4)) (rform_fa _ _ _ ?_ ?_ dd) ?_
      · omega
      · omega
      refine yG (oj hn_g2 (oj hn_g3 hn_g4)) ?_
      refine yW (oj hn_g2 (oj hn_g3 hn_g4)) ?_
      refine yS (oj hn_g2 (oj hn_g3 hn_g4)) ?_
      refine yG (oj hn_g2 (oj hn_g3 hn_g4)) ?_
      refine yT hC (oj hn_g2 (oj hn_g3 hn_g4)) ?_
      refine ler_rd ?_
      rw [sq_add_ge _ d1 d2 hle]
      unfold RD.q; rw [hs']
    · have hle : a.pn * b.pd ≤ b.pn * a.pd := by
        have := of_decide_eq_false hc
        unfold cmpN at this
        split at this
        · omega
        · split at this <;> omega
      have hl5 := words_len_mono (Nat.sub_le (b.pn * a.pd) (a.pn * b.pd))
      refine yG (oj hn_g2 (oj hn_g3 hn_g4)) ?_
      refine yC (oj hn_g2 (oj hn_g3 hn_g4)) (subW _ _ ?_ ?_ hle) ?_
      · omega
      · omega
      refine yG (oj hn_g2 (oj hn_g3 hn_g4)) ?_
      refine yC (oj hn_g2 (oj hn_g3 hn_g4)) (rform_fa _ _ _ ?_ ?_ dd) ?_
      · omega
      · omega
      refine yG (oj hn_g2 (oj hn_g3 hn_g4)) ?_
      refine yW (oj hn_g2 (oj hn_g3 hn_g4)) ?_
      refine yS (oj hn_g2 (oj hn_g3 hn_g4)) ?_
      refine yG (oj hn_g2 (oj hn_g3 hn_g4)) ?_
      refine yT hC (oj hn_g2 (oj hn_g3 hn_g4)) ?_
      refine ler_rd ?_
      rw [hs', sq_add_lt _ d1 d2 hle]
      unfold RD.q; rw [hs']
set_option maxHeartbeats 800000 in
theorem rmul_fa (a b : RD) (ha : a.wf 1073741824) (hb : b.wf 1073741824) : Fa Tryz.prog 134 [.agg (rdc a), .agg (rdc b)] (.agg (rdc (rd (a.q * b.q)))) := by
  obtain ⟨l1, l2⟩ := RD.p_len ha (by omega)
  obtain ⟨l3, l4⟩ := RD.p_len hb (by omega)
  have d1 := RD.pd_ne ha
  have d2 := RD.pd_ne hb
  have dd : a.pd * b.pd ≠ 0 := Nat.mul_ne_zero d1 d2
  have m1 := words_mul_len a.pn b.pn
  have m3 := words_mul_len a.pd b.pd
  refine fa_of_body Tryz.func134 rfl rfl (by simp [Tryz.ntmps134]) fun C hC => ?_
  simp only [initS, Nat.reduceAdd]
  refine xG ?_
  refine xB fun g2 hn_g2=>?_
  refine yB hn_g2 fun g3 hn_g3=>?_
  refine yA (oj hn_g2 hn_g3) fun g4 hn_g4=>?_
  refine yG (oj hn_g2 (oj hn_g3 hn_g4)) ?_
  refine yC (oj hn_g2 (oj hn_g3 hn_g4)) (rparts_fa a ha) ?_
  refine yG (oj hn_g2 (oj hn_g3 hn_g4)) ?_
  refine yC (oj hn_g2 (oj hn_g3 hn_g4)) (rparts_fa b hb) ?_
  refine yG (oj hn_g2 (oj hn_g3 hn_g4)) ?_
  refine yC (oj hn_g2 (oj hn_g3 hn_g4)) (mulW _ _ ?_ ?_) ?_
  · omega
  · omega
  refine yG (oj hn_g2 (oj hn_g3 hn_g4)) ?_
  refine yC (oj hn_g2 (oj hn_g3 hn_g4)) (mulW _ _ ?_ ?_) ?_
  · omega
  · omega
  refine yG (oj hn_g2 (oj hn_g3 hn_g4)) ?_
  refine yC (oj hn_g2 (oj hn_g3 hn_g4)) (rform_fa _ _ _ ?_ ?_ dd) ?_
  · omega
  · omega
  refine yG (oj hn_g2 (oj hn_g3 hn_g4)) ?_
  refine yW (oj hn_g2 (oj hn_g3 hn_g4)) ?_
  refine yS (oj hn_g2 (oj hn_g3 hn_g4)) ?_
  refine yG (oj hn_g2 (oj hn_g3 hn_g4)) ?_
  refine yT hC (oj hn_g2 (oj hn_g3 hn_g4)) ?_
  exact ler_rd (by rw [sq_mul]; rfl)
theorem neg_wf {r : RD} (hw : r.wf 1073741824) : (rd (-r.q)).wf 1073741824 := rd_wf (fits_neg (RD.fits hw (by omega)))
set_option maxHeartbeats 800000 in
theorem rsub_fa (a b : RD) (ha : a.wf 1073741824) (hb : b.wf 1073741824) : Fa Tryz.prog 57 [.agg (rdc a), .agg (rdc b)] (.agg (rdc (rd (a.q - b.q)))) := by
  refine fa_of_body Tryz.func57 rfl rfl (by simp [Tryz.ntmps57]) fun C hC => ?_
  simp only [initS, Nat.reduceAdd]
  refine xG ?_
  refine xB fun g2 hn_g2=>?_
  refine yB hn_g2 fun g3 hn_g3=>?_
  refine yA (oj hn_g2 hn_g3) fun g4 hn_g4=>?_
  refine yG (oj hn_g2 (oj hn_g3 hn_g4)) ?_
  refine aw_dr 4 ty_mixed (by kernel_rfl) ?_
  refine yG (oj hn_g2 (oj hn_g3 hn_g4)) ?_
  refine yD (oj hn_g2 (oj hn_g3 hn_g4)) (rneg_fa b hb) ?_
  refine yG (oj hn_g2 (oj hn_g3 hn_g4)) ?_
  refine yD (oj hn_g2 (oj hn_g3 hn_g4)) (radd_fa a (rd (-b.q)) ha (neg_wf hb)) ?_
  refine yG (oj hn_g2 (oj hn_g3 hn_g4)) ?_
  refine yW (oj hn_g2 (oj hn_g3 hn_g4)) ?_
  refine yS (oj hn_g2 (oj hn_g3 hn_g4)) ?_
  refine yG (oj hn_g2 (oj hn_g3 hn_g4)) ?_
  refine yT hC (oj hn_g2 (oj hn_g3 hn_g4)) ?_
  exact ler_rd (by rw [rd_q, Rat.sub_eq_add_neg])
end Go.Proofs.YtcoflhkcpnoaaaaGreatDoor
