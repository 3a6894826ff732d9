/- Blocks of one proof, laid one behind the other by a program (merge2.py). -/
import Derived.Test.YtcoflhkcpnoaaaaGreatM08
import Derived.Test.YtcoflhkcpnoaaaaGreatProg
import Derived.KernelRfl
import Derived.Test.YtcoflhkcpnoaaaaGreatRows
import Derived.WalkKit
import Derived.ProofKit
import Derived.OpenShut
import Derived.JoinedCond
import Derived.Carry
set_option linter.unusedSimpArgs false
set_option linter.unusedVariables false
namespace Go.Proofs.YtcoflhkcpnoaaaaGreat
open Go.AI
@[go_sem] theorem tya_s_2 : tSz Tryz.prog 2 = some (false, 1) := by kernel_rfl
@[go_sem] theorem tya_zi_2 : tZI Tryz.prog 2 = some (.i64, 0) := by kernel_rfl
@[go_sem] theorem tya_i_2 : tInt Tryz.prog 2 = some .i64 := by kernel_rfl
@[go_sem] theorem tya_z_2 : tZero Tryz.prog 2 = some [.int .i64 0] := by kernel_rfl
@[go_sem] theorem tya_s_3 : tSz Tryz.prog 3 = some (false, 1) := by kernel_rfl
@[go_sem] theorem tya_zi_3 : tZI Tryz.prog 3 = some (.i64, 0) := by kernel_rfl
@[go_sem] theorem tya_i_3 : tInt Tryz.prog 3 = some .i64 := by kernel_rfl
@[go_sem] theorem tya_z_3 : tZero Tryz.prog 3 = some [.int .i64 0] := by kernel_rfl
@[go_sem] theorem tya_s_4 : tSz Tryz.prog 4 = some (false, 1) := by kernel_rfl
@[go_sem] theorem tya_b_4 : tBool Tryz.prog 4 = true := by kernel_rfl
@[go_sem] theorem tya_z_4 : tZero Tryz.prog 4 = some [.bool false] := by kernel_rfl
@[go_sem] theorem tya_s_5 : tSz Tryz.prog 5 = some (false, 1) := by kernel_rfl
@[go_sem] theorem tya_zi_5 : tZI Tryz.prog 5 = some (.u8, 0) := by kernel_rfl
@[go_sem] theorem tya_i_5 : tInt Tryz.prog 5 = some .u8 := by kernel_rfl
@[go_sem] theorem tya_z_5 : tZero Tryz.prog 5 = some [.int .u8 0] := by kernel_rfl
@[go_sem] theorem tya_s_6 : tSz Tryz.prog 6 = some (false, 1) := by kernel_rfl
@[go_sem] theorem tya_zi_6 : tZI Tryz.prog 6 = some (.u8, 0) := by kernel_rfl
@[go_sem] theorem tya_i_6 : tInt Tryz.prog 6 = some .u8 := by kernel_rfl
@[go_sem] theorem tya_z_6 : tZero Tryz.prog 6 = some [.int .u8 0] := by kernel_rfl
@[go_sem] theorem tya_s_7 : tSz Tryz.prog 7 = some (true, 4) := by kernel_rfl
@[go_sem] theorem tya_fl_7 : tFlds Tryz.prog 7 = some [(0, 1), (1, 1), (2, 1), (3, 1)] := by kernel_rfl
@[go_sem] theorem tya_f0_7 : tFld Tryz.prog 7 0 = some 0 := by kernel_rfl
@[go_sem] theorem tya_f1_7 : tFld Tryz.prog 7 1 = some 1 := by kernel_rfl
@[go_sem] theorem tya_f2_7 : tFld Tryz.prog 7 2 = some 2 := by kernel_rfl
@[go_sem] theorem tya_f3_7 : tFld Tryz.prog 7 3 = some 3 := by kernel_rfl
@[go_sem] theorem tya_z_7 : tZero Tryz.prog 7 = some [.int .i64 0, .int .i64 0, .bool false, .int .u8 0] := by kernel_rfl
@[go_sem] theorem tya_s_8 : tSz Tryz.prog 8 = some (true, 4) := by kernel_rfl
@[go_sem] theorem tya_fl_8 : tFlds Tryz.prog 8 = some [(0, 1), (1, 1), (2, 1), (3, 1)] := by kernel_rfl
@[go_sem] theorem tya_f0_8 : tFld Tryz.prog 8 0 = some 0 := by kernel_rfl
@[go_sem] theorem tya_f1_8 : tFld Tryz.prog 8 1 = some 1 := by kernel_rfl
@[go_sem] theorem tya_f2_8 : tFld Tryz.prog 8 2 = some 2 := by kernel_rfl
@[go_sem] theorem tya_f3_8 : tFld Tryz.prog 8 3 = some 3 := by kernel_rfl
@[go_sem] theorem tya_z_8 : tZero Tryz.prog 8 = some [.int .i64 0, .int .i64 0, .bool false, .int .u8 0] := by kernel_rfl
@[go_sem] theorem tya_s_9 : tSz Tryz.prog 9 = some (false, 1) := by kernel_rfl
@[go_sem] theorem tya_z_9 : tZero Tryz.prog 9 = some [.str ⟨#[]⟩] := by kernel_rfl
@[go_sem] theorem tya_s_10 : tSz Tryz.prog 10 = some (false, 1) := by kernel_rfl
@[go_sem] theorem tya_z_10 : tZero Tryz.prog 10 = some [.str ⟨#[]⟩] := by kernel_rfl
@[go_sem] theorem tya_s_11 : tSz Tryz.prog 11 = some (false, 1) := by kernel_rfl
@[go_sem] theorem tya_z_11 : tZero Tryz.prog 11 = some [.str ⟨#[]⟩] := by kernel_rfl
@[go_sem] theorem tya_s_12 : tSz Tryz.prog 12 = some (false, 1) := by kernel_rfl
@[go_sem] theorem tya_zi_12 : tZI Tryz.prog 12 = some (.u64, 0) := by kernel_rfl
@[go_sem] theorem tya_i_12 : tInt Tryz.prog 12 = some .u64 := by kernel_rfl
@[go_sem] theorem tya_z_12 : tZero Tryz.prog 12 = some [.int .u64 0] := by kernel_rfl
@[go_sem] theorem tya_s_13 : tSz Tryz.prog 13 = some (true, 2) := by kernel_rfl
@[go_sem] theorem tya_fl_13 : tFlds Tryz.prog 13 = some [(0, 1), (1, 1)] := by kernel_rfl
@[go_sem] theorem tya_f0_13 : tFld Tryz.prog 13 0 = some 0 := by kernel_rfl
@[go_sem] theorem tya_f1_13 : tFld Tryz.prog 13 1 = some 1 := by kernel_rfl
@[go_sem] theorem tya_z_13 : tZero Tryz.prog 13 = some [.str ⟨#[]⟩, .int .u64 0] := by kernel_rfl
@[go_sem] theorem tya_s_14 : tSz Tryz.prog 14 = some (true, 2) := by kernel_rfl
@[go_sem] theorem tya_fl_14 : tFlds Tryz.prog 14 = some [(0, 1), (1, 1)] := by kernel_rfl
@[go_sem] theorem tya_f0_14 : tFld Tryz.prog 14 0 = some 0 := by kernel_rfl
@[go_sem] theorem tya_f1_14 : tFld Tryz.prog 14 1 = some 1 := by kernel_rfl
@[go_sem] theorem tya_z_14 : tZero Tryz.prog 14 = some [.str ⟨#[]⟩, .int .u64 0] := by kernel_rfl
@[go_sem] theorem tya_s_15 : tSz Tryz.prog 15 = some (false, 1) := by kernel_rfl
@[go_sem] theorem tya_z_15 : tZero Tryz.prog 15 = some [.raw (.pointer none)] := by kernel_rfl
@[go_sem] theorem tya_s_16 : tSz Tryz.prog 16 = some (false, 1) := by kernel_rfl
@[go_sem] theorem tya_z_16 : tZero Tryz.prog 16 = some [.raw (.pointer none)] := by kernel_rfl
@[go_sem] theorem tya_s_17 : tSz Tryz.prog 17 = some (false, 1) := by kernel_rfl
@[go_sem] theorem tya_z_17 : tZero Tryz.prog 17 = some [.raw (.pointer none)] := by kernel_rfl
@[go_sem] theorem tya_s_18 : tSz Tryz.prog 18 = some (true, 1) := by kernel_rfl
@[go_sem] theorem tya_fl_18 : tFlds Tryz.prog 18 = some [(0, 1)] := by kernel_rfl
@[go_sem] theorem tya_f0_18 : tFld Tryz.prog 18 0 = some 0 := by kernel_rfl
@[go_sem] theorem tya_z_18 : tZero Tryz.prog 18 = some [.raw (.pointer none)] := by kernel_rfl
@[go_sem] theorem tya_s_19 : tSz Tryz.prog 19 = some (true, 1) := by kernel_rfl
@[go_sem] theorem tya_fl_19 : tFlds Tryz.prog 19 = some [(0, 1)] := by kernel_rfl
@[go_sem] theorem tya_f0_19 : tFld Tryz.prog 19 0 = some 0 := by kernel_rfl
@[go_sem] theorem tya_z_19 : tZero Tryz.prog 19 = some [.raw (.pointer none)] := by kernel_rfl
@[go_sem] theorem tya_s_20 : tSz Tryz.prog 20 = some (false, 1) := by kernel_rfl
@[go_sem] theorem tya_c_20 : tIfc Tryz.prog 20 = true := by kernel_rfl
@[go_sem] theorem tya_z_20 : tZero Tryz.prog 20 = some [.nilI] := by kernel_rfl
@[go_sem] theorem tya_s_21 : tSz Tryz.prog 21 = some (false, 1) := by kernel_rfl
@[go_sem] theorem tya_zi_21 : tZI Tryz.prog 21 = some (.i32, 0) := by kernel_rfl
@[go_sem] theorem tya_i_21 : tInt Tryz.prog 21 = some .i32 := by kernel_rfl
@[go_sem] theorem tya_z_21 : tZero Tryz.prog 21 = some [.int .i32 0] := by kernel_rfl
@[go_sem] theorem tya_e_22 : tElem Tryz.prog 22 = some (3, 1, 8) := by kernel_rfl
@[go_sem] theorem tya_s_22 : tSz Tryz.prog 22 = some (false, 1) := by kernel_rfl
@[go_sem] theorem tya_z_22 : tZero Tryz.prog 22 = some [.nils] := by kernel_rfl
@[go_sem] theorem tya_e_23 : tElem Tryz.prog 23 = some (88, 3, 24) := by kernel_rfl
@[go_sem] theorem tya_s_23 : tSz Tryz.prog 23 = some (false, 1) := by kernel_rfl
@[go_sem] theorem tya_z_23 : tZero Tryz.prog 23 = some [.nils] := by kernel_rfl
@[go_sem] theorem tya_s_24 : tSz Tryz.prog 24 = some (true, 3) := by kernel_rfl
@[go_sem] theorem tya_fl_24 : tFlds Tryz.prog 24 = some [(0, 1), (1, 1), (2, 1)] := by kernel_rfl
@[go_sem] theorem tya_f0_24 : tFld Tryz.prog 24 0 = some 0 := by kernel_rfl
@[go_sem] theorem tya_f1_24 : tFld Tryz.prog 24 1 = some 1 := by kernel_rfl
@[go_sem] theorem tya_f2_24 : tFld Tryz.prog 24 2 = some 2 := by kernel_rfl
@[go_sem] theorem tya_z_24 : tZero Tryz.prog 24 = some [.nils, .nils, .int .i64 0] := by kernel_rfl
@[go_sem] theorem tya_s_25 : tSz Tryz.prog 25 = some (true, 3) := by kernel_rfl
@[go_sem] theorem tya_fl_25 : tFlds Tryz.prog 25 = some [(0, 1), (1, 1), (2, 1)] := by kernel_rfl
@[go_sem] theorem tya_f0_25 : tFld Tryz.prog 25 0 = some 0 := by kernel_rfl
@[go_sem] theorem tya_f1_25 : tFld Tryz.prog 25 1 = some 1 := by kernel_rfl
@[go_sem] theorem tya_f2_25 : tFld Tryz.prog 25 2 = some 2 := by kernel_rfl
@[go_sem] theorem tya_z_25 : tZero Tryz.prog 25 = some [.nils, .nils, .int .i64 0] := by kernel_rfl
@[go_sem] theorem tya_s_28 : tSz Tryz.prog 28 = some (false, 1) := by kernel_rfl
@[go_sem] theorem tya_c_28 : tIfc Tryz.prog 28 = true := by kernel_rfl
@[go_sem] theorem tya_z_28 : tZero Tryz.prog 28 = some [.nilI] := by kernel_rfl
@[go_sem] theorem tya_s_29 : tSz Tryz.prog 29 = some (false, 1) := by kernel_rfl
@[go_sem] theorem tya_c_29 : tIfc Tryz.prog 29 = true := by kernel_rfl
@[go_sem] theorem tya_z_29 : tZero Tryz.prog 29 = some [.nilI] := by kernel_rfl
@[go_sem] theorem tya_s_32 : tSz Tryz.prog 32 = some (true, 2) := by kernel_rfl
@[go_sem] theorem tya_fl_32 : tFlds Tryz.prog 32 = some [(0, 1), (1, 1)] := by kernel_rfl
@[go_sem] theorem tya_f0_32 : tFld Tryz.prog 32 0 = some 0 := by kernel_rfl
@[go_sem] theorem tya_f1_32 : tFld Tryz.prog 32 1 = some 1 := by kernel_rfl
@[go_sem] theorem tya_z_32 : tZero Tryz.prog 32 = some [.nils, .int .i64 0] := by kernel_rfl
@[go_sem] theorem tya_s_33 : tSz Tryz.prog 33 = some (true, 2) := by kernel_rfl
@[go_sem] theorem tya_fl_33 : tFlds Tryz.prog 33 = some [(0, 1), (1, 1)] := by kernel_rfl
@[go_sem] theorem tya_f0_33 : tFld Tryz.prog 33 0 = some 0 := by kernel_rfl
@[go_sem] theorem tya_f1_33 : tFld Tryz.prog 33 1 = some 1 := by kernel_rfl
@[go_sem] theorem tya_z_33 : tZero Tryz.prog 33 = some [.nils, .int .i64 0] := by kernel_rfl
@[go_sem] theorem tya_e_39 : tElem Tryz.prog 39 = some (4, 1, 1) := by kernel_rfl
@[go_sem] theorem tya_s_39 : tSz Tryz.prog 39 = some (false, 1) := by kernel_rfl
@[go_sem] theorem tya_z_39 : tZero Tryz.prog 39 = some [.nils] := by kernel_rfl
@[go_sem] theorem tya_e_48 : tElem Tryz.prog 48 = some (101, 3, 40) := by kernel_rfl
@[go_sem] theorem tya_s_48 : tSz Tryz.prog 48 = some (false, 1) := by kernel_rfl
@[go_sem] theorem tya_z_48 : tZero Tryz.prog 48 = some [.nils] := by kernel_rfl
@[go_sem] theorem tya_s_49 : tSz Tryz.prog 49 = some (true, 3) := by kernel_rfl
@[go_sem] theorem tya_fl_49 : tFlds Tryz.prog 49 = some [(0, 1), (1, 1), (2, 1)] := by kernel_rfl
@[go_sem] theorem tya_f0_49 : tFld Tryz.prog 49 0 = some 0 := by kernel_rfl
@[go_sem] theorem tya_f1_49 : tFld Tryz.prog 49 1 = some 1 := by kernel_rfl
@[go_sem] theorem tya_f2_49 : tFld Tryz.prog 49 2 = some 2 := by kernel_rfl
@[go_sem] theorem tya_z_49 : tZero Tryz.prog 49 = some [.int .i64 0, .nils, .int .i64 0] := by kernel_rfl
@[go_sem] theorem tya_s_50 : tSz Tryz.prog 50 = some (true, 3) := by kernel_rfl
@[go_sem] theorem tya_fl_50 : tFlds Tryz.prog 50 = some [(0, 1), (1, 1), (2, 1)] := by kernel_rfl
@[go_sem] theorem tya_f0_50 : tFld Tryz.prog 50 0 = some 0 := by kernel_rfl
@[go_sem] theorem tya_f1_50 : tFld Tryz.prog 50 1 = some 1 := by kernel_rfl
@[go_sem] theorem tya_f2_50 : tFld Tryz.prog 50 2 = some 2 := by kernel_rfl
@[go_sem] theorem tya_z_50 : tZero Tryz.prog 50 = some [.int .i64 0, .nils, .int .i64 0] := by kernel_rfl
@[go_sem] theorem tya_s_63 : tSz Tryz.prog 63 = some (false, 1) := by kernel_rfl
@[go_sem] theorem tya_zi_63 : tZI Tryz.prog 63 = some (.i64, 0) := by kernel_rfl
@[go_sem] theorem tya_i_63 : tInt Tryz.prog 63 = some .i64 := by kernel_rfl
@[go_sem] theorem tya_z_63 : tZero Tryz.prog 63 = some [.int .i64 0] := by kernel_rfl
@[go_sem] theorem tya_s_70 : tSz Tryz.prog 70 = some (false, 1) := by kernel_rfl
@[go_sem] theorem tya_z_70 : tZero Tryz.prog 70 = some [.raw (.pointer none)] := by kernel_rfl
@[go_sem] theorem tya_s_74 : tSz Tryz.prog 74 = some (false, 1) := by kernel_rfl
@[go_sem] theorem tya_z_74 : tZero Tryz.prog 74 = some [.raw (.pointer none)] := by kernel_rfl
@[go_sem] theorem tya_s_82 : tSz Tryz.prog 82 = some (false, 1) := by kernel_rfl
@[go_sem] theorem tya_zi_82 : tZI Tryz.prog 82 = some (.u64, 0) := by kernel_rfl
@[go_sem] theorem tya_i_82 : tInt Tryz.prog 82 = some .u64 := by kernel_rfl
@[go_sem] theorem tya_z_82 : tZero Tryz.prog 82 = some [.int .u64 0] := by kernel_rfl
@[go_sem] theorem tya_s_87 : tSz Tryz.prog 87 = some (true, 3) := by kernel_rfl
@[go_sem] theorem tya_fl_87 : tFlds Tryz.prog 87 = some [(0, 1), (1, 1), (2, 1)] := by kernel_rfl
@[go_sem] theorem tya_f0_87 : tFld Tryz.prog 87 0 = some 0 := by kernel_rfl
@[go_sem] theorem tya_f1_87 : tFld Tryz.prog 87 1 = some 1 := by kernel_rfl
@[go_sem] theorem tya_f2_87 : tFld Tryz.prog 87 2 = some 2 := by kernel_rfl
@[go_sem] theorem tya_q_87 : tEqS Tryz.prog 87 = some 3 := by kernel_rfl
@[go_sem] theorem tya_z_87 : tZero Tryz.prog 87 = some [.int .i64 0, .int .i64 0, .int .i64 0] := by kernel_rfl
@[go_sem] theorem tya_s_88 : tSz Tryz.prog 88 = some (true, 3) := by kernel_rfl
@[go_sem] theorem tya_fl_88 : tFlds Tryz.prog 88 = some [(0, 1), (1, 1), (2, 1)] := by kernel_rfl
@[go_sem] theorem tya_f0_88 : tFld Tryz.prog 88 0 = some 0 := by kernel_rfl
@[go_sem] theorem tya_f1_88 : tFld Tryz.prog 88 1 = some 1 := by kernel_rfl
@[go_sem] theorem tya_f2_88 : tFld Tryz.prog 88 2 = some 2 := by kernel_rfl
@[go_sem] theorem tya_q_88 : tEqS Tryz.prog 88 = some 3 := by kernel_rfl
@[go_sem] theorem tya_z_88 : tZero Tryz.prog 88 = some [.int .i64 0, .int .i64 0, .int .i64 0] := by kernel_rfl
@[go_sem] theorem tya_s_100 : tSz Tryz.prog 100 = some (true, 3) := by kernel_rfl
@[go_sem] theorem tya_fl_100 : tFlds Tryz.prog 100 = some [(0, 1), (1, 1), (2, 1)] := by kernel_rfl
@[go_sem] theorem tya_f0_100 : tFld Tryz.prog 100 0 = some 0 := by kernel_rfl
@[go_sem] theorem tya_f1_100 : tFld Tryz.prog 100 1 = some 1 := by kernel_rfl
@[go_sem] theorem tya_f2_100 : tFld Tryz.prog 100 2 = some 2 := by kernel_rfl
@[go_sem] theorem tya_z_100 : tZero Tryz.prog 100 = some [.int .i64 0, .int .i64 0, .nils] := by kernel_rfl
@[go_sem] theorem tya_s_101 : tSz Tryz.prog 101 = some (true, 3) := by kernel_rfl
@[go_sem] theorem tya_fl_101 : tFlds Tryz.prog 101 = some [(0, 1), (1, 1), (2, 1)] := by kernel_rfl
@[go_sem] theorem tya_f0_101 : tFld Tryz.prog 101 0 = some 0 := by kernel_rfl
@[go_sem] theorem tya_f1_101 : tFld Tryz.prog 101 1 = some 1 := by kernel_rfl
@[go_sem] theorem tya_f2_101 : tFld Tryz.prog 101 2 = some 2 := by kernel_rfl
@[go_sem] theorem tya_z_101 : tZero Tryz.prog 101 = some [.int .i64 0, .int .i64 0, .nils] := by kernel_rfl
@[go_sem] theorem tya_s_117 : tSz Tryz.prog 117 = some (false, 1) := by kernel_rfl
@[go_sem] theorem tya_z_117 : tZero Tryz.prog 117 = some [.raw (.map none)] := by kernel_rfl
@[go_sem] theorem tya_s_118 : tSz Tryz.prog 118 = some (false, 1) := by kernel_rfl
@[go_sem] theorem tya_z_118 : tZero Tryz.prog 118 = some [.raw (.map none)] := by kernel_rfl
@[go_sem] theorem tya_s_119 : tSz Tryz.prog 119 = some (true, 3) := by kernel_rfl
@[go_sem] theorem tya_fl_119 : tFlds Tryz.prog 119 = some [(0, 1), (1, 1), (2, 1)] := by kernel_rfl
@[go_sem] theorem tya_f0_119 : tFld Tryz.prog 119 0 = some 0 := by kernel_rfl
@[go_sem] theorem tya_f1_119 : tFld Tryz.prog 119 1 = some 1 := by kernel_rfl
@[go_sem] theorem tya_f2_119 : tFld Tryz.prog 119 2 = some 2 := by kernel_rfl
@[go_sem] theorem tya_z_119 : tZero Tryz.prog 119 = some [.nils, .raw (.map none), .raw (.map none)] := by kernel_rfl
@[go_sem] theorem tya_s_120 : tSz Tryz.prog 120 = some (true, 3) := by kernel_rfl
@[go_sem] theorem tya_fl_120 : tFlds Tryz.prog 120 = some [(0, 1), (1, 1), (2, 1)] := by kernel_rfl
@[go_sem] theorem tya_f0_120 : tFld Tryz.prog 120 0 = some 0 := by kernel_rfl
@[go_sem] theorem tya_f1_120 : tFld Tryz.prog 120 1 = some 1 := by kernel_rfl
@[go_sem] theorem tya_f2_120 : tFld Tryz.prog 120 2 = some 2 := by kernel_rfl
@[go_sem] theorem tya_z_120 : tZero Tryz.prog 120 = some [.nils, .raw (.map none), .raw (.map none)] := by kernel_rfl
@[go_sem] theorem tya_s_121 : tSz Tryz.prog 121 = some (false, 1) := by kernel_rfl
@[go_sem] theorem tya_z_121 : tZero Tryz.prog 121 = some [.raw (.map none)] := by kernel_rfl
@[go_sem] theorem tya_s_123 : tSz Tryz.prog 123 = some (false, 1) := by kernel_rfl
@[go_sem] theorem tya_z_123 : tZero Tryz.prog 123 = some [.raw (.map none)] := by kernel_rfl
@[go_sem] theorem tya_s_124 : tSz Tryz.prog 124 = some (true, 5) := by kernel_rfl
@[go_sem] theorem tya_fl_124 : tFlds Tryz.prog 124 = some [(0, 1), (1, 1), (2, 1), (3, 1), (4, 1)] := by kernel_rfl
@[go_sem] theorem tya_f0_124 : tFld Tryz.prog 124 0 = some 0 := by kernel_rfl
@[go_sem] theorem tya_f1_124 : tFld Tryz.prog 124 1 = some 1 := by kernel_rfl
@[go_sem] theorem tya_f2_124 : tFld Tryz.prog 124 2 = some 2 := by kernel_rfl
@[go_sem] theorem tya_f3_124 : tFld Tryz.prog 124 3 = some 3 := by kernel_rfl
@[go_sem] theorem tya_f4_124 : tFld Tryz.prog 124 4 = some 4 := by kernel_rfl
@[go_sem] theorem tya_z_124 : tZero Tryz.prog 124 = some [.nils, .nils, .nils, .raw (.map none), .raw (.map none)] := by kernel_rfl
@[go_sem] theorem tya_s_125 : tSz Tryz.prog 125 = some (true, 5) := by kernel_rfl
@[go_sem] theorem tya_fl_125 : tFlds Tryz.prog 125 = some [(0, 1), (1, 1), (2, 1), (3, 1), (4, 1)] := by kernel_rfl
@[go_sem] theorem tya_f0_125 : tFld Tryz.prog 125 0 = some 0 := by kernel_rfl
@[go_sem] theorem tya_f1_125 : tFld Tryz.prog 125 1 = some 1 := by kernel_rfl
@[go_sem] theorem tya_f2_125 : tFld Tryz.prog 125 2 = some 2 := by kernel_rfl
@[go_sem] theorem tya_f3_125 : tFld Tryz.prog 125 3 = some 3 := by kernel_rfl
@[go_sem] theorem tya_f4_125 : tFld Tryz.prog 125 4 = some 4 := by kernel_rfl
@[go_sem] theorem tya_z_125 : tZero Tryz.prog 125 = some [.nils, .nils, .nils, .raw (.map none), .raw (.map none)] := by kernel_rfl
@[go_sem] theorem tya_s_127 : tSz Tryz.prog 127 = some (false, 1) := by kernel_rfl
@[go_sem] theorem tya_z_127 : tZero Tryz.prog 127 = some [.raw (.map none)] := by kernel_rfl
@[go_sem] theorem tya_s_130 : tSz Tryz.prog 130 = some (false, 1) := by kernel_rfl
@[go_sem] theorem tya_zi_130 : tZI Tryz.prog 130 = some (.u32, 0) := by kernel_rfl
@[go_sem] theorem tya_i_130 : tInt Tryz.prog 130 = some .u32 := by kernel_rfl
@[go_sem] theorem tya_z_130 : tZero Tryz.prog 130 = some [.int .u32 0] := by kernel_rfl
@[go_sem] theorem tya_s_132 : tSz Tryz.prog 132 = some (false, 1) := by kernel_rfl
@[go_sem] theorem tya_zi_132 : tZI Tryz.prog 132 = some (.u64, 0) := by kernel_rfl
@[go_sem] theorem tya_i_132 : tInt Tryz.prog 132 = some .u64 := by kernel_rfl
@[go_sem] theorem tya_z_132 : tZero Tryz.prog 132 = some [.int .u64 0] := by kernel_rfl
@[go_sem] theorem tya_s_148 : tSz Tryz.prog 148 = some (false, 1) := by kernel_rfl
@[go_sem] theorem tya_z_148 : tZero Tryz.prog 148 = some [.raw (.map none)] := by kernel_rfl
@[go_sem] theorem tya_s_151 : tSz Tryz.prog 151 = some (true, 3) := by kernel_rfl
@[go_sem] theorem tya_z_151 : tZero Tryz.prog 151 = some [.int .i64 0, .int .i64 0, .int .i64 0] := by kernel_rfl
@[go_sem] theorem tya_e_156 : tElem Tryz.prog 156 = some (33, 2, 32) := by kernel_rfl
@[go_sem] theorem tya_s_156 : tSz Tryz.prog 156 = some (false, 1) := by kernel_rfl
@[go_sem] theorem tya_z_156 : tZero Tryz.prog 156 = some [.nils] := by kernel_rfl
@[go_sem] theorem tya_s_160 : tSz Tryz.prog 160 = some (true, 3) := by kernel_rfl
@[go_sem] theorem tya_fl_160 : tFlds Tryz.prog 160 = some [(0, 1), (1, 1), (2, 1)] := by kernel_rfl
@[go_sem] theorem tya_f0_160 : tFld Tryz.prog 160 0 = some 0 := by kernel_rfl
@[go_sem] theorem tya_f1_160 : tFld Tryz.prog 160 1 = some 1 := by kernel_rfl
@[go_sem] theorem tya_f2_160 : tFld Tryz.prog 160 2 = some 2 := by kernel_rfl
@[go_sem] theorem tya_q_160 : tEqS Tryz.prog 160 = some 3 := by kernel_rfl
@[go_sem] theorem tya_z_160 : tZero Tryz.prog 160 = some [.int .u8 0, .int .i64 0, .int .i64 0] := by kernel_rfl
@[go_sem] theorem tya_s_161 : tSz Tryz.prog 161 = some (true, 3) := by kernel_rfl
@[go_sem] theorem tya_fl_161 : tFlds Tryz.prog 161 = some [(0, 1), (1, 1), (2, 1)] := by kernel_rfl
@[go_sem] theorem tya_f0_161 : tFld Tryz.prog 161 0 = some 0 := by kernel_rfl
@[go_sem] theorem tya_f1_161 : tFld Tryz.prog 161 1 = some 1 := by kernel_rfl
@[go_sem] theorem tya_f2_161 : tFld Tryz.prog 161 2 = some 2 := by kernel_rfl
@[go_sem] theorem tya_q_161 : tEqS Tryz.prog 161 = some 3 := by kernel_rfl
@[go_sem] theorem tya_z_161 : tZero Tryz.prog 161 = some [.int .u8 0, .int .i64 0, .int .i64 0] := by kernel_rfl
@[go_sem] theorem tya_s_164 : tSz Tryz.prog 164 = some (false, 1) := by kernel_rfl
@[go_sem] theorem tya_zi_164 : tZI Tryz.prog 164 = some (.i64, 0) := by kernel_rfl
@[go_sem] theorem tya_i_164 : tInt Tryz.prog 164 = some .i64 := by kernel_rfl
@[go_sem] theorem tya_z_164 : tZero Tryz.prog 164 = some [.int .i64 0] := by kernel_rfl
@[go_sem] theorem tya_s_170 : tSz Tryz.prog 170 = some (false, 1) := by kernel_rfl
@[go_sem] theorem tya_zi_170 : tZI Tryz.prog 170 = some (.u64, 0) := by kernel_rfl
@[go_sem] theorem tya_i_170 : tInt Tryz.prog 170 = some .u64 := by kernel_rfl
@[go_sem] theorem tya_z_170 : tZero Tryz.prog 170 = some [.int .u64 0] := by kernel_rfl
@[go_sem] theorem tya_s_174 : tSz Tryz.prog 174 = some (false, 1) := by kernel_rfl
@[go_sem] theorem tya_z_174 : tZero Tryz.prog 174 = some [.raw (.pointer none)] := by kernel_rfl
@[go_sem] theorem tya_s_176 : tSz Tryz.prog 176 = some (false, 1) := by kernel_rfl
@[go_sem] theorem tya_z_176 : tZero Tryz.prog 176 = some [.raw (.pointer none)] := by kernel_rfl
@[go_sem] theorem tya_s_179 : tSz Tryz.prog 179 = some (true, 4) := by kernel_rfl
@[go_sem] theorem tya_fl_179 : tFlds Tryz.prog 179 = some [(0, 1), (1, 1), (2, 1), (3, 1)] := by kernel_rfl
@[go_sem] theorem tya_f0_179 : tFld Tryz.prog 179 0 = some 0 := by kernel_rfl
@[go_sem] theorem tya_f1_179 : tFld Tryz.prog 179 1 = some 1 := by kernel_rfl
@[go_sem] theorem tya_f2_179 : tFld Tryz.prog 179 2 = some 2 := by kernel_rfl
@[go_sem] theorem tya_f3_179 : tFld Tryz.prog 179 3 = some 3 := by kernel_rfl
@[go_sem] theorem tya_z_179 : tZero Tryz.prog 179 = some [.raw (.pointer none), .raw (.pointer none), .raw (.pointer none), .str ⟨#[]⟩] := by kernel_rfl
@[go_sem] theorem tya_s_180 : tSz Tryz.prog 180 = some (true, 4) := by kernel_rfl
@[go_sem] theorem tya_fl_180 : tFlds Tryz.prog 180 = some [(0, 1), (1, 1), (2, 1), (3, 1)] := by kernel_rfl
@[go_sem] theorem tya_f0_180 : tFld Tryz.prog 180 0 = some 0 := by kernel_rfl
@[go_sem] theorem tya_f1_180 : tFld Tryz.prog 180 1 = some 1 := by kernel_rfl
@[go_sem] theorem tya_f2_180 : tFld Tryz.prog 180 2 = some 2 := by kernel_rfl
@[go_sem] theorem tya_f3_180 : tFld Tryz.prog 180 3 = some 3 := by kernel_rfl
@[go_sem] theorem tya_z_180 : tZero Tryz.prog 180 = some [.raw (.pointer none), .raw (.pointer none), .raw (.pointer none), .str ⟨#[]⟩] := by kernel_rfl
@[go_sem] theorem tya_s_184 : tSz Tryz.prog 184 = some (false, 1) := by kernel_rfl
@[go_sem] theorem tya_zi_184 : tZI Tryz.prog 184 = some (.u8, 0) := by kernel_rfl
@[go_sem] theorem tya_i_184 : tInt Tryz.prog 184 = some .u8 := by kernel_rfl
@[go_sem] theorem tya_z_184 : tZero Tryz.prog 184 = some [.int .u8 0] := by kernel_rfl
@[go_sem] theorem tya_s_185 : tSz Tryz.prog 185 = some (false, 1) := by kernel_rfl
@[go_sem] theorem tya_zi_185 : tZI Tryz.prog 185 = some (.u8, 0) := by kernel_rfl
@[go_sem] theorem tya_i_185 : tInt Tryz.prog 185 = some .u8 := by kernel_rfl
@[go_sem] theorem tya_z_185 : tZero Tryz.prog 185 = some [.int .u8 0] := by kernel_rfl
@[go_sem] theorem tya_s_187 : tSz Tryz.prog 187 = some (false, 1) := by kernel_rfl
@[go_sem] theorem tya_z_187 : tZero Tryz.prog 187 = some [.raw (.pointer none)] := by kernel_rfl
@[go_sem] theorem tya_s_188 : tSz Tryz.prog 188 = some (false, 1) := by kernel_rfl
@[go_sem] theorem tya_zi_188 : tZI Tryz.prog 188 = some (.i32, 0) := by kernel_rfl
@[go_sem] theorem tya_i_188 : tInt Tryz.prog 188 = some .i32 := by kernel_rfl
@[go_sem] theorem tya_z_188 : tZero Tryz.prog 188 = some [.int .i32 0] := by kernel_rfl
@[go_sem] theorem tya_s_189 : tSz Tryz.prog 189 = some (false, 1) := by kernel_rfl
@[go_sem] theorem tya_zi_189 : tZI Tryz.prog 189 = some (.i32, 0) := by kernel_rfl
@[go_sem] theorem tya_i_189 : tInt Tryz.prog 189 = some .i32 := by kernel_rfl
@[go_sem] theorem tya_z_189 : tZero Tryz.prog 189 = some [.int .i32 0] := by kernel_rfl
@[go_sem] theorem tya_s_190 : tSz Tryz.prog 190 = some (true, 11) := by kernel_rfl
@[go_sem] theorem tya_fl_190 : tFlds Tryz.prog 190 = some [(0, 1), (1, 1), (2, 1), (3, 1), (4, 1), (5, 1), (6, 1), (7, 1), (8, 1), (9, 1), (10, 1)] := by kernel_rfl
@[go_sem] theorem tya_f0_190 : tFld Tryz.prog 190 0 = some 0 := by kernel_rfl
@[go_sem] theorem tya_f1_190 : tFld Tryz.prog 190 1 = some 1 := by kernel_rfl
@[go_sem] theorem tya_f2_190 : tFld Tryz.prog 190 2 = some 2 := by kernel_rfl
@[go_sem] theorem tya_f3_190 : tFld Tryz.prog 190 3 = some 3 := by kernel_rfl
@[go_sem] theorem tya_f4_190 : tFld Tryz.prog 190 4 = some 4 := by kernel_rfl
@[go_sem] theorem tya_f5_190 : tFld Tryz.prog 190 5 = some 5 := by kernel_rfl
@[go_sem] theorem tya_f6_190 : tFld Tryz.prog 190 6 = some 6 := by kernel_rfl
@[go_sem] theorem tya_f7_190 : tFld Tryz.prog 190 7 = some 7 := by kernel_rfl
@[go_sem] theorem tya_f8_190 : tFld Tryz.prog 190 8 = some 8 := by kernel_rfl
@[go_sem] theorem tya_f9_190 : tFld Tryz.prog 190 9 = some 9 := by kernel_rfl
@[go_sem] theorem tya_f10_190 : tFld Tryz.prog 190 10 = some 10 := by kernel_rfl
@[go_sem] theorem tya_z_190 : tZero Tryz.prog 190 = some [.int .u64 0, .int .u64 0, .int .u32 0, .int .u8 0, .int .u8 0, .int .u8 0, .int .u8 0, .raw .nilFunc, .raw (.pointer none), .int .i32 0, .int .i32 0] := by kernel_rfl
@[go_sem] theorem tya_s_191 : tSz Tryz.prog 191 = some (true, 11) := by kernel_rfl
@[go_sem] theorem tya_fl_191 : tFlds Tryz.prog 191 = some [(0, 1), (1, 1), (2, 1), (3, 1), (4, 1), (5, 1), (6, 1), (7, 1), (8, 1), (9, 1), (10, 1)] := by kernel_rfl
@[go_sem] theorem tya_f0_191 : tFld Tryz.prog 191 0 = some 0 := by kernel_rfl
@[go_sem] theorem tya_f1_191 : tFld Tryz.prog 191 1 = some 1 := by kernel_rfl
@[go_sem] theorem tya_f2_191 : tFld Tryz.prog 191 2 = some 2 := by kernel_rfl
@[go_sem] theorem tya_f3_191 : tFld Tryz.prog 191 3 = some 3 := by kernel_rfl
@[go_sem] theorem tya_f4_191 : tFld Tryz.prog 191 4 = some 4 := by kernel_rfl
@[go_sem] theorem tya_f5_191 : tFld Tryz.prog 191 5 = some 5 := by kernel_rfl
@[go_sem] theorem tya_f6_191 : tFld Tryz.prog 191 6 = some 6 := by kernel_rfl
@[go_sem] theorem tya_f7_191 : tFld Tryz.prog 191 7 = some 7 := by kernel_rfl
@[go_sem] theorem tya_f8_191 : tFld Tryz.prog 191 8 = some 8 := by kernel_rfl
@[go_sem] theorem tya_f9_191 : tFld Tryz.prog 191 9 = some 9 := by kernel_rfl
@[go_sem] theorem tya_f10_191 : tFld Tryz.prog 191 10 = some 10 := by kernel_rfl
@[go_sem] theorem tya_z_191 : tZero Tryz.prog 191 = some [.int .u64 0, .int .u64 0, .int .u32 0, .int .u8 0, .int .u8 0, .int .u8 0, .int .u8 0, .raw .nilFunc, .raw (.pointer none), .int .i32 0, .int .i32 0] := by kernel_rfl
@[go_sem] theorem tya_s_192 : tSz Tryz.prog 192 = some (false, 1) := by kernel_rfl
@[go_sem] theorem tya_z_192 : tZero Tryz.prog 192 = some [.raw (.pointer none)] := by kernel_rfl
end Go.Proofs.YtcoflhkcpnoaaaaGreat
namespace Go.Proofs.YtcoflhkcpnoaaaaGreat
open Go.AI Go.PN
attribute [local irreducible] aw Fa Fh DrK
theorem wf_mono {r : RD} {L M : Nat} (h : r.wf L) (hm : L ≤ M) : r.wf M := ⟨h.1, h.2.1, Nat.le_trans h.2.2.1 hm, Nat.le_trans h.2.2.2 hm⟩
end Go.Proofs.YtcoflhkcpnoaaaaGreat
namespace Go.Proofs.YtcoflhkcpnoaaaaGreat
open Go.AI Go.PN
attribute [local irreducible] aw Fa Fh DrK
theorem some_ne {g : Nat} {n : Nat} : (some g : Option Nat) = none → n = 0 := fun e => by cases e
end Go.Proofs.YtcoflhkcpnoaaaaGreat
namespace Go.AI
open Go.PN
def isF (xs : List Int) (j : Nat) : CV := .int .i64 (xs.getD j 0)
@[go_sem] theorem isF_at (xs : List Int) (j : Nat) : isF xs j = .int .i64 (xs.getD j 0) := rfl
abbrev is (t : Bool) (xs : List Int) : CV := .row t 1 xs.length (isF xs)
def bsF (xs : List Bool) (j : Nat) : CV := .bool (xs.getD j false)
@[go_sem] theorem bsF_at (xs : List Bool) (j : Nat) : bsF xs j = .bool (xs.getD j false) := rfl
abbrev bs (t : Bool) (xs : List Bool) : CV := .row t 1 xs.length (bsF xs)
def rd0 : RD := ⟨false, [], []⟩
def ratsF (ps : List RD) : Nat → CV := lf 3 (fun r : RD => [CV.bool r.neg, ws true r.num, ws true r.den]) rd0 ps
@[go_sem] theorem ratsF_0 (ps : List RD) (i : Nat) : ratsF ps (i * 3) = .bool (ps.getD i rd0).neg := by
  have := lf_at (s := 3) (c := fun r : RD => [CV.bool r.neg, ws true r.num, ws true r.den]) (d := rd0) (xs := ps) (i := i) (k := 0) (by omega)
  exact this
@[go_sem] theorem ratsF_1 (ps : List RD) (i : Nat) : ratsF ps (i * 3 + 1) = ws true (ps.getD i rd0).num := by
  have := lf_at (s := 3) (c := fun r : RD => [CV.bool r.neg, ws true r.num, ws true r.den]) (d := rd0) (xs := ps) (i := i) (k := 1) (by omega)
  exact this
@[go_sem] theorem ratsF_2 (ps : List RD) (i : Nat) : ratsF ps (i * 3 + 2) = ws true (ps.getD i rd0).den := by
  have := lf_at (s := 3) (c := fun r : RD => [CV.bool r.neg, ws true r.num, ws true r.den]) (d := rd0) (xs := ps) (i := i) (k := 2) (by omega)
  exact this
structure DN where
  v : Int
  lo : Int
  hi : Int
  deriving DecidableEq
def dn0 : DN := ⟨0, 0, 0⟩
def dnsF (ns : List DN) : Nat → CV := lf 3 (fun r : DN => [CV.int .i64 r.v, .int .i64 r.lo, .int .i64 r.hi]) dn0 ns
@[go_sem] theorem dnsF_0 (ps : List DN) (i : Nat) : dnsF ps (i * 3) = .int .i64 (ps.getD i dn0).v := by
  have := lf_at (s := 3) (c := fun r : DN => [CV.int .i64 r.v, .int .i64 r.lo, .int .i64 r.hi]) (d := dn0) (xs := ps) (i := i) (k := 0) (by omega)
  exact this
@[go_sem] theorem dnsF_1 (ps : List DN) (i : Nat) : dnsF ps (i * 3 + 1) = .int .i64 (ps.getD i dn0).lo := by
  have := lf_at (s := 3) (c := fun r : DN => [CV.int .i64 r.v, .int .i64 r.lo, .int .i64 r.hi]) (d := dn0) (xs := ps) (i := i) (k := 1) (by omega)
  exact this
@[go_sem] theorem dnsF_2 (ps : List DN) (i : Nat) : dnsF ps (i * 3 + 2) = .int .i64 (ps.getD i dn0).hi := by
  have := lf_at (s := 3) (c := fun r : DN => [CV.int .i64 r.v, .int .i64 r.lo, .int .i64 r.hi]) (d := dn0) (xs := ps) (i := i) (k := 2) (by omega)
  exact this
abbrev dns (t : Bool) (ns : List DN) : CV := .row t 3 ns.length (dnsF ns)
structure DG where
  order : List Int
  nodes : List DN
  root : Int
abbrev dgc (t : Bool) (d : DG) : List CV := [is t d.order, dns t d.nodes, .int .i64 d.root]
structure FN where
  kind : Int
  k : Int
  args : List Int
def fn0 : FN := ⟨0, 0, []⟩
def fnsF (ns : List FN) : Nat → CV := lf 3 (fun r : FN => [CV.int .i64 r.kind, .int .i64 r.k, is true r.args]) fn0 ns
@[go_sem] theorem fnsF_0 (ps : List FN) (i : Nat) : fnsF ps (i * 3) = .int .i64 (ps.getD i fn0).kind := by
  have := lf_at (s := 3) (c := fun r : FN => [CV.int .i64 r.kind, .int .i64 r.k, is true r.args]) (d := fn0) (xs := ps) (i := i) (k := 0) (by omega)
  exact this
@[go_sem] theorem fnsF_1 (ps : List FN) (i : Nat) : fnsF ps (i * 3 + 1) = .int .i64 (ps.getD i fn0).k := by
  have := lf_at (s := 3) (c := fun r : FN => [CV.int .i64 r.kind, .int .i64 r.k, is true r.args]) (d := fn0) (xs := ps) (i := i) (k := 1) (by omega)
  exact this
@[go_sem] theorem fnsF_2 (ps : List FN) (i : Nat) : fnsF ps (i * 3 + 2) = is true (ps.getD i fn0).args := by
  have := lf_at (s := 3) (c := fun r : FN => [CV.int .i64 r.kind, .int .i64 r.k, is true r.args]) (d := fn0) (xs := ps) (i := i) (k := 2) (by omega)
  exact this
abbrev fns (t : Bool) (ns : List FN) : CV := .row t 3 ns.length (fnsF ns)
structure FM where
  vars : Int
  nodes : List FN
  top : Int
abbrev fmc (t : Bool) (f : FM) : List CV := [.int .i64 f.vars, fns t f.nodes, .int .i64 f.top]
def errC (T : TypeId) (c : Int) : CV := if c = 0 then .nilI else .ifc T (.int .i64 c)
@[go_sem] theorem errC_solid (T : TypeId) (c : Int) : (errC T c).solid = true := by unfold errC; split <;> rfl
theorem binAV_errE {P : Program} {nw : Bool} {t T : TypeId} {y : Operand} {c : Int} (hy : isNil y = true) : binAV P nw .eql t y (.c (errC T c)) (.c .nilI) = some (tIfc P t = true, .c (.bool (decide (c = 0)))) := by
  unfold errC
  split
  · rename_i h; simp [binAV, hy, nilAV, h]
  · rename_i h; simp [binAV, hy, nilAV, h]
theorem binAV_errN {P : Program} {nw : Bool} {t T : TypeId} {y : Operand} {c : Int} (hy : isNil y = true) : binAV P nw .neq t y (.c (errC T c)) (.c .nilI) = some (tIfc P t = true, .c (.bool (!decide (c = 0)))) := by
  unfold errC
  split
  · rename_i h; simp [binAV, hy, nilAV, h]
  · rename_i h; simp [binAV, hy, nilAV, h]
@[go_sem ↓] theorem binAV_errE' (P : Program) (nw : Bool) (t T : TypeId) (c : Int) : binAV P nw .eql t (.const .nilIface) (.c (errC T c)) (.c .nilI) = some (tIfc P t = true, .c (.bool (decide (c = 0)))) := binAV_errE rfl
@[go_sem ↓] theorem binAV_errN' (P : Program) (nw : Bool) (t T : TypeId) (c : Int) : binAV P nw .neq t (.const .nilIface) (.c (errC T c)) (.c .nilI) = some (tIfc P t = true, .c (.bool (!decide (c = 0)))) := binAV_errN rfl
theorem ler_err {h : Heap} {T : TypeId} {c : Int} : LeR h (errC T c) (errC T c) := by unfold errC; split; exact .nilI; exact .ifc (.int _ _)
theorem ler_err0 {h : Heap} {T : TypeId} {c : Int} (e : c = 0) : LeR h .nilI (errC T c) := by unfold errC; rw [if_pos e]; exact .nilI
theorem ler_errN {h : Heap} {T : TypeId} {n c : Int} (e : n = c) (h0 : c ≠ 0) : LeR h (.ifc T (.int .i64 n)) (errC T c) := by unfold errC; rw [if_neg h0, e]; exact .ifc (.int _ _)
theorem ler_is {h : Heap} {t : Bool} {xs : List Int} : LeR h (is true xs) (is t xs) := .row fun _ _ => .int _ _
theorem lf_ler {α : Type} {h : Heap} {s : Nat} {c : α → List CV} {d : α} {xs : List α} (hs : 0 < s) (hc : ∀ x ∈ xs, ∀ k, k < s → LeR h (ofL (c x) k) (ofL (c x) k)) : ∀ j, j < xs.length * s → LeR h (lf s c d xs j) (lf s c d xs j) := fun j hj => by
  unfold lf
  have h1 : j / s < xs.length := (Nat.div_lt_iff_lt_mul hs).2 hj
  rw [List.getD_eq_getElem?_getD, List.getElem?_eq_getElem h1]
  exact hc _ (List.getElem_mem h1) _ (Nat.mod_lt _ hs)
theorem ler_dns {h : Heap} {t : Bool} {ps : List DN} : LeR h (dns true ps) (dns t ps) :=
  .row (lf_ler (by omega) fun x _ k hk => by match k, hk with | 0, _ => exact .int _ _ | 1, _ => exact .int _ _ | 2, _ => exact .int _ _)
end Go.AI
namespace Go.Proofs.YtcoflhkcpnoaaaaGreat
open Go.AI Go.PN
attribute [local irreducible] aw Fa Fh DrK
abbrev errA (c : Int) : CV := errC 63 c
instance : DecidableEq RD := fun a b => decidable_of_iff (a.neg = b.neg ∧ a.num = b.num ∧ a.den = b.den) (by cases a; cases b; simp)
end Go.Proofs.YtcoflhkcpnoaaaaGreat
namespace Go.AI
open Go.PN
def AllB (w : World) : Bool → Nat → Prop := fun _ b => b < w.heap.size
theorem Fa.below {P : Program} {f : FuncId} {args : List AV} {b : Bool} (hf : Fa P f args (.c (.bool b))) {w : World} {vs : List Value} (hr : RepT (AllB w) w args vs) :
    Calls P f vs.toArray w fun e w' => e = .returned (.bool b) ∧ RowKit.Below w.heap.size w w' := by
  refine (hf.2 (AllB w) w vs (fun _ h => h) (fun _ _ h => h) hr).mono ?_
  rintro e w' ⟨v, rfl, hv, hfr⟩
  have hv' : v = .bool b := hv
  subst hv'
  exact ⟨rfl, hfr.os, hfr.tape, hfr.output, hfr.size, fun k hk => hfr.block k hk (fun x => x)⟩
end Go.AI
namespace Go.Proofs.YtcoflhkcpnoaaaaGreat
open Go.AI Go.PN Go.ChangeShapes
section
variable {P : Program}
def Rdr (P : Program) (t : TypeId) {α : Type} (c : α → List CV) (B : α → Nat → Prop) : Prop :=
  ∀ (H : Type) (enc : TypeId × Value → H) (w : World) (fuel : Nat) (cs : List Value) (x : DataW H × List MemPlace), DataW.trod enc P w 0 (fun _ => true) true fuel t cs = some x → ∃ y, RepL (AllB w) w (c y) cs ∧ B y (Rows.uptoBulk x.1)
theorem rdr_int {t : TypeId} {k : IntKind} (ht : P.underlying t = some (.int k)) : Rdr P t (fun n : Int => [.int k n]) (fun n _ => (Lit.int k n).wf = true) := fun H enc w fuel cs x h => by
  obtain ⟨n, rfl, rfl, hw⟩ := DataW.trod_int ht h
  exact ⟨n, ⟨rfl, trivial⟩, hw⟩
theorem bulk_mem {H : Type} {d : DataW H} : ∀ {l : List (DataW H)}, d ∈ l → Rows.uptoBulk d ≤ Rows.uptoBulkAll l
  | x :: r, h => by
    simp only [Rows.uptoBulkAll]
    cases List.mem_cons.1 h with
    | inl e => subst e; omega
    | inr e => have := bulk_mem e; omega
theorem bulk_one {H : Type} (d : DataW H) : 1 ≤ Rows.uptoBulk d := by
  cases d with
  | lit l => cases l <;> simp [Rows.uptoBulk]
  | nil => simp [Rows.uptoBulk]
  | ptr d => simp [Rows.uptoBulk]
  | slice elems spare => simp [Rows.uptoBulk]
  | agg parts => simp [Rows.uptoBulk]
  | iface t d => simp [Rows.uptoBulk]
  | map entries => simp [Rows.uptoBulk]
  | held h => simp [Rows.uptoBulk]
theorem bulk_len {H : Type} : ∀ (l : List (DataW H)), l.length ≤ Rows.uptoBulkAll l
  | [] => by simp [Rows.uptoBulkAll]
  | x :: r => by have := bulk_one x; have := bulk_len r; simp only [Rows.uptoBulkAll, List.length_cons]; omega
theorem rdr_slice {t e : TypeId} {α : Type} {c : α → List CV} {B : α → Nat → Prop} {s : Nat} (z : α) (tg : Bool) (ht : P.underlying t = some (.slice e)) (hs : P.cellsOf e = s) (hs0 : 0 < s) (hB : ∀ y m n, B y m → m ≤ n → B y n) (hr : Rdr P e c B) :
    Rdr P t (fun ys : List α => [CV.row tg s ys.length (lf s c z ys)]) (fun ys n => ys.length ≤ n ∧ ∀ y ∈ ys, B y n) := fun H enc w fuel cs x h => by
  rcases DataW.trod_slice ht h with ⟨rfl, rfl⟩ | ⟨a, len, cap, elems, rest, n, rfl, rfl, rfl, _, hlc, _, hlen, hel, _, _⟩
  · exact ⟨[], ⟨⟨none, 0, rfl, Nat.le_refl _, fun h0 => by simp at h0⟩, trivial⟩, by simp, by simp⟩
  · have key : ∀ i, ∃ y : α, i < len → ∃ d ∈ elems.map (·.1), B y (Rows.uptoBulk d) ∧ ∀ k, k < s → ∃ u, w.cell? (a.add (i * s + k)) = some u ∧ RepC (AllB w) w (ofL (c y) k) u := by
      intro i
      by_cases hi : i < len
      · have h1 := hel i hi
        have h2 : i < elems.length := by omega
        rw [List.getElem?_eq_getElem h2, hs] at h1
        obtain ⟨us, hus, htr⟩ := Option.bind_eq_some_iff.1 h1
        obtain ⟨y, hy, hb⟩ := hr H enc w n us _ htr
        obtain ⟨_, hul, hue⟩ := World.cells?_some hus
        refine ⟨y, fun _ => ⟨_, List.mem_map.2 ⟨_, List.getElem_mem h2, rfl⟩, hb, fun k hk => ?_⟩⟩
        have hlen2 := hy.length
        obtain ⟨u, hu, hru⟩ := hy.get k ((c y)[k]'(by omega)) (List.getElem?_eq_getElem (by omega))
        refine ⟨u, ?_, by rw [ofL_get (c y) k _ (List.getElem?_eq_getElem (by omega))]; exact hru⟩
        rw [← add_add]
        exact (hue k hk).trans hu
      · exact ⟨z, fun h => absurd h hi⟩
    obtain ⟨g, hg⟩ : ∃ g : Nat → α, ∀ i, i < len → ∃ d ∈ elems.map (·.1), B (g i) (Rows.uptoBulk d) ∧ ∀ k, k < s → ∃ u, w.cell? (a.add (i * s + k)) = some u ∧ RepC (AllB w) w (ofL (c (g i)) k) u := ⟨fun i => Classical.choose (key i), fun i => Classical.choose_spec (key i)⟩
    have hbl : ∀ d ∈ elems.map (·.1), Rows.uptoBulk d ≤ Rows.uptoBulk (.slice (elems.map (·.1)) (rest.map (·.1))) := fun d hd => by
      have := bulk_mem hd
      simp only [Rows.uptoBulk]; omega
    refine ⟨(List.range len).map g, ⟨⟨some a, cap, by simp, by simpa using hlc, fun h0 => ⟨a, rfl, ?_, fun j hj => ?_⟩⟩, trivial⟩, ?_, fun y hy => ?_⟩
    · simp only [List.length_map, List.length_range] at h0
      have hl0 : 0 < len := Nat.pos_of_ne_zero (fun e => by subst e; simp at h0)
      obtain ⟨_, _, _, hk⟩ := hg 0 hl0
      obtain ⟨u, hu, _⟩ := hk 0 hs0
      have hb := AI.block_add a (0 * s + 0)
      unfold World.cell? at hu
      rw [hb] at hu
      show a.block < w.heap.size
      by_cases hlt : a.block < w.heap.size
      · exact hlt
      · rw [Array.getElem?_eq_none (by omega)] at hu
        cases hu
    · simp only [List.length_map, List.length_range] at hj
      have hi : j / s < len := (Nat.div_lt_iff_lt_mul hs0).2 hj
      obtain ⟨_, _, _, hk⟩ := hg (j / s) hi
      obtain ⟨u, hu, hru⟩ := hk (j % s) (Nat.mod_lt _ hs0)
      refine ⟨u, ?_, ?_⟩
      · rw [Nat.mul_comm, Nat.div_add_mod] at hu; exact hu
      · unfold lf
        rw [List.getD_eq_getElem?_getD]
        simpa [hi] using hru
    · rw [List.length_map, List.length_range]
      have := bulk_len (elems.map (·.1))
      simp only [Rows.uptoBulk]
      rw [List.length_map] at this
      omega
    · obtain ⟨i, hi, rfl⟩ := List.mem_map.1 hy
      obtain ⟨d, hd, hb, _⟩ := hg i (List.mem_range.1 hi)
      exact hB _ _ _ hb (hbl d hd)
theorem Rdr.to {t : TypeId} {α β : Type} {c : α → List CV} {c' : β → List CV} {B : α → Nat → Prop} {B' : β → Nat → Prop} (hr : Rdr P t c B) (f : α → β) (hc : ∀ y, c' (f y) = c y) (hB : ∀ y n, B y n → B' (f y) n) : Rdr P t c' B' := fun H enc w fuel cs x h => by
  obtain ⟨y, h1, h2⟩ := hr H enc w fuel cs x h
  exact ⟨f y, by rw [hc]; exact h1, hB _ _ h2⟩
end
end Go.Proofs.YtcoflhkcpnoaaaaGreat
namespace Go.PN
def RD.prob (r : RD) : Bool := r.valid && decide (0 ≤ r.q) && decide (r.q ≤ 1)
end Go.PN

namespace Go.PN
open Go.AI
theorem andZ_nat (x y : Nat) (hx : x < 9223372036854775808) (hy : y < 9223372036854775808) : andZ .i64 (x : Int) (y : Int) = ((x &&& y : Nat) : Int) := by
  rw [andZ_eq]
  show IntKind.i64.wrap (((BitVec.ofInt 64 (x : Int) &&& BitVec.ofInt 64 (y : Int)).toNat : Nat) : Int) = _
  have : (BitVec.ofInt 64 (x : Int) &&& BitVec.ofInt 64 (y : Int)).toNat = x &&& y := by
    rw [BitVec.toNat_and]
    have e1 : ∀ z : Nat, z < 9223372036854775808 → (BitVec.ofInt 64 (z : Int)).toNat = z := fun z hz => by rw [BitVec.ofInt_natCast, BitVec.toNat_ofNat]; omega
    rw [e1 x hx, e1 y hy]
  have hlt : x &&& y < 9223372036854775808 := Nat.lt_of_le_of_lt Nat.and_le_left hx
  rw [this, IntKind.wrap_i64]; omega
theorem orZ_nat (x y : Nat) (hx : x < 9223372036854775808) (hy : y < 9223372036854775808) : orZ .i64 (x : Int) (y : Int) = ((x ||| y : Nat) : Int) := by
  rw [orZ_eq]
  show IntKind.i64.wrap (((BitVec.ofInt 64 (x : Int) ||| BitVec.ofInt 64 (y : Int)).toNat : Nat) : Int) = _
  have : (BitVec.ofInt 64 (x : Int) ||| BitVec.ofInt 64 (y : Int)).toNat = x ||| y := by
    rw [BitVec.toNat_or]
    have e1 : ∀ z : Nat, z < 9223372036854775808 → (BitVec.ofInt 64 (z : Int)).toNat = z := fun z hz => by rw [BitVec.ofInt_natCast, BitVec.toNat_ofNat]; omega
    rw [e1 x hx, e1 y hy]
  have hlt : x ||| y < 2 ^ 63 := Nat.or_lt_two_pow hx hy
  rw [this, IntKind.wrap_i64]; omega
theorem and_one_nat (x : Nat) (hx : x < 9223372036854775808) : andZ .i64 (x : Int) 1 = ((x % 2 : Nat) : Int) := by
  have := andZ_nat x 1 hx (by omega)
  rw [Nat.and_one_is_mod] at this
  exact this
theorem shrZ_nat (x n : Nat) (hn : n ≤ 64) : shrZ .i64 (x : Int) (n : Int) = ((x / 2 ^ n : Nat) : Int) := by
  rw [shrZ_eq]
  have h1 : min (n : Int).toNat IntKind.i64.bits = n := by show min (n : Int).toNat 64 = n; omega
  rw [h1, Int.fdiv_eq_ediv_of_nonneg _ (by exact Int.le_of_lt (Int.pow_pos (by omega)))]
  rw [Int.natCast_ediv, Int.natCast_pow]; rfl
theorem shl_one (n : Nat) (hn : n < 63) : shlZ .i64 1 (n : Int) = ((2 ^ n : Nat) : Int) := by
  rw [shlZ_eq]
  have h1 : min (n : Int).toNat IntKind.i64.bits = n := by show min (n : Int).toNat 64 = n; omega
  have h2 : 2 ^ n < 9223372036854775808 := by
    have h3 : 2 ^ n < 2 ^ 63 := Nat.pow_lt_pow_right (by omega) hn
    have h4 : (2 : Nat) ^ 63 = 9223372036854775808 := by decide
    rw [h4] at h3; exact h3
  rw [h1, Int.one_mul, wrap_inRange (k := .i64)]
  · rw [Int.natCast_pow]; rfl
  · simp only [inRange]
    have : ((2 : Int) ^ n) = ((2 ^ n : Nat) : Int) := by rw [Int.natCast_pow]; rfl
    rw [this]
    generalize 2 ^ n = z at h2
    omega
theorem bit_eq (x n : Nat) : (((x / 2 ^ n % 2 : Nat) : Int) == 1) = x.testBit n := by
  rw [Nat.testBit_eq_decide_div_mod_eq, Bool.eq_iff_iff]
  simp only [beq_iff_eq, decide_eq_true_eq]
  omega
end Go.PN
namespace Go.AI
theorem updF_ofL {xs bs : List CV} (h : xs.length = bs.length) : updF (ofL xs) 0 bs = ofL bs := by
  funext j
  by_cases hj : j < bs.length
  · have := updF_in bs (ofL xs) 0 j hj
    rw [Nat.zero_add] at this
    exact this
  · rw [updF_out _ _ _ _ (by omega), ofL_at, ofL_at, List.getElem?_eq_none (by omega), List.getElem?_eq_none (by omega)]
@[go_sem ↓] theorem updF_1 (a b : CV) : updF (ofL [a]) 0 [b] = ofL [b] := updF_ofL rfl
@[go_sem ↓] theorem updF_2 (a b c d : CV) : updF (ofL [a, b]) 0 [c, d] = ofL [c, d] := updF_ofL rfl
@[go_sem ↓] theorem updF_3 (a b c x y z : CV) : updF (ofL [a, b, c]) 0 [x, y, z] = ofL [x, y, z] := updF_ofL rfl
end Go.AI
namespace Go.PN
open Go.AI
structure NodeOk (m k : Nat) (n : DN) : Prop where
  v0 : 0 ≤ n.v
  v1 : n.v < m
  l0 : 0 ≤ n.lo
  l1 : n.lo < k + 2
  h0 : 0 ≤ n.hi
  h1 : n.hi < k + 2
end Go.PN
namespace Go.Proofs.YtcoflhkcpnoaaaaGreat
open Go.AI Go.PN
attribute [local irreducible] aw Fa Fh DrK
abbrev dnc (n : DN) : List CV := [.int .i64 n.v, .int .i64 n.lo, .int .i64 n.hi]
end Go.Proofs.YtcoflhkcpnoaaaaGreat
namespace Go.PN
open Go.AI
def evalF (ns : List DN) (s : Nat) : Nat → Int → Bool
  | 0, r => decide (r = 1)
  | k + 1, r => if r ≤ 1 then decide (r = 1) else evalF ns s k (if s.testBit (ns.getD (r - 2).toNat dn0).v.toNat then (ns.getD (r - 2).toNat dn0).hi else (ns.getD (r - 2).toNat dn0).lo)
def evalD (ns : List DN) (s : Nat) (r : Int) : Bool := evalF ns s r.toNat r
def NsOk (m : Nat) (ns : List DN) : Prop := ∀ i, i < ns.length → NodeOk m i (ns.getD i dn0)
def kid (ns : List DN) (s : Nat) (r : Int) : Int := if s.testBit (ns.getD (r - 2).toNat dn0).v.toNat then (ns.getD (r - 2).toNat dn0).hi else (ns.getD (r - 2).toNat dn0).lo
theorem kid_lt {m : Nat} {ns : List DN} (h : NsOk m ns) {s : Nat} {r : Int} (h2 : 2 ≤ r) (hr : r < ns.length + 2) : 0 ≤ kid ns s r ∧ kid ns s r < r := by
  have := h (r - 2).toNat (by omega)
  obtain ⟨_, _, l0, l1, h0, h1⟩ := this
  unfold kid
  split <;> omega
theorem evalF_fuel {m : Nat} {ns : List DN} (h : NsOk m ns) {s : Nat} : ∀ (k : Nat) (r : Int), 0 ≤ r → r < ns.length + 2 → r.toNat ≤ k → evalF ns s k r = evalF ns s r.toNat r
  | 0, r, h0, _, hk => by rw [show r.toNat = 0 from by omega]
  | k + 1, r, h0, hr, hk => by
    by_cases h1 : r ≤ 1
    · rw [evalF, if_pos h1]
      cases hrn : r.toNat with
      | zero => rfl
      | succ j => rw [evalF, if_pos h1]
    · obtain ⟨j, hj⟩ : ∃ j, r.toNat = j + 1 := ⟨r.toNat - 1, by omega⟩
      rw [hj, evalF, if_neg h1, evalF, if_neg h1]
      have hkid := kid_lt h (s := s) (by omega) hr
      show evalF ns s k (kid ns s r) = evalF ns s j (kid ns s r)
      rw [evalF_fuel h k _ hkid.1 (by omega) (by omega), evalF_fuel h j _ hkid.1 (by omega) (by omega)]
termination_by k => k
decreasing_by all_goals omega
theorem evalD_leaf {ns : List DN} {s : Nat} {r : Int} (h1 : r ≤ 1) : evalD ns s r = decide (r = 1) := by
  unfold evalD
  cases hrn : r.toNat with
  | zero => rfl
  | succ j => rw [evalF, if_pos h1]
theorem evalD_step {m : Nat} {ns : List DN} (h : NsOk m ns) {s : Nat} {r : Int} (h2 : 2 ≤ r) (hr : r < ns.length + 2) : evalD ns s r = evalD ns s (kid ns s r) := by
  unfold evalD
  obtain ⟨j, hj⟩ : ∃ j, r.toNat = j + 1 := ⟨r.toNat - 1, by omega⟩
  rw [hj, evalF, if_neg (by omega)]
  have hkid := kid_lt h (s := s) h2 hr
  show evalF ns s j (kid ns s r) = _
  exact evalF_fuel h j _ hkid.1 (by omega) (by omega)
end Go.PN
namespace Go.AI
section
variable {E : Env} {K : List It} {σ : Sl}
theorem aw_convR {g n : Nat} {ty : TypeId} {f f' : Nat → CV} {h : Heap} (hf : ∀ j, j < n → ∀ S w u, RepC S w (f j) u → RepC S w (f' j) u) (k : aw E K σ ((g, .cells ty n f') :: h)) : aw E K σ ((g, .cells ty n f) :: h) := fun a w s => by
  refine k a w ⟨s.size, s.defers, s.slots, fun g' o' hm => ?_, s.nodup, s.keys, s.frame⟩
  rcases List.mem_cons.1 hm with e | hm
  · injection e with e1 e2
    subst e1 e2
    obtain ⟨cs, hb, hc, hj⟩ := s.heap _ _ (List.mem_cons_self ..)
    exact ⟨cs, hb, hc, fun j hjl => by obtain ⟨u, hu, hr⟩ := hj j hjl; exact ⟨u, hu, hf j hjl _ _ _ hr⟩⟩
  · exact s.heap g' o' (List.mem_cons_of_mem _ hm)
end
theorem repC_nil {S : Bool → Nat → Prop} {w : World} {u : Value} {t : Bool} {s : Nat} {f : Nat → CV} (h : RepC S w .nils u) : RepC S w (.row t s 0 f) u := by
  obtain ⟨A, hv⟩ := h
  exact ⟨A, 0, hv, Nat.le_refl _, fun h0 => by simp at h0⟩
theorem bs_push {zs : List Bool} {n : Nat} (hn : zs.length = n) (x : Bool) : ∀ j, j < (n + 1) * 1 → appF (bsF zs) (n * 1) (ofL [.bool x]) j = bsF (zs ++ [x]) j := fun j hj => by
  subst hn
  unfold appF
  by_cases h : j < zs.length * 1
  · rw [if_pos h]
    show CV.bool (zs.getD j false) = CV.bool ((zs ++ [x]).getD j false)
    rw [List.getD_eq_getElem?_getD, List.getD_eq_getElem?_getD, List.getElem?_append_left (by omega)]
  · have : j = zs.length := by omega
    subst this
    rw [if_neg h]
    show ofL [CV.bool x] (zs.length - zs.length * 1) = CV.bool ((zs ++ [x]).getD zs.length false)
    rw [Nat.mul_one, Nat.sub_self, List.getD_eq_getElem?_getD, List.getElem?_append_right (Nat.le_refl _), Nat.sub_self]
    rfl
theorem is_push {zs : List Int} {n : Nat} (hn : zs.length = n) (x : Int) : ∀ j, j < (n + 1) * 1 → appF (isF zs) (n * 1) (ofL [.int .i64 x]) j = isF (zs ++ [x]) j := fun j hj => by
  subst hn
  unfold appF
  by_cases h : j < zs.length * 1
  · rw [if_pos h]
    show CV.int .i64 (zs.getD j 0) = CV.int .i64 ((zs ++ [x]).getD j 0)
    rw [List.getD_eq_getElem?_getD, List.getD_eq_getElem?_getD, List.getElem?_append_left (by omega)]
  · have : j = zs.length := by omega
    subst this
    rw [if_neg h]
    show ofL [CV.int .i64 x] (zs.length - zs.length * 1) = CV.int .i64 ((zs ++ [x]).getD zs.length 0)
    rw [Nat.mul_one, Nat.sub_self, List.getD_eq_getElem?_getD, List.getElem?_append_right (Nat.le_refl _), Nat.sub_self]
    rfl
theorem ler_gsb {pre : Heap} {og : Option Nat} {e n : Nat} {t : Bool} {zs : List Bool} (hog : og = none → n = 0) (hn : ∀ g, og = some g → g ∉ pre.keys) (hl : zs.length = n) : LeR (pre ++ gh og e n (bsF zs)) (gs og 1 n) (bs t zs) := by
  subst hl
  have := ler_gs (pre := pre) (og := og) (e := e) (s := 1) (n := zs.length) (t := t) (f := bsF zs) (f' := bsF zs) hog hn (fun j _ => .bool _)
  simpa only [Nat.mul_one] using this
end Go.AI
namespace Go.PN
def oscan (vars : Int) (seen : List Int) : List Int → Int
  | [] => 0
  | x :: xs => if x < 0 ∨ vars ≤ x then 3 else if x ∈ seen then 6 else oscan vars (seen ++ [x]) xs
def ocode (o : List Int) (vars : Int) : Int := if vars < 0 ∨ 24 < vars then 3 else if (o.length : Int) ≠ vars then 11 else oscan vars [] o
def placeZ (l : List Int) (n : Int) : Int := if n ∈ l then (l.idxOf n : Int) else -1
theorem getDZ {xs : List Int} {i : Nat} (h : i < xs.length) : xs.getD i 0 = xs[i] := by
  rw [List.getD_eq_getElem?_getD, List.getElem?_eq_getElem h]; rfl
theorem oscan_step {vars : Int} {o : List Int} {i : Nat} (h : i < o.length) : oscan vars (o.take i) (o.drop i) = if o.getD i 0 < 0 ∨ vars ≤ o.getD i 0 then 3 else if o.getD i 0 ∈ o.take i then 6 else oscan vars (o.take (i + 1)) (o.drop (i + 1)) := by
  rw [List.drop_eq_getElem_cons h, oscan, getDZ h, List.take_succ_eq_append_getElem h]
structure Perm0 (o : List Int) : Prop where
  range : ∀ x ∈ o, 0 ≤ x ∧ x < o.length
  nodup : o.Nodup
theorem oscan_ok {vars : Int} : ∀ (o seen : List Int), oscan vars seen o = 0 → seen.Nodup → (∀ x ∈ o, 0 ≤ x ∧ x < vars) ∧ (seen ++ o).Nodup
  | [], seen, _, hs => ⟨by simp, by simpa using hs⟩
  | x :: o, seen, h, hs => by
    rw [oscan] at h
    split at h
    · cases h
    · split at h
      · cases h
      · rename_i h1 h2
        have hn : (seen ++ [x]).Nodup := by
          rw [List.nodup_append]
          exact ⟨hs, by simp, fun a ha b hb e => h2 (by simp only [List.mem_singleton] at hb; rw [← hb, ← e]; exact ha)⟩
        obtain ⟨h3, h4⟩ := oscan_ok o (seen ++ [x]) h hn
        refine ⟨fun y hy => ?_, by simpa using h4⟩
        rcases List.mem_cons.1 hy with rfl | hy
        · omega
        · exact h3 y hy
theorem ocode_ok {o : List Int} (h : ocode o o.length = 0) : Perm0 o ∧ o.length ≤ 24 := by
  unfold ocode at h
  split at h
  · cases h
  · rename_i h1
    rw [if_neg (by simp)] at h
    obtain ⟨h2, h3⟩ := oscan_ok o [] h (by simp)
    exact ⟨⟨h2, by simpa using h3⟩, by omega⟩
theorem nodup_le : ∀ {l m : List Int}, l.Nodup → (∀ x ∈ l, x ∈ m) → l.length ≤ m.length
  | [], m, _, _ => by simp
  | a :: l, m, hn, hs => by
    simp only [List.nodup_cons] at hn
    have ha := hs a (by simp)
    have := nodup_le (l := l) (m := m.erase a) hn.2 fun x hx => (List.mem_erase_of_ne (fun e => hn.1 (by rw [← e]; exact hx))).2 (hs x (by simp [hx]))
    rw [List.length_erase_of_mem ha] at this
    have : 0 < m.length := List.length_pos_of_mem ha
    simp only [List.length_cons]
    omega
theorem Perm0.all {o : List Int} (h : Perm0 o) {j : Nat} (hj : j < o.length) : (j : Int) ∈ o := by
  by_cases hm : (j : Int) ∈ o
  · exact hm
  · exfalso
    have := nodup_le (l := (j : Int) :: o) (m := (List.range o.length).map (fun k : Nat => (k : Int))) (by simp only [List.nodup_cons]; exact ⟨hm, h.nodup⟩) (fun x hx => by
      rw [List.mem_map]
      rcases List.mem_cons.1 hx with rfl | hx
      · exact ⟨j, by simpa using hj, rfl⟩
      · obtain ⟨h1, h2⟩ := h.range x hx
        exact ⟨x.toNat, by simp; omega, by omega⟩)
    simp at this
    omega
theorem place_get {o : List Int} (hn : o.Nodup) {k : Nat} (hk : k < o.length) : placeZ o (o.getD k 0) = k := by
  unfold placeZ
  rw [getDZ hk, if_pos (List.getElem_mem hk)]
  congr 1
  exact hn.idxOf_getElem k hk
def placesL (o : List Int) : List Int := (List.range o.length).map fun j : Nat => placeZ o (j : Int)
theorem placesL_len (o : List Int) : (placesL o).length = o.length := by simp [placesL]
theorem placesL_get {o : List Int} {j : Nat} (hj : j < o.length) : (placesL o).getD j 0 = placeZ o j := by
  rw [getDZ (by rw [placesL_len]; exact hj)]
  simp [placesL]
theorem places_end {o zs : List Int} (h : Perm0 o) (hl : zs.length = o.length) (hz : ∀ k, k < o.length → zs.getD (o.getD k 0).toNat 0 = k) : zs = placesL o := by
  apply List.ext_getElem (by rw [placesL_len]; exact hl)
  intro j h1 h2
  rw [← getDZ h1, ← getDZ h2, placesL_get (by omega)]
  have hm := h.all (j := j) (by omega)
  obtain ⟨k, hk, e⟩ := List.mem_iff_getElem.1 hm
  have h3 := hz k hk
  rw [getDZ hk, e] at h3
  have h4 := place_get h.nodup hk
  rw [getDZ hk, e] at h4
  rw [h4, ← h3]; simp
end Go.PN
