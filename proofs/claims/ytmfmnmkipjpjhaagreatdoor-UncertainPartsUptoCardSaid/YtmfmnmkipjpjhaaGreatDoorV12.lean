/- Texts of one proof, laid one behind the other by a program (merge.py): TyA, Rat1, Rat2, Rat3. -/
import Derived.Test.YtmfmnmkipjpjhaaGreatDoorProg
import Derived.Test.YtmfmnmkipjpjhaaGreatDoorV05
import Derived.KernelRfl
import Derived.Test.YtmfmnmkipjpjhaaGreatDoorV11
import Derived.Test.YtmfmnmkipjpjhaaGreatDoorV09
set_option linter.unusedSimpArgs false
set_option linter.unusedVariables false
/- The types of the program, as the evaluator asks for them; printed by a program (gen_ty.py). -/
namespace Go.Proofs.YtmfmnmkipjpjhaaGreatDoor
open Go.AI
@[go_sem] theorem tya_s_2 : tSz Tryz.prog 2 = some (false, 1) := by kernel_rfl
@[go_sem] theorem tya_zi_2 : tZI Tryz.prog 2 = some (.i64, 0) := by kernel_rfl
@[go_sem] theorem tya_i_2 : tInt Tryz.prog 2 = some .i64 := by kernel_rfl
@[go_sem] theorem tya_z_2 : tZero Tryz.prog 2 = some [.int .i64 0] := by kernel_rfl
@[go_sem] theorem tya_s_3 : tSz Tryz.prog 3 = some (false, 1) := by kernel_rfl
@[go_sem] theorem tya_zi_3 : tZI Tryz.prog 3 = some (.i64, 0) := by kernel_rfl
@[go_sem] theorem tya_i_3 : tInt Tryz.prog 3 = some .i64 := by kernel_rfl
@[go_sem] theorem tya_z_3 : tZero Tryz.prog 3 = some [.int .i64 0] := by kernel_rfl
@[go_sem] theorem tya_s_4 : tSz Tryz.prog 4 = some (false, 1) := by kernel_rfl
@[go_sem] theorem tya_b_4 : tBool Tryz.prog 4 = true := by kernel_rfl
@[go_sem] theorem tya_z_4 : tZero Tryz.prog 4 = some [.bool false] := by kernel_rfl
@[go_sem] theorem tya_s_5 : tSz Tryz.prog 5 = some (false, 1) := by kernel_rfl
@[go_sem] theorem tya_zi_5 : tZI Tryz.prog 5 = some (.u8, 0) := by kernel_rfl
@[go_sem] theorem tya_i_5 : tInt Tryz.prog 5 = some .u8 := by kernel_rfl
@[go_sem] theorem tya_z_5 : tZero Tryz.prog 5 = some [.int .u8 0] := by kernel_rfl
@[go_sem] theorem tya_s_6 : tSz Tryz.prog 6 = some (false, 1) := by kernel_rfl
@[go_sem] theorem tya_zi_6 : tZI Tryz.prog 6 = some (.u8, 0) := by kernel_rfl
@[go_sem] theorem tya_i_6 : tInt Tryz.prog 6 = some .u8 := by kernel_rfl
@[go_sem] theorem tya_z_6 : tZero Tryz.prog 6 = some [.int .u8 0] := by kernel_rfl
@[go_sem] theorem tya_s_7 : tSz Tryz.prog 7 = some (true, 4) := by kernel_rfl
@[go_sem] theorem tya_fl_7 : tFlds Tryz.prog 7 = some [(0, 1), (1, 1), (2, 1), (3, 1)] := by kernel_rfl
@[go_sem] theorem tya_f0_7 : tFld Tryz.prog 7 0 = some 0 := by kernel_rfl
@[go_sem] theorem tya_f1_7 : tFld Tryz.prog 7 1 = some 1 := by kernel_rfl
@[go_sem] theorem tya_f2_7 : tFld Tryz.prog 7 2 = some 2 := by kernel_rfl
@[go_sem] theorem tya_f3_7 : tFld Tryz.prog 7 3 = some 3 := by kernel_rfl
@[go_sem] theorem tya_z_7 : tZero Tryz.prog 7 = some [.int .i64 0, .int .i64 0, .bool false, .int .u8 0] := by kernel_rfl
@[go_sem] theorem tya_s_8 : tSz Tryz.prog 8 = some (true, 4) := by kernel_rfl
@[go_sem] theorem tya_fl_8 : tFlds Tryz.prog 8 = some [(0, 1), (1, 1), (2, 1), (3, 1)] := by kernel_rfl
@[go_sem] theorem tya_f0_8 : tFld Tryz.prog 8 0 = some 0 := by kernel_rfl
@[go_sem] theorem tya_f1_8 : tFld Tryz.prog 8 1 = some 1 := by kernel_rfl
@[go_sem] theorem tya_f2_8 : tFld Tryz.prog 8 2 = some 2 := by kernel_rfl
@[go_sem] theorem tya_f3_8 : tFld Tryz.prog 8 3 = some 3 := by kernel_rfl
@[go_sem] theorem tya_z_8 : tZero Tryz.prog 8 = some [.int .i64 0, .int .i64 0, .bool false, .int .u8 0] := by kernel_rfl
@[go_sem] theorem tya_s_9 : tSz Tryz.prog 9 = some (false, 1) := by kernel_rfl
@[go_sem] theorem tya_z_9 : tZero Tryz.prog 9 = some [.str ⟨#[]⟩] := by kernel_rfl
@[go_sem] theorem tya_s_10 : tSz Tryz.prog 10 = some (false, 1) := by kernel_rfl
@[go_sem] theorem tya_z_10 : tZero Tryz.prog 10 = some [.str ⟨#[]⟩] := by kernel_rfl
@[go_sem] theorem tya_s_11 : tSz Tryz.prog 11 = some (false, 1) := by kernel_rfl
@[go_sem] theorem tya_z_11 : tZero Tryz.prog 11 = some [.str ⟨#[]⟩] := by kernel_rfl
@[go_sem] theorem tya_s_12 : tSz Tryz.prog 12 = some (false, 1) := by kernel_rfl
@[go_sem] theorem tya_zi_12 : tZI Tryz.prog 12 = some (.u64, 0) := by kernel_rfl
@[go_sem] theorem tya_i_12 : tInt Tryz.prog 12 = some .u64 := by kernel_rfl
@[go_sem] theorem tya_z_12 : tZero Tryz.prog 12 = some [.int .u64 0] := by kernel_rfl
@[go_sem] theorem tya_s_13 : tSz Tryz.prog 13 = some (true, 2) := by kernel_rfl
@[go_sem] theorem tya_fl_13 : tFlds Tryz.prog 13 = some [(0, 1), (1, 1)] := by kernel_rfl
@[go_sem] theorem tya_f0_13 : tFld Tryz.prog 13 0 = some 0 := by kernel_rfl
@[go_sem] theorem tya_f1_13 : tFld Tryz.prog 13 1 = some 1 := by kernel_rfl
@[go_sem] theorem tya_z_13 : tZero Tryz.prog 13 = some [.str ⟨#[]⟩, .int .u64 0] := by kernel_rfl
@[go_sem] theorem tya_s_14 : tSz Tryz.prog 14 = some (true, 2) := by kernel_rfl
@[go_sem] theorem tya_fl_14 : tFlds Tryz.prog 14 = some [(0, 1), (1, 1)] := by kernel_rfl
@[go_sem] theorem tya_f0_14 : tFld Tryz.prog 14 0 = some 0 := by kernel_rfl
@[go_sem] theorem tya_f1_14 : tFld Tryz.prog 14 1 = some 1 := by kernel_rfl
@[go_sem] theorem tya_z_14 : tZero Tryz.prog 14 = some [.str ⟨#[]⟩, .int .u64 0] := by kernel_rfl
@[go_sem] theorem tya_s_15 : tSz Tryz.prog 15 = some (false, 1) := by kernel_rfl
@[go_sem] theorem tya_z_15 : tZero Tryz.prog 15 = some [.raw (.pointer none)] := by kernel_rfl
@[go_sem] theorem tya_s_16 : tSz Tryz.prog 16 = some (false, 1) := by kernel_rfl
@[go_sem] theorem tya_z_16 : tZero Tryz.prog 16 = some [.raw (.pointer none)] := by kernel_rfl
@[go_sem] theorem tya_s_17 : tSz Tryz.prog 17 = some (false, 1) := by kernel_rfl
@[go_sem] theorem tya_z_17 : tZero Tryz.prog 17 = some [.raw (.pointer none)] := by kernel_rfl
@[go_sem] theorem tya_s_18 : tSz Tryz.prog 18 = some (true, 1) := by kernel_rfl
@[go_sem] theorem tya_fl_18 : tFlds Tryz.prog 18 = some [(0, 1)] := by kernel_rfl
@[go_sem] theorem tya_f0_18 : tFld Tryz.prog 18 0 = some 0 := by kernel_rfl
@[go_sem] theorem tya_z_18 : tZero Tryz.prog 18 = some [.raw (.pointer none)] := by kernel_rfl
@[go_sem] theorem tya_s_19 : tSz Tryz.prog 19 = some (true, 1) := by kernel_rfl
@[go_sem] theorem tya_fl_19 : tFlds Tryz.prog 19 = some [(0, 1)] := by kernel_rfl
@[go_sem] theorem tya_f0_19 : tFld Tryz.prog 19 0 = some 0 := by kernel_rfl
@[go_sem] theorem tya_z_19 : tZero Tryz.prog 19 = some [.raw (.pointer none)] := by kernel_rfl
@[go_sem] theorem tya_s_20 : tSz Tryz.prog 20 = some (false, 1) := by kernel_rfl
@[go_sem] theorem tya_c_20 : tIfc Tryz.prog 20 = true := by kernel_rfl
@[go_sem] theorem tya_z_20 : tZero Tryz.prog 20 = some [.nilI] := by kernel_rfl
@[go_sem] theorem tya_s_21 : tSz Tryz.prog 21 = some (false, 1) := by kernel_rfl
@[go_sem] theorem tya_zi_21 : tZI Tryz.prog 21 = some (.i32, 0) := by kernel_rfl
@[go_sem] theorem tya_i_21 : tInt Tryz.prog 21 = some .i32 := by kernel_rfl
@[go_sem] theorem tya_z_21 : tZero Tryz.prog 21 = some [.int .i32 0] := by kernel_rfl
@[go_sem] theorem tya_e_22 : tElem Tryz.prog 22 = some (72, 3, 40) := by kernel_rfl
@[go_sem] theorem tya_s_22 : tSz Tryz.prog 22 = some (false, 1) := by kernel_rfl
@[go_sem] theorem tya_z_22 : tZero Tryz.prog 22 = some [.nils] := by kernel_rfl
@[go_sem] theorem tya_s_23 : tSz Tryz.prog 23 = some (true, 3) := by kernel_rfl
@[go_sem] theorem tya_fl_23 : tFlds Tryz.prog 23 = some [(0, 1), (1, 1), (2, 1)] := by kernel_rfl
@[go_sem] theorem tya_f0_23 : tFld Tryz.prog 23 0 = some 0 := by kernel_rfl
@[go_sem] theorem tya_f1_23 : tFld Tryz.prog 23 1 = some 1 := by kernel_rfl
@[go_sem] theorem tya_f2_23 : tFld Tryz.prog 23 2 = some 2 := by kernel_rfl
@[go_sem] theorem tya_z_23 : tZero Tryz.prog 23 = some [.int .i64 0, .nils, .int .i64 0] := by kernel_rfl
@[go_sem] theorem tya_s_24 : tSz Tryz.prog 24 = some (true, 3) := by kernel_rfl
@[go_sem] theorem tya_fl_24 : tFlds Tryz.prog 24 = some [(0, 1), (1, 1), (2, 1)] := by kernel_rfl
@[go_sem] theorem tya_f0_24 : tFld Tryz.prog 24 0 = some 0 := by kernel_rfl
@[go_sem] theorem tya_f1_24 : tFld Tryz.prog 24 1 = some 1 := by kernel_rfl
@[go_sem] theorem tya_f2_24 : tFld Tryz.prog 24 2 = some 2 := by kernel_rfl
@[go_sem] theorem tya_z_24 : tZero Tryz.prog 24 = some [.int .i64 0, .nils, .int .i64 0] := by kernel_rfl
@[go_sem] theorem tya_e_25 : tElem Tryz.prog 25 = some (32, 6, 112) := by kernel_rfl
@[go_sem] theorem tya_s_25 : tSz Tryz.prog 25 = some (false, 1) := by kernel_rfl
@[go_sem] theorem tya_z_25 : tZero Tryz.prog 25 = some [.nils] := by kernel_rfl
@[go_sem] theorem tya_e_28 : tElem Tryz.prog 28 = some (113, 1, 4) := by kernel_rfl
@[go_sem] theorem tya_s_28 : tSz Tryz.prog 28 = some (false, 1) := by kernel_rfl
@[go_sem] theorem tya_z_28 : tZero Tryz.prog 28 = some [.nils] := by kernel_rfl
@[go_sem] theorem tya_s_29 : tSz Tryz.prog 29 = some (true, 3) := by kernel_rfl
@[go_sem] theorem tya_fl_29 : tFlds Tryz.prog 29 = some [(0, 1), (1, 1), (2, 1)] := by kernel_rfl
@[go_sem] theorem tya_f0_29 : tFld Tryz.prog 29 0 = some 0 := by kernel_rfl
@[go_sem] theorem tya_f1_29 : tFld Tryz.prog 29 1 = some 1 := by kernel_rfl
@[go_sem] theorem tya_f2_29 : tFld Tryz.prog 29 2 = some 2 := by kernel_rfl
@[go_sem] theorem tya_z_29 : tZero Tryz.prog 29 = some [.bool false, .nils, .nils] := by kernel_rfl
@[go_sem] theorem tya_s_30 : tSz Tryz.prog 30 = some (true, 3) := by kernel_rfl
@[go_sem] theorem tya_fl_30 : tFlds Tryz.prog 30 = some [(0, 1), (1, 1), (2, 1)] := by kernel_rfl
@[go_sem] theorem tya_f0_30 : tFld Tryz.prog 30 0 = some 0 := by kernel_rfl
@[go_sem] theorem tya_f1_30 : tFld Tryz.prog 30 1 = some 1 := by kernel_rfl
@[go_sem] theorem tya_f2_30 : tFld Tryz.prog 30 2 = some 2 := by kernel_rfl
@[go_sem] theorem tya_z_30 : tZero Tryz.prog 30 = some [.bool false, .nils, .nils] := by kernel_rfl
@[go_sem] theorem tya_s_31 : tSz Tryz.prog 31 = some (true, 6) := by kernel_rfl
@[go_sem] theorem tya_fl_31 : tFlds Tryz.prog 31 = some [(0, 3), (3, 3)] := by kernel_rfl
@[go_sem] theorem tya_f0_31 : tFld Tryz.prog 31 0 = some 0 := by kernel_rfl
@[go_sem] theorem tya_f1_31 : tFld Tryz.prog 31 1 = some 3 := by kernel_rfl
@[go_sem] theorem tya_z_31 : tZero Tryz.prog 31 = some [.bool false, .nils, .nils, .bool false, .nils, .nils] := by kernel_rfl
@[go_sem] theorem tya_s_32 : tSz Tryz.prog 32 = some (true, 6) := by kernel_rfl
@[go_sem] theorem tya_fl_32 : tFlds Tryz.prog 32 = some [(0, 3), (3, 3)] := by kernel_rfl
@[go_sem] theorem tya_f0_32 : tFld Tryz.prog 32 0 = some 0 := by kernel_rfl
@[go_sem] theorem tya_f1_32 : tFld Tryz.prog 32 1 = some 3 := by kernel_rfl
@[go_sem] theorem tya_z_32 : tZero Tryz.prog 32 = some [.bool false, .nils, .nils, .bool false, .nils, .nils] := by kernel_rfl
@[go_sem] theorem tya_s_33 : tSz Tryz.prog 33 = some (false, 1) := by kernel_rfl
@[go_sem] theorem tya_c_33 : tIfc Tryz.prog 33 = true := by kernel_rfl
@[go_sem] theorem tya_z_33 : tZero Tryz.prog 33 = some [.nilI] := by kernel_rfl
@[go_sem] theorem tya_s_34 : tSz Tryz.prog 34 = some (false, 1) := by kernel_rfl
@[go_sem] theorem tya_c_34 : tIfc Tryz.prog 34 = true := by kernel_rfl
@[go_sem] theorem tya_z_34 : tZero Tryz.prog 34 = some [.nilI] := by kernel_rfl
@[go_sem] theorem tya_s_54 : tSz Tryz.prog 54 = some (false, 1) := by kernel_rfl
@[go_sem] theorem tya_zi_54 : tZI Tryz.prog 54 = some (.i64, 0) := by kernel_rfl
@[go_sem] theorem tya_i_54 : tInt Tryz.prog 54 = some .i64 := by kernel_rfl
@[go_sem] theorem tya_z_54 : tZero Tryz.prog 54 = some [.int .i64 0] := by kernel_rfl
@[go_sem] theorem tya_e_59 : tElem Tryz.prog 59 = some (5, 1, 1) := by kernel_rfl
@[go_sem] theorem tya_s_59 : tSz Tryz.prog 59 = some (false, 1) := by kernel_rfl
@[go_sem] theorem tya_z_59 : tZero Tryz.prog 59 = some [.nils] := by kernel_rfl
@[go_sem] theorem tya_e_60 : tElem Tryz.prog 60 = some (30, 3, 56) := by kernel_rfl
@[go_sem] theorem tya_s_60 : tSz Tryz.prog 60 = some (false, 1) := by kernel_rfl
@[go_sem] theorem tya_z_60 : tZero Tryz.prog 60 = some [.nils] := by kernel_rfl
@[go_sem] theorem tya_e_70 : tElem Tryz.prog 70 = some (3, 1, 8) := by kernel_rfl
@[go_sem] theorem tya_s_70 : tSz Tryz.prog 70 = some (false, 1) := by kernel_rfl
@[go_sem] theorem tya_z_70 : tZero Tryz.prog 70 = some [.nils] := by kernel_rfl
@[go_sem] theorem tya_s_71 : tSz Tryz.prog 71 = some (true, 3) := by kernel_rfl
@[go_sem] theorem tya_fl_71 : tFlds Tryz.prog 71 = some [(0, 1), (1, 1), (2, 1)] := by kernel_rfl
@[go_sem] theorem tya_f0_71 : tFld Tryz.prog 71 0 = some 0 := by kernel_rfl
@[go_sem] theorem tya_f1_71 : tFld Tryz.prog 71 1 = some 1 := by kernel_rfl
@[go_sem] theorem tya_f2_71 : tFld Tryz.prog 71 2 = some 2 := by kernel_rfl
@[go_sem] theorem tya_z_71 : tZero Tryz.prog 71 = some [.int .i64 0, .int .i64 0, .nils] := by kernel_rfl
@[go_sem] theorem tya_s_72 : tSz Tryz.prog 72 = some (true, 3) := by kernel_rfl
@[go_sem] theorem tya_fl_72 : tFlds Tryz.prog 72 = some [(0, 1), (1, 1), (2, 1)] := by kernel_rfl
@[go_sem] theorem tya_f0_72 : tFld Tryz.prog 72 0 = some 0 := by kernel_rfl
@[go_sem] theorem tya_f1_72 : tFld Tryz.prog 72 1 = some 1 := by kernel_rfl
@[go_sem] theorem tya_f2_72 : tFld Tryz.prog 72 2 = some 2 := by kernel_rfl
@[go_sem] theorem tya_z_72 : tZero Tryz.prog 72 = some [.int .i64 0, .int .i64 0, .nils] := by kernel_rfl
@[go_sem] theorem tya_e_96 : tElem Tryz.prog 96 = some (132, 3, 24) := by kernel_rfl
@[go_sem] theorem tya_s_96 : tSz Tryz.prog 96 = some (false, 1) := by kernel_rfl
@[go_sem] theorem tya_z_96 : tZero Tryz.prog 96 = some [.nils] := by kernel_rfl
@[go_sem] theorem tya_s_97 : tSz Tryz.prog 97 = some (true, 3) := by kernel_rfl
@[go_sem] theorem tya_fl_97 : tFlds Tryz.prog 97 = some [(0, 1), (1, 1), (2, 1)] := by kernel_rfl
@[go_sem] theorem tya_f0_97 : tFld Tryz.prog 97 0 = some 0 := by kernel_rfl
@[go_sem] theorem tya_f1_97 : tFld Tryz.prog 97 1 = some 1 := by kernel_rfl
@[go_sem] theorem tya_f2_97 : tFld Tryz.prog 97 2 = some 2 := by kernel_rfl
@[go_sem] theorem tya_z_97 : tZero Tryz.prog 97 = some [.nils, .nils, .int .i64 0] := by kernel_rfl
@[go_sem] theorem tya_s_98 : tSz Tryz.prog 98 = some (true, 3) := by kernel_rfl
@[go_sem] theorem tya_fl_98 : tFlds Tryz.prog 98 = some [(0, 1), (1, 1), (2, 1)] := by kernel_rfl
@[go_sem] theorem tya_f0_98 : tFld Tryz.prog 98 0 = some 0 := by kernel_rfl
@[go_sem] theorem tya_f1_98 : tFld Tryz.prog 98 1 = some 1 := by kernel_rfl
@[go_sem] theorem tya_f2_98 : tFld Tryz.prog 98 2 = some 2 := by kernel_rfl
@[go_sem] theorem tya_z_98 : tZero Tryz.prog 98 = some [.nils, .nils, .int .i64 0] := by kernel_rfl
@[go_sem] theorem tya_e_110 : tElem Tryz.prog 110 = some (4, 1, 1) := by kernel_rfl
@[go_sem] theorem tya_s_110 : tSz Tryz.prog 110 = some (false, 1) := by kernel_rfl
@[go_sem] theorem tya_z_110 : tZero Tryz.prog 110 = some [.nils] := by kernel_rfl
@[go_sem] theorem tya_s_113 : tSz Tryz.prog 113 = some (false, 1) := by kernel_rfl
@[go_sem] theorem tya_zi_113 : tZI Tryz.prog 113 = some (.u32, 0) := by kernel_rfl
@[go_sem] theorem tya_i_113 : tInt Tryz.prog 113 = some .u32 := by kernel_rfl
@[go_sem] theorem tya_z_113 : tZero Tryz.prog 113 = some [.int .u32 0] := by kernel_rfl
@[go_sem] theorem tya_s_126 : tSz Tryz.prog 126 = some (false, 1) := by kernel_rfl
@[go_sem] theorem tya_z_126 : tZero Tryz.prog 126 = some [.raw (.pointer none)] := by kernel_rfl
@[go_sem] theorem tya_s_131 : tSz Tryz.prog 131 = some (true, 3) := by kernel_rfl
@[go_sem] theorem tya_fl_131 : tFlds Tryz.prog 131 = some [(0, 1), (1, 1), (2, 1)] := by kernel_rfl
@[go_sem] theorem tya_f0_131 : tFld Tryz.prog 131 0 = some 0 := by kernel_rfl
@[go_sem] theorem tya_f1_131 : tFld Tryz.prog 131 1 = some 1 := by kernel_rfl
@[go_sem] theorem tya_f2_131 : tFld Tryz.prog 131 2 = some 2 := by kernel_rfl
@[go_sem] theorem tya_q_131 : tEqS Tryz.prog 131 = some 3 := by kernel_rfl
@[go_sem] theorem tya_z_131 : tZero Tryz.prog 131 = some [.int .i64 0, .int .i64 0, .int .i64 0] := by kernel_rfl
@[go_sem] theorem tya_s_132 : tSz Tryz.prog 132 = some (true, 3) := by kernel_rfl
@[go_sem] theorem tya_fl_132 : tFlds Tryz.prog 132 = some [(0, 1), (1, 1), (2, 1)] := by kernel_rfl
@[go_sem] theorem tya_f0_132 : tFld Tryz.prog 132 0 = some 0 := by kernel_rfl
@[go_sem] theorem tya_f1_132 : tFld Tryz.prog 132 1 = some 1 := by kernel_rfl
@[go_sem] theorem tya_f2_132 : tFld Tryz.prog 132 2 = some 2 := by kernel_rfl
@[go_sem] theorem tya_q_132 : tEqS Tryz.prog 132 = some 3 := by kernel_rfl
@[go_sem] theorem tya_z_132 : tZero Tryz.prog 132 = some [.int .i64 0, .int .i64 0, .int .i64 0] := by kernel_rfl
@[go_sem] theorem tya_e_139 : tElem Tryz.prog 139 = some (9, 1, 16) := by kernel_rfl
@[go_sem] theorem tya_s_139 : tSz Tryz.prog 139 = some (false, 1) := by kernel_rfl
@[go_sem] theorem tya_z_139 : tZero Tryz.prog 139 = some [.nils] := by kernel_rfl
@[go_sem] theorem tya_s_143 : tSz Tryz.prog 143 = some (false, 1) := by kernel_rfl
@[go_sem] theorem tya_z_143 : tZero Tryz.prog 143 = some [.raw (.pointer none)] := by kernel_rfl
@[go_sem] theorem tya_s_144 : tSz Tryz.prog 144 = some (true, 2) := by kernel_rfl
@[go_sem] theorem tya_fl_144 : tFlds Tryz.prog 144 = some [(0, 1), (1, 1)] := by kernel_rfl
@[go_sem] theorem tya_f0_144 : tFld Tryz.prog 144 0 = some 0 := by kernel_rfl
@[go_sem] theorem tya_f1_144 : tFld Tryz.prog 144 1 = some 1 := by kernel_rfl
@[go_sem] theorem tya_z_144 : tZero Tryz.prog 144 = some [.raw (.pointer none), .nils] := by kernel_rfl
@[go_sem] theorem tya_s_145 : tSz Tryz.prog 145 = some (true, 2) := by kernel_rfl
@[go_sem] theorem tya_fl_145 : tFlds Tryz.prog 145 = some [(0, 1), (1, 1)] := by kernel_rfl
@[go_sem] theorem tya_f0_145 : tFld Tryz.prog 145 0 = some 0 := by kernel_rfl
@[go_sem] theorem tya_f1_145 : tFld Tryz.prog 145 1 = some 1 := by kernel_rfl
@[go_sem] theorem tya_z_145 : tZero Tryz.prog 145 = some [.raw (.pointer none), .nils] := by kernel_rfl
@[go_sem] theorem tya_s_153 : tSz Tryz.prog 153 = some (false, 1) := by kernel_rfl
@[go_sem] theorem tya_zi_153 : tZI Tryz.prog 153 = some (.u64, 0) := by kernel_rfl
@[go_sem] theorem tya_i_153 : tInt Tryz.prog 153 = some .u64 := by kernel_rfl
@[go_sem] theorem tya_z_153 : tZero Tryz.prog 153 = some [.int .u64 0] := by kernel_rfl
@[go_sem] theorem tya_s_154 : tSz Tryz.prog 154 = some (false, 1) := by kernel_rfl
@[go_sem] theorem tya_zi_154 : tZI Tryz.prog 154 = some (.u64, 0) := by kernel_rfl
@[go_sem] theorem tya_i_154 : tInt Tryz.prog 154 = some .u64 := by kernel_rfl
@[go_sem] theorem tya_z_154 : tZero Tryz.prog 154 = some [.int .u64 0] := by kernel_rfl
@[go_sem] theorem tya_s_157 : tSz Tryz.prog 157 = some (false, 1) := by kernel_rfl
@[go_sem] theorem tya_z_157 : tZero Tryz.prog 157 = some [.raw (.pointer none)] := by kernel_rfl
@[go_sem] theorem tya_s_158 : tSz Tryz.prog 158 = some (true, 5) := by kernel_rfl
@[go_sem] theorem tya_fl_158 : tFlds Tryz.prog 158 = some [(0, 3), (3, 1), (4, 1)] := by kernel_rfl
@[go_sem] theorem tya_f0_158 : tFld Tryz.prog 158 0 = some 0 := by kernel_rfl
@[go_sem] theorem tya_f1_158 : tFld Tryz.prog 158 1 = some 3 := by kernel_rfl
@[go_sem] theorem tya_f2_158 : tFld Tryz.prog 158 2 = some 4 := by kernel_rfl
@[go_sem] theorem tya_z_158 : tZero Tryz.prog 158 = some [.int .i64 0, .nils, .int .i64 0, .nils, .nils] := by kernel_rfl
@[go_sem] theorem tya_s_159 : tSz Tryz.prog 159 = some (true, 5) := by kernel_rfl
@[go_sem] theorem tya_fl_159 : tFlds Tryz.prog 159 = some [(0, 3), (3, 1), (4, 1)] := by kernel_rfl
@[go_sem] theorem tya_f0_159 : tFld Tryz.prog 159 0 = some 0 := by kernel_rfl
@[go_sem] theorem tya_f1_159 : tFld Tryz.prog 159 1 = some 3 := by kernel_rfl
@[go_sem] theorem tya_f2_159 : tFld Tryz.prog 159 2 = some 4 := by kernel_rfl
@[go_sem] theorem tya_z_159 : tZero Tryz.prog 159 = some [.int .i64 0, .nils, .int .i64 0, .nils, .nils] := by kernel_rfl
@[go_sem] theorem tya_s_161 : tSz Tryz.prog 161 = some (false, 1) := by kernel_rfl
@[go_sem] theorem tya_z_161 : tZero Tryz.prog 161 = some [.raw (.map none)] := by kernel_rfl
@[go_sem] theorem tya_s_162 : tSz Tryz.prog 162 = some (false, 1) := by kernel_rfl
@[go_sem] theorem tya_z_162 : tZero Tryz.prog 162 = some [.raw (.map none)] := by kernel_rfl
@[go_sem] theorem tya_s_163 : tSz Tryz.prog 163 = some (true, 5) := by kernel_rfl
@[go_sem] theorem tya_fl_163 : tFlds Tryz.prog 163 = some [(0, 1), (1, 1), (2, 1), (3, 1), (4, 1)] := by kernel_rfl
@[go_sem] theorem tya_f0_163 : tFld Tryz.prog 163 0 = some 0 := by kernel_rfl
@[go_sem] theorem tya_f1_163 : tFld Tryz.prog 163 1 = some 1 := by kernel_rfl
@[go_sem] theorem tya_f2_163 : tFld Tryz.prog 163 2 = some 2 := by kernel_rfl
@[go_sem] theorem tya_f3_163 : tFld Tryz.prog 163 3 = some 3 := by kernel_rfl
@[go_sem] theorem tya_f4_163 : tFld Tryz.prog 163 4 = some 4 := by kernel_rfl
@[go_sem] theorem tya_z_163 : tZero Tryz.prog 163 = some [.nils, .nils, .nils, .raw (.map none), .raw (.map none)] := by kernel_rfl
@[go_sem] theorem tya_s_164 : tSz Tryz.prog 164 = some (true, 5) := by kernel_rfl
@[go_sem] theorem tya_fl_164 : tFlds Tryz.prog 164 = some [(0, 1), (1, 1), (2, 1), (3, 1), (4, 1)] := by kernel_rfl
@[go_sem] theorem tya_f0_164 : tFld Tryz.prog 164 0 = some 0 := by kernel_rfl
@[go_sem] theorem tya_f1_164 : tFld Tryz.prog 164 1 = some 1 := by kernel_rfl
@[go_sem] theorem tya_f2_164 : tFld Tryz.prog 164 2 = some 2 := by kernel_rfl
@[go_sem] theorem tya_f3_164 : tFld Tryz.prog 164 3 = some 3 := by kernel_rfl
@[go_sem] theorem tya_f4_164 : tFld Tryz.prog 164 4 = some 4 := by kernel_rfl
@[go_sem] theorem tya_z_164 : tZero Tryz.prog 164 = some [.nils, .nils, .nils, .raw (.map none), .raw (.map none)] := by kernel_rfl
@[go_sem] theorem tya_s_169 : tSz Tryz.prog 169 = some (false, 1) := by kernel_rfl
@[go_sem] theorem tya_z_169 : tZero Tryz.prog 169 = some [.raw (.map none)] := by kernel_rfl
@[go_sem] theorem tya_s_170 : tSz Tryz.prog 170 = some (false, 1) := by kernel_rfl
@[go_sem] theorem tya_z_170 : tZero Tryz.prog 170 = some [.raw (.map none)] := by kernel_rfl
@[go_sem] theorem tya_s_176 : tSz Tryz.prog 176 = some (true, 9) := by kernel_rfl
@[go_sem] theorem tya_z_176 : tZero Tryz.prog 176 = some [.int .u8 0, .int .u8 0, .int .u8 0, .int .u8 0, .int .u8 0, .int .u8 0, .int .u8 0, .int .u8 0, .int .u8 0] := by kernel_rfl
@[go_sem] theorem tya_s_178 : tSz Tryz.prog 178 = some (true, 256) := by kernel_rfl
@[go_sem] theorem tya_s_179 : tSz Tryz.prog 179 = some (true, 256) := by kernel_rfl
@[go_sem] theorem tya_s_183 : tSz Tryz.prog 183 = some (false, 1) := by kernel_rfl
@[go_sem] theorem tya_z_183 : tZero Tryz.prog 183 = some [.raw (.pointer none)] := by kernel_rfl
@[go_sem] theorem tya_s_184 : tSz Tryz.prog 184 = some (false, 1) := by kernel_rfl
@[go_sem] theorem tya_z_184 : tZero Tryz.prog 184 = some [.raw (.pointer none)] := by kernel_rfl
@[go_sem] theorem tya_s_186 : tSz Tryz.prog 186 = some (true, 2) := by kernel_rfl
@[go_sem] theorem tya_fl_186 : tFlds Tryz.prog 186 = some [(0, 1), (1, 1)] := by kernel_rfl
@[go_sem] theorem tya_f0_186 : tFld Tryz.prog 186 0 = some 0 := by kernel_rfl
@[go_sem] theorem tya_f1_186 : tFld Tryz.prog 186 1 = some 1 := by kernel_rfl
@[go_sem] theorem tya_q_186 : tEqS Tryz.prog 186 = some 2 := by kernel_rfl
@[go_sem] theorem tya_z_186 : tZero Tryz.prog 186 = some [.int .i64 0, .int .i64 0] := by kernel_rfl
@[go_sem] theorem tya_s_187 : tSz Tryz.prog 187 = some (true, 2) := by kernel_rfl
@[go_sem] theorem tya_fl_187 : tFlds Tryz.prog 187 = some [(0, 1), (1, 1)] := by kernel_rfl
@[go_sem] theorem tya_f0_187 : tFld Tryz.prog 187 0 = some 0 := by kernel_rfl
@[go_sem] theorem tya_f1_187 : tFld Tryz.prog 187 1 = some 1 := by kernel_rfl
@[go_sem] theorem tya_q_187 : tEqS Tryz.prog 187 = some 2 := by kernel_rfl
@[go_sem] theorem tya_z_187 : tZero Tryz.prog 187 = some [.int .i64 0, .int .i64 0] := by kernel_rfl
@[go_sem] theorem tya_s_190 : tSz Tryz.prog 190 = some (false, 1) := by kernel_rfl
@[go_sem] theorem tya_z_190 : tZero Tryz.prog 190 = some [.raw (.pointer none)] := by kernel_rfl
@[go_sem] theorem tya_s_196 : tSz Tryz.prog 196 = some (true, 3) := by kernel_rfl
@[go_sem] theorem tya_z_196 : tZero Tryz.prog 196 = some [.int .i64 0, .int .i64 0, .int .i64 0] := by kernel_rfl
@[go_sem] theorem tya_s_199 : tSz Tryz.prog 199 = some (true, 256) := by kernel_rfl
@[go_sem] theorem tya_s_200 : tSz Tryz.prog 200 = some (true, 2) := by kernel_rfl
@[go_sem] theorem tya_fl_200 : tFlds Tryz.prog 200 = some [(0, 1), (1, 1)] := by kernel_rfl
@[go_sem] theorem tya_f0_200 : tFld Tryz.prog 200 0 = some 0 := by kernel_rfl
@[go_sem] theorem tya_f1_200 : tFld Tryz.prog 200 1 = some 1 := by kernel_rfl
@[go_sem] theorem tya_q_200 : tEqS Tryz.prog 200 = some 2 := by kernel_rfl
@[go_sem] theorem tya_z_200 : tZero Tryz.prog 200 = some [.int .u8 0, .int .u8 0] := by kernel_rfl
@[go_sem] theorem tya_s_201 : tSz Tryz.prog 201 = some (true, 2) := by kernel_rfl
@[go_sem] theorem tya_fl_201 : tFlds Tryz.prog 201 = some [(0, 1), (1, 1)] := by kernel_rfl
@[go_sem] theorem tya_f0_201 : tFld Tryz.prog 201 0 = some 0 := by kernel_rfl
@[go_sem] theorem tya_f1_201 : tFld Tryz.prog 201 1 = some 1 := by kernel_rfl
@[go_sem] theorem tya_q_201 : tEqS Tryz.prog 201 = some 2 := by kernel_rfl
@[go_sem] theorem tya_z_201 : tZero Tryz.prog 201 = some [.int .u8 0, .int .u8 0] := by kernel_rfl
@[go_sem] theorem tya_s_202 : tSz Tryz.prog 202 = some (true, 32) := by kernel_rfl
@[go_sem] theorem tya_z_202 : tZero Tryz.prog 202 = some [.int .u8 0, .int .u8 0, .int .u8 0, .int .u8 0, .int .u8 0, .int .u8 0, .int .u8 0, .int .u8 0, .int .u8 0, .int .u8 0, .int .u8 0, .int .u8 0, .int .u8 0, .int .u8 0, .int .u8 0, .int .u8 0, .int .u8 0, .int .u8 0, .int .u8 0, .int .u8 0, .int .u8 0, .int .u8 0, .int .u8 0, .int .u8 0, .int .u8 0, .int .u8 0, .int .u8 0, .int .u8 0, .int .u8 0, .int .u8 0, .int .u8 0, .int .u8 0] := by kernel_rfl
@[go_sem] theorem tya_s_206 : tSz Tryz.prog 206 = some (true, 4) := by kernel_rfl
@[go_sem] theorem tya_fl_206 : tFlds Tryz.prog 206 = some [(0, 1), (1, 1), (2, 1), (3, 1)] := by kernel_rfl
@[go_sem] theorem tya_f0_206 : tFld Tryz.prog 206 0 = some 0 := by kernel_rfl
@[go_sem] theorem tya_f1_206 : tFld Tryz.prog 206 1 = some 1 := by kernel_rfl
@[go_sem] theorem tya_f2_206 : tFld Tryz.prog 206 2 = some 2 := by kernel_rfl
@[go_sem] theorem tya_f3_206 : tFld Tryz.prog 206 3 = some 3 := by kernel_rfl
@[go_sem] theorem tya_z_206 : tZero Tryz.prog 206 = some [.raw (.pointer none), .raw (.pointer none), .raw (.pointer none), .str ⟨#[]⟩] := by kernel_rfl
@[go_sem] theorem tya_s_207 : tSz Tryz.prog 207 = some (true, 4) := by kernel_rfl
@[go_sem] theorem tya_fl_207 : tFlds Tryz.prog 207 = some [(0, 1), (1, 1), (2, 1), (3, 1)] := by kernel_rfl
@[go_sem] theorem tya_f0_207 : tFld Tryz.prog 207 0 = some 0 := by kernel_rfl
@[go_sem] theorem tya_f1_207 : tFld Tryz.prog 207 1 = some 1 := by kernel_rfl
@[go_sem] theorem tya_f2_207 : tFld Tryz.prog 207 2 = some 2 := by kernel_rfl
@[go_sem] theorem tya_f3_207 : tFld Tryz.prog 207 3 = some 3 := by kernel_rfl
@[go_sem] theorem tya_z_207 : tZero Tryz.prog 207 = some [.raw (.pointer none), .raw (.pointer none), .raw (.pointer none), .str ⟨#[]⟩] := by kernel_rfl
@[go_sem] theorem tya_s_212 : tSz Tryz.prog 212 = some (false, 1) := by kernel_rfl
@[go_sem] theorem tya_zi_212 : tZI Tryz.prog 212 = some (.u8, 0) := by kernel_rfl
@[go_sem] theorem tya_i_212 : tInt Tryz.prog 212 = some .u8 := by kernel_rfl
@[go_sem] theorem tya_z_212 : tZero Tryz.prog 212 = some [.int .u8 0] := by kernel_rfl
@[go_sem] theorem tya_s_213 : tSz Tryz.prog 213 = some (false, 1) := by kernel_rfl
@[go_sem] theorem tya_zi_213 : tZI Tryz.prog 213 = some (.u8, 0) := by kernel_rfl
@[go_sem] theorem tya_i_213 : tInt Tryz.prog 213 = some .u8 := by kernel_rfl
@[go_sem] theorem tya_z_213 : tZero Tryz.prog 213 = some [.int .u8 0] := by kernel_rfl
@[go_sem] theorem tya_s_215 : tSz Tryz.prog 215 = some (false, 1) := by kernel_rfl
@[go_sem] theorem tya_zi_215 : tZI Tryz.prog 215 = some (.i32, 0) := by kernel_rfl
@[go_sem] theorem tya_i_215 : tInt Tryz.prog 215 = some .i32 := by kernel_rfl
@[go_sem] theorem tya_z_215 : tZero Tryz.prog 215 = some [.int .i32 0] := by kernel_rfl
@[go_sem] theorem tya_s_216 : tSz Tryz.prog 216 = some (false, 1) := by kernel_rfl
@[go_sem] theorem tya_zi_216 : tZI Tryz.prog 216 = some (.i32, 0) := by kernel_rfl
@[go_sem] theorem tya_i_216 : tInt Tryz.prog 216 = some .i32 := by kernel_rfl
@[go_sem] theorem tya_z_216 : tZero Tryz.prog 216 = some [.int .i32 0] := by kernel_rfl
@[go_sem] theorem tya_s_217 : tSz Tryz.prog 217 = some (true, 11) := by kernel_rfl
@[go_sem] theorem tya_fl_217 : tFlds Tryz.prog 217 = some [(0, 1), (1, 1), (2, 1), (3, 1), (4, 1), (5, 1), (6, 1), (7, 1), (8, 1), (9, 1), (10, 1)] := by kernel_rfl
@[go_sem] theorem tya_f0_217 : tFld Tryz.prog 217 0 = some 0 := by kernel_rfl
@[go_sem] theorem tya_f1_217 : tFld Tryz.prog 217 1 = some 1 := by kernel_rfl
@[go_sem] theorem tya_f2_217 : tFld Tryz.prog 217 2 = some 2 := by kernel_rfl
@[go_sem] theorem tya_f3_217 : tFld Tryz.prog 217 3 = some 3 := by kernel_rfl
@[go_sem] theorem tya_f4_217 : tFld Tryz.prog 217 4 = some 4 := by kernel_rfl
@[go_sem] theorem tya_f5_217 : tFld Tryz.prog 217 5 = some 5 := by kernel_rfl
@[go_sem] theorem tya_f6_217 : tFld Tryz.prog 217 6 = some 6 := by kernel_rfl
@[go_sem] theorem tya_f7_217 : tFld Tryz.prog 217 7 = some 7 := by kernel_rfl
@[go_sem] theorem tya_f8_217 : tFld Tryz.prog 217 8 = some 8 := by kernel_rfl
@[go_sem] theorem tya_f9_217 : tFld Tryz.prog 217 9 = some 9 := by kernel_rfl
@[go_sem] theorem tya_f10_217 : tFld Tryz.prog 217 10 = some 10 := by kernel_rfl
@[go_sem] theorem tya_z_217 : tZero Tryz.prog 217 = some [.int .u64 0, .int .u64 0, .int .u32 0, .int .u8 0, .int .u8 0, .int .u8 0, .int .u8 0, .raw .nilFunc, .raw (.pointer none), .int .i32 0, .int .i32 0] := by kernel_rfl
@[go_sem] theorem tya_s_218 : tSz Tryz.prog 218 = some (true, 11) := by kernel_rfl
@[go_sem] theorem tya_fl_218 : tFlds Tryz.prog 218 = some [(0, 1), (1, 1), (2, 1), (3, 1), (4, 1), (5, 1), (6, 1), (7, 1), (8, 1), (9, 1), (10, 1)] := by kernel_rfl
@[go_sem] theorem tya_f0_218 : tFld Tryz.prog 218 0 = some 0 := by kernel_rfl
@[go_sem] theorem tya_f1_218 : tFld Tryz.prog 218 1 = some 1 := by kernel_rfl
@[go_sem] theorem tya_f2_218 : tFld Tryz.prog 218 2 = some 2 := by kernel_rfl
@[go_sem] theorem tya_f3_218 : tFld Tryz.prog 218 3 = some 3 := by kernel_rfl
@[go_sem] theorem tya_f4_218 : tFld Tryz.prog 218 4 = some 4 := by kernel_rfl
@[go_sem] theorem tya_f5_218 : tFld Tryz.prog 218 5 = some 5 := by kernel_rfl
@[go_sem] theorem tya_f6_218 : tFld Tryz.prog 218 6 = some 6 := by kernel_rfl
@[go_sem] theorem tya_f7_218 : tFld Tryz.prog 218 7 = some 7 := by kernel_rfl
@[go_sem] theorem tya_f8_218 : tFld Tryz.prog 218 8 = some 8 := by kernel_rfl
@[go_sem] theorem tya_f9_218 : tFld Tryz.prog 218 9 = some 9 := by kernel_rfl
@[go_sem] theorem tya_f10_218 : tFld Tryz.prog 218 10 = some 10 := by kernel_rfl
@[go_sem] theorem tya_z_218 : tZero Tryz.prog 218 = some [.int .u64 0, .int .u64 0, .int .u32 0, .int .u8 0, .int .u8 0, .int .u8 0, .int .u8 0, .raw .nilFunc, .raw (.pointer none), .int .i32 0, .int .i32 0] := by kernel_rfl
end Go.Proofs.YtmfmnmkipjpjhaaGreatDoor

/- rational: one, plain, Valid, parts, form. -/
namespace Go.Proofs.YtmfmnmkipjpjhaaGreatDoor
open Go.AI Go.PN
attribute [local irreducible] aw Fa Fh DrK

/-- The cells of a fraction. -/
abbrev rdc (r : RD) : List CV := [.bool r.neg, ws true r.num, ws true r.den]

theorem cmp_one {n : Nat} : (cmpN n (val [1]) == 0) = decide (n = 1) := by
  have : val [1] = 1 := rfl
  rw [this]
  unfold cmpN
  by_cases h : n = 1
  · subst h; rfl
  · have : ¬ (n = 1) := h
    simp only [this, decide_false, if_false]
    by_cases h0 : n < 1 <;> simp [h0]
theorem plain_eq {xs : List Nat} (h0 : 0 < xs.length) : plainB xs = (((xs.getD (xs.length - 1) 0 : Nat) : Int) != 0) := by
  simp only [plainB, h0, decide_true, Bool.true_and, bne]
  congr 1
  rw [Bool.eq_iff_iff]; simp
theorem plain_no {xs : List Nat} (h0 : ¬ 0 < xs.length) : plainB xs = false := by simp [plainB, h0]

set_option maxHeartbeats 400000 in
theorem one_fa : Fa Tryz.prog 74 [] (.c (ws true [1])) := by
  refine fa_of_body Tryz.func74 rfl rfl (by simp [Tryz.ntmps74]) fun C hC => ?_
  simp only [initS]
  refine xG ?_
  refine aw_buildSlice (xs := [.const (.int .u32 1)]) (cells := [.int .u32 1]) rfl rfl rfl ty_e_ws (by rw [envP, ty_z_u32]; rfl) rfl (by omega) (by omega) (by intro x hx; simp only [List.mem_cons, List.not_mem_nil, or_false] at hx; subst hx; exact ⟨rfl, rfl, rfl⟩) rfl fun g hg => ?_
  refine xS ?_
  refine xG ?_
  refine xT hC ?_
  exact .one (.c (ler_oslws eE (by omega) rfl (fun j hj => by match j, hj with | 0, _ => rfl)))
set_option maxHeartbeats 400000 in
theorem plain_fa (xs : List Nat) (hlx : xs.length ≤ 68719476738) : Fa Tryz.prog 110 [.c (ws false xs)] (.c (.bool (plainB xs))) := by
  refine fa_of_body Tryz.func110 rfl rfl (by simp [Tryz.ntmps110]) fun C hC => ?_
  simp only [initS, Nat.reduceAdd]
  refine xG ?_
  refine aw_split 6 eE (fun hb => ?_) (fun hb => ?_) <;> refine xS ?_
  · have h0 : 0 < xs.length := by have := of_decide_eq_true hb; omega
    refine xG ?_
    refine xT hC ?_
    exact .one (.c (ler_bool (plain_eq h0).symm))
  · have h0 : ¬ 0 < xs.length := by have := of_decide_eq_false hb; omega
    refine xG ?_
    refine xT hC ?_
    exact .one (.c (ler_bool (plain_no h0).symm))
theorem valid_zero {r : RD} (h1 : ((r.num.length : Int) == 0) = true) (h2 : ((r.den.length : Int) == 0) = true) : (!r.neg) = r.valid := by
  have h1' : r.num.length = 0 := by have := eq_of_beq h1; omega
  have h2' : r.den.length = 0 := by have := eq_of_beq h2; omega
  simp [RD.valid, h1', h2']
theorem valid_else {r : RD} (h : ((r.num.length : Int) == 0) = false ∨ ((r.den.length : Int) == 0) = false) : r.valid = (plainB r.num && plainB r.den && decide (Nat.gcd (val r.num) (val r.den) = 1)) := by
  unfold RD.valid
  rw [if_neg]
  rintro ⟨h1, h2⟩
  rcases h with h | h
  · rw [h1] at h; cases h
  · rw [h2] at h; cases h
set_option maxHeartbeats 1600000 in
theorem rvalid_fa (r : RD) (hw : r.wf 68719476736) : Fa Tryz.prog 69 [.agg (rdc r)] (.c (.bool r.valid)) := by
  have hp1 : r.num.length ≤ 68719476738 := by have := hw.2.2.1; omega
  have hp2 : r.den.length ≤ 68719476738 := by have := hw.2.2.2; omega
  have hg : (words (Nat.gcd (val r.num) (val r.den))).length ≤ 68719476736 := by
    by_cases h : val r.num = 0
    · rw [h, Nat.gcd_zero_left]; exact Nat.le_trans (words_val_len _ hw.2.1) hw.2.2.2
    · exact Nat.le_trans (words_len_mono (Nat.gcd_le_left _ (Nat.pos_of_ne_zero h))) (Nat.le_trans (words_val_len _ hw.1) hw.2.2.1)
  refine fa_of_body Tryz.func69 rfl rfl (by simp [Tryz.ntmps69]) fun C hC => ?_
  simp only [initS, Nat.reduceAdd]
  refine xG ?_
  refine xB fun g1 hn_g1=>?_
  refine yH hn_g1 ?_
  apply aw_seq
  refine aw_cut (fun _ : Unit => [(1, .c (.optr g1 0))]) (fun _ => [(g1, .cells 30 3 (ofL (rdc r)))]) (fun _ => ((r.num.length : Int) == 0) = false ∨ ((r.den.length : Int) == 0) = false) ?_ ?_
  · refine yG hn_g1 ?_
    refine aw_split 7 (zE hn_g1) (fun hb => ?_) (fun hb => ?_) <;> refine yS hn_g1 ?_
    · refine yG hn_g1 ?_
      refine yF hn_g1 (fun hd=>?_) fun hd=>?_
      · refine yG hn_g1 ?_
        refine yT hC hn_g1 ?_
        exact .one (.c (ler_bool (valid_zero hb hd)))
      · refine yG hn_g1 ?_
        exact aw_stop ⟨(), (zB hn_g1), zZ, .inr hd⟩
    · refine yG hn_g1 ?_
      refine yN hn_g1 ?_
      refine yG hn_g1 ?_
      exact aw_stop ⟨(), (zB hn_g1), zZ, .inl hb⟩
  rintro _ hd
  rw [valid_else hd]
  refine yG hn_g1 ?_
  refine yC hn_g1 (plain_fa r.num hp1) ?_
  refine yG hn_g1 ?_
  refine aw_split 19 (zE hn_g1) (fun h1 => ?_) (fun h1 => ?_) <;> refine yS hn_g1 ?_
  · refine yG hn_g1 ?_
    refine yC hn_g1 (plain_fa r.den hp2) ?_
    refine yG hn_g1 ?_
    refine aw_split 24 (zE hn_g1) (fun h2 => ?_) (fun h2 => ?_) <;> refine yS hn_g1 ?_
    · refine yG hn_g1 ?_
      refine yC hn_g1 (gcd_fa _ _ hw.1 hw.2.1 hw.2.2.1 hw.2.2.2) ?_
      refine yG hn_g1 ?_
      refine yC hn_g1 (one_fa) ?_
      refine yG hn_g1 ?_
      refine yC hn_g1 (cmp_fa _ [1] (words_lt _) ?_ hg ?_) ?_
      · simp
      · simp
      refine yG hn_g1 ?_
      refine yT hC hn_g1 ?_
      refine .one (.c (ler_bool ?_))
      rw [h1, h2, val_words, cmp_one]; rfl
    · refine yG hn_g1 ?_
      refine yT hC hn_g1 ?_
      refine .one (.c (ler_bool ?_))
      rw [h2, Bool.and_false, Bool.false_and]
  · refine yG hn_g1 ?_
    refine yT hC hn_g1 ?_
    refine .one (.c (ler_bool ?_))
    rw [h1, Bool.false_and, Bool.false_and]
end Go.Proofs.YtmfmnmkipjpjhaaGreatDoor

/- rational: parts, form, size, Of, Neg, Sign, Add, Sub, Mul, Cmp, Prob. -/
namespace Go.Proofs.YtmfmnmkipjpjhaaGreatDoor
open Go.AI Go.PN
attribute [local irreducible] aw Fa Fh DrK
theorem words_mul_len (m n : Nat) : (words (m * n)).length ≤ (words m).length + (words n).length := words_len_le (pow_mul_lt (words_pow_lt m) (words_pow_lt n))
theorem words_add_len {m n k : Nat} (hm : (words m).length ≤ k) (hn : (words n).length ≤ k) : (words (m + n)).length ≤ k + 1 := by
  have h1 := Nat.lt_of_lt_of_le (words_pow_lt m) (Nat.pow_le_pow_right (show 0 < 4294967296 by omega) hm)
  have h2 := Nat.lt_of_lt_of_le (words_pow_lt n) (Nat.pow_le_pow_right (show 0 < 4294967296 by omega) hn)
  refine words_len_le ?_
  rw [Nat.pow_succ]
  omega
theorem mulW (a b : Nat) (ha : (words a).length ≤ 68719476736) (hb : (words b).length ≤ 68719476736) : Fa Tryz.prog 129 [.c (ws false (words a)), .c (ws false (words b))] (.c (ws true (words (a * b)))) := by
  have := mul_fa (words a) (words b) (words_lt a) (words_lt b) ha hb
  rwa [val_words, val_words] at this
theorem addW (a b : Nat) (ha : (words a).length ≤ 68719476736) (hb : (words b).length ≤ 68719476736) : Fa Tryz.prog 130 [.c (ws false (words a)), .c (ws false (words b))] (.c (ws true (words (a + b)))) := by
  have := add_fa (words a) (words b) (words_lt a) (words_lt b) ha hb
  rwa [val_words, val_words] at this
theorem subW (a b : Nat) (ha : (words a).length ≤ 68719476736) (hb : (words b).length ≤ 68719476736) (h : b ≤ a) : Fa Tryz.prog 131 [.c (ws false (words a)), .c (ws false (words b))] (.tup [.c (ws true (words (a - b))), .c .nilI]) := by
  have := sub_fa (words a) (words b) (words_lt a) (words_lt b) ha hb (by rw [val_words, val_words]; exact h)
  rwa [val_words, val_words] at this
theorem cmpW (a b : Nat) (ha : (words a).length ≤ 68719476736) (hb : (words b).length ≤ 68719476736) : Fa Tryz.prog 73 [.c (ws false (words a)), .c (ws false (words b))] (.c (.int .i64 (cmpN a b))) := by
  have := cmp_fa (words a) (words b) (words_lt a) (words_lt b) ha hb
  rwa [val_words, val_words] at this
theorem gcdW (a b : Nat) (ha : (words a).length ≤ 68719476736) (hb : (words b).length ≤ 68719476736) : Fa Tryz.prog 111 [.c (ws false (words a)), .c (ws false (words b))] (.c (ws true (words (Nat.gcd a b)))) := by
  have := gcd_fa (words a) (words b) (words_lt a) (words_lt b) ha hb
  rwa [val_words, val_words] at this
theorem divW (a b : Nat) (ha : (words a).length ≤ 68719476736) (hb : (words b).length ≤ 68719476736) (h : b ≠ 0) : Fa Tryz.prog 113 [.c (ws false (words a)), .c (ws false (words b))] (.tup [.c (ws true (words (a / b))), .c (ws true (words (a % b))), .c .nilI]) := by
  have := div_fa (words a) (words b) (words_lt a) (words_lt b) ha hb (by rw [val_words]; exact h)
  rwa [val_words, val_words] at this
theorem bitsW (a : Nat) (ha : (words a).length ≤ 68719476736) : Fa Tryz.prog 112 [.c (ws false (words a))] (.c (.int .i64 (bitlen a : Nat))) := by
  have := bits_fa (words a) (words_lt a) ha
  rwa [val_words] at this

theorem some_of {r : RD} (h1 : r.valid = true) (h2 : ((r.num.length : Int) == 0) = false) : r.some = true := by
  have : r.num.length ≠ 0 := fun e => by rw [e] at h2; cases h2
  simp [RD.some, h1, this]
theorem none_of {r : RD} (h : r.valid = false ∨ ((r.num.length : Int) == 0) = true) : r.some = false := by
  rcases h with h | h
  · simp [RD.some, h]
  · have : r.num.length = 0 := by have := eq_of_beq h; omega
    simp [RD.some, this]
theorem wf_mono {r : RD} {L M : Nat} (h : r.wf L) (hm : L ≤ M) : r.wf M := ⟨h.1, h.2.1, Nat.le_trans h.2.2.1 hm, Nat.le_trans h.2.2.2 hm⟩

abbrev partsAV (r : RD) : AV := .tup [.c (.bool r.ps), .c (ws true (words r.pn)), .c (ws true (words r.pd))]
set_option maxHeartbeats 1600000 in
theorem rparts_fa (r : RD) (hw : r.wf 1073741824) : Fa Tryz.prog 43 [.agg (rdc r)] (partsAV r) := by
  refine fa_of_body Tryz.func43 rfl rfl (by simp [Tryz.ntmps43]) fun C hC => ?_
  simp only [initS, Nat.reduceAdd]
  refine xG ?_
  refine xB fun g1 hn_g1=>?_
  refine yG hn_g1 ?_
  refine yC hn_g1 (rvalid_fa r (wf_mono hw ?_)) ?_
  · omega
  refine yG hn_g1 ?_
  refine aw_split 8 (zE hn_g1) (fun hv => ?_) (fun hv => ?_) <;> refine yS hn_g1 ?_
  · have hs := RD.pn_none (none_of (r := r) (.inl (by simpa using hv)))
    refine yG hn_g1 ?_
    refine yP hn_g1 ?_
    refine yG hn_g1 ?_
    refine yC hn_g1 (one_fa) ?_
    refine yG hn_g1 ?_
    refine yT hC hn_g1 ?_
    refine .tup ⟨.c (ler_bool hs.2.2.symm), .c ?_, .c ?_, trivial⟩
    · rw [hs.1]; exact .nils
    · rw [hs.2.1]; exact ler_ws
  · have hv' : r.valid = true := by simpa using hv
    refine yG hn_g1 ?_
    refine yF hn_g1 (fun hn=>?_) fun hn=>?_
    · have hs := RD.pn_none (none_of (r := r) (.inr hn))
      refine yG hn_g1 ?_
      refine yC hn_g1 (one_fa) ?_
      refine yG hn_g1 ?_
      refine yT hC hn_g1 ?_
      refine .tup ⟨.c (ler_bool hs.2.2.symm), .c ?_, .c ?_, trivial⟩
      · rw [hs.1]; exact .nils
      · rw [hs.2.1]; exact ler_ws
    · have hs := RD.pn_words hw (some_of hv' hn)
      refine yG hn_g1 ?_
      refine aw_dr 9 ty_mixed (by kernel_rfl) ?_
      refine yG hn_g1 ?_
      refine yT hC hn_g1 ?_
      refine .tup ⟨.c (ler_bool hs.2.2.symm), .c ?_, .c ?_, trivial⟩
      · rw [hs.1]; exact ler_ws
      · rw [hs.2.1]; exact ler_ws

theorem lerl_rd {h : Heap} {r : RD} : LeRL h (rdc r) (rdc r) := ⟨.bool _, ler_ws, ler_ws, trivial⟩
theorem ler_rd {h : Heap} {r s : RD} (e : r = s) : LeRA h (.agg (rdc r)) (.agg (rdc s)) := by subst e; exact .one (.agg lerl_rd)
set_option maxHeartbeats 1600000 in
theorem rform_fa (neg : Bool) (n d : Nat) (hn : (words n).length ≤ 68719476736) (hd : (words d).length ≤ 68719476736) (h0 : d ≠ 0) :
    Fa Tryz.prog 70 [.c (.bool neg), .c (ws false (words n)), .c (ws false (words d))] (.agg (rdc (rd (sq neg n d)))) := by
  refine fa_of_body Tryz.func70 rfl rfl (by simp [Tryz.ntmps70]) fun C hC => ?_
  simp only [initS, Nat.reduceAdd]
  refine xG ?_
  refine xA fun g6 hn_g6=>?_
  refine yG hn_g6 ?_
  refine yC hn_g6 (bitsW n hn) ?_
  refine yG hn_g6 ?_
  refine yF hn_g6 (fun hb=>?_) fun hb=>?_
  · have hz : n = 0 := bitlen_zero.1 (by have := eq_of_beq hb; omega)
    refine yG hn_g6 ?_
    refine yW hn_g6 ?_
    refine yS hn_g6 ?_
    refine yG hn_g6 ?_
    refine yT hC hn_g6 ?_
    rw [hz, sq_zero, rd_zero]
    exact .one (.agg ⟨.bool _, .nils, .nils, trivial⟩)
  · have hz : n ≠ 0 := fun e => by rw [e] at hb; cases hb
    have hg : Nat.gcd n d ≠ 0 := fun e => h0 (Nat.eq_zero_of_gcd_eq_zero_right e)
    have hgl : (words (Nat.gcd n d)).length ≤ 68719476736 := Nat.le_trans (words_len_mono (Nat.gcd_le_left _ (Nat.pos_of_ne_zero hz))) hn
    refine yG hn_g6 ?_
    refine yC hn_g6 (gcdW n d hn hd) ?_
    refine yG hn_g6 ?_
    refine yC hn_g6 (divW n (Nat.gcd n d) hn hgl hg) ?_
    refine yG hn_g6 ?_
    refine yC hn_g6 (divW d (Nat.gcd n d) hd hgl hg) ?_
    refine yG hn_g6 ?_
    refine yW hn_g6 ?_
    refine yS hn_g6 ?_
    refine yG hn_g6 ?_
    refine yT hC hn_g6 ?_
    rw [rd_sq hz h0]
    exact .one (.agg ⟨.bool _, ler_ws, ler_ws, trivial⟩)
end Go.Proofs.YtmfmnmkipjpjhaaGreatDoor

/- rational: size, Of, Neg, Sign, Add, Sub, Mul, Cmp, Prob. -/
namespace Go.Proofs.YtmfmnmkipjpjhaaGreatDoor
open Go.AI Go.PN
attribute [local irreducible] aw Fa Fh DrK
theorem words_min : words 9223372036854775808 = [0, 2147483648] := by
  rw [words_cons (by omega), words_cons (by omega), show (9223372036854775808 / 4294967296 / 4294967296 : Nat) = 0 from rfl, words_zero]
theorem int_neg {n : Int} (h0 : -9223372036854775808 < n) (h1 : n ≤ 9223372036854775807) : wrapZ .i64 (0 - n) = -n := by
  rw [wrapZ_eq, wrap_inRange (k := .i64) (by simp only [inRange]; omega)]; omega
theorem words_small {n : Nat} (h : n ≤ 9223372036854775808) : (words n).length ≤ 2 := words_len_le (Nat.lt_of_le_of_lt h (by decide))

set_option maxHeartbeats 800000 in
theorem rsize_fa (n : Int) (h0 : -9223372036854775808 ≤ n) (h1 : n ≤ 9223372036854775807) : Fa Tryz.prog 71 [.c (.int .i64 n)] (.c (ws true (words n.natAbs))) := by
  refine fa_of_body Tryz.func71 rfl rfl (by simp [Tryz.ntmps71]) fun C hC => ?_
  simp only [initS, Nat.reduceAdd]
  refine xG ?_
  refine xF (fun hb=>?_) fun hb=>?_
  · have hn : n = -9223372036854775808 := eq_of_beq hb
    refine xG ?_
    refine aw_buildSlice (xs := [.const (.int .u32 0), .const (.int .u32 2147483648)]) (cells := [.int .u32 0, .int .u32 2147483648]) rfl rfl rfl ty_e_ws (by rw [envP, ty_z_u32]; rfl) rfl (by omega) (by omega) (by intro x hx; simp only [List.mem_cons, List.not_mem_nil, or_false] at hx; rcases hx with rfl | rfl <;> exact ⟨rfl, rfl, rfl⟩) rfl fun g hg => ?_
    refine xS ?_
    refine xG ?_
    refine xT hC ?_
    subst hn
    rw [show ((-9223372036854775808 : Int).natAbs) = 9223372036854775808 from rfl, words_min]
    exact .one (.c (ler_oslws eE (by simp) rfl (fun j hj => by match j, hj with | 0, _ => rfl | 1, _ => rfl)))
  · have hn : n ≠ -9223372036854775808 := fun e => by rw [e] at hb; cases hb
    refine xG ?_
    rw [int_neg (by omega) h1]
    have hm : (if -n > n then -n else n) = (n.natAbs : Int) := by split <;> omega
    rw [hm]
    refine xC (of_fa (n.natAbs : Int) ?_ ?_) ?_
    · omega
    · omega
    refine xG ?_
    refine xT hC ?_
    exact .one (.c ler_ws)

/-- A whole number. -/
theorem sq_int (n : Int) : sq (decide (n < 0)) n.natAbs 1 = (n : Rat) := by
  unfold sq sgn
  rw [Rat.mkRat_one]
  congr 1
  split
  · rename_i h; simp only [decide_eq_true_eq] at h; omega
  · rename_i h; simp only [decide_eq_true_eq] at h; omega
set_option maxHeartbeats 800000 in
theorem rof_fa (n : Int) (h0 : -9223372036854775808 ≤ n) (h1 : n ≤ 9223372036854775807) : Fa Tryz.prog 75 [.c (.int .i64 n)] (.agg (rdc (rd (n : Rat)))) := by
  have hl := words_small (n := n.natAbs) (by omega)
  refine fa_of_body Tryz.func75 rfl rfl (by simp [Tryz.ntmps75]) fun C hC => ?_
  simp only [initS, Nat.reduceAdd]
  refine xG ?_
  refine xA fun g2 hn_g2=>?_
  refine yG hn_g2 ?_
  refine yC hn_g2 (rsize_fa n h0 h1) ?_
  refine yG hn_g2 ?_
  refine yC hn_g2 (one_fa) ?_
  refine yG hn_g2 ?_
  rw [show ([1] : List Nat) = words 1 from words_one.symm]
  refine yC hn_g2 (rform_fa _ n.natAbs 1 ?_ ?_ ?_) ?_
  · omega
  · rw [words_one]; simp
  · omega
  refine yG hn_g2 ?_
  refine yW hn_g2 ?_
  refine yS hn_g2 ?_
  refine yG hn_g2 ?_
  refine yT hC hn_g2 ?_
  exact ler_rd (by rw [sq_int])

set_option maxHeartbeats 800000 in
theorem rneg_fa (r : RD) (hw : r.wf 1073741824) : Fa Tryz.prog 91 [.agg (rdc r)] (.agg (rdc (rd (-r.q)))) := by
  obtain ⟨hl1, hl2⟩ := RD.p_len hw (by omega)
  refine fa_of_body Tryz.func91 rfl rfl (by simp [Tryz.ntmps91]) fun C hC => ?_
  simp only [initS, Nat.reduceAdd]
  refine xG ?_
  refine xB fun g1 hn_g1=>?_
  refine yA hn_g1 fun g2 hn_g2=>?_
  refine yG (oj hn_g1 hn_g2) ?_
  refine yC (oj hn_g1 hn_g2) (rparts_fa r hw) ?_
  refine yG (oj hn_g1 hn_g2) ?_
  refine yC (oj hn_g1 hn_g2) (rform_fa _ r.pn r.pd ?_ ?_ (RD.pd_ne hw)) ?_
  · omega
  · omega
  refine yG (oj hn_g1 hn_g2) ?_
  refine yW (oj hn_g1 hn_g2) ?_
  refine yS (oj hn_g1 hn_g2) ?_
  refine yG (oj hn_g1 hn_g2) ?_
  refine yT hC (oj hn_g1 hn_g2) ?_
  exact ler_rd (by rw [sq_neg]; rfl)

theorem sign_zero {r : RD} {L : Nat} (hw : r.wf L) (h : (((words r.pn).length : Int) == 0) = true) : 0 = signQ r.q := by
  have h1 : r.pn = 0 := words_eq_nil.1 (List.length_eq_zero_iff.1 (by have := eq_of_beq h; omega))
  unfold RD.q
  rw [h1, sq_zero]; rfl
theorem sign_some {r : RD} {L : Nat} (hw : r.wf L) (h : (((words r.pn).length : Int) == 0) = false) : signQ r.q = if r.ps then -1 else 1 := by
  have h1 : r.pn ≠ 0 := fun e => by rw [e, words_zero] at h; cases h
  unfold signQ RD.q
  rw [if_neg (sq_ne h1 (RD.pd_ne hw))]
  have := sq_lt (neg := r.ps) h1 (RD.pd_ne hw)
  simp only [this]
set_option maxHeartbeats 800000 in
theorem rsign_fa (r : RD) (hw : r.wf 1073741824) : Fa Tryz.prog 15 [.agg (rdc r)] (.c (.int .i64 (signQ r.q))) := by
  refine fa_of_body Tryz.func15 rfl rfl (by simp [Tryz.ntmps15]) fun C hC => ?_
  simp only [initS, Nat.reduceAdd]
  refine xG ?_
  refine xB fun g1 hn_g1=>?_
  refine yG hn_g1 ?_
  refine yC hn_g1 (rparts_fa r hw) ?_
  refine yG hn_g1 ?_
  refine yF hn_g1 (fun hb=>?_) fun hb=>?_
  · refine yG hn_g1 ?_
    refine yT hC hn_g1 ?_
    exact .one (.c (ler_int (sign_zero hw hb)))
  · refine yG hn_g1 ?_
    refine yF hn_g1 (fun hp=>?_) fun hp=>?_
    · refine yG hn_g1 ?_
      refine yT hC hn_g1 ?_
      refine .one (.c (ler_int ?_))
      rw [sign_some hw hb, hp]; rfl
    · refine yG hn_g1 ?_
      refine yT hC hn_g1 ?_
      refine .one (.c (ler_int ?_))
      rw [sign_some hw hb, hp]; rfl

theorem not_of_bne {a b : Bool} (h : (a == b) = false) : b = !a := by cases a <;> cases b <;> simp_all
set_option maxHeartbeats 1600000 in
theorem radd_fa (a b : RD) (ha : a.wf 1073741824) (hb : b.wf 1073741824) : Fa Tryz.prog 90 [.agg (rdc a), .agg (rdc b)] (.agg (rdc (rd (a.q + b.q)))) := by
  obtain ⟨l1, l2⟩ := RD.p_len ha (by omega)
  obtain ⟨l3, l4⟩ := RD.p_len hb (by omega)
  have d1 := RD.pd_ne ha
  have d2 := RD.pd_ne hb
  have dd : a.pd * b.pd ≠ 0 := Nat.mul_ne_zero d1 d2
  have m1 := words_mul_len a.pn b.pd
  have m2 := words_mul_len b.pn a.pd
  have m3 := words_mul_len a.pd b.pd
  have m4 := words_add_len (m := a.pn * b.pd) (n := b.pn * a.pd) (k := 2147483648) (by omega) (by omega)
  refine fa_of_body Tryz.func90 rfl rfl (by simp [Tryz.ntmps90]) fun C hC => ?_
  simp only [initS, Nat.reduceAdd]
  refine xG ?_
  refine xB fun g2 hn_g2=>?_
  refine yB hn_g2 fun g3 hn_g3=>?_
  refine yA (oj hn_g2 hn_g3) fun g4 hn_g4=>?_
  refine yG (oj hn_g2 (oj hn_g3 hn_g4)) ?_
  refine yC (oj hn_g2 (oj hn_g3 hn_g4)) (rparts_fa a ha) ?_
  refine yG (oj hn_g2 (oj hn_g3 hn_g4)) ?_
  refine yC (oj hn_g2 (oj hn_g3 hn_g4)) (rparts_fa b hb) ?_
  refine yG (oj hn_g2 (oj hn_g3 hn_g4)) ?_
  refine yC (oj hn_g2 (oj hn_g3 hn_g4)) (mulW a.pn b.pd ?_ ?_) ?_
  · omega
  · omega
  refine yG (oj hn_g2 (oj hn_g3 hn_g4)) ?_
  refine yC (oj hn_g2 (oj hn_g3 hn_g4)) (mulW b.pn a.pd ?_ ?_) ?_
  · omega
  · omega
  refine yG (oj hn_g2 (oj hn_g3 hn_g4)) ?_
  refine yC (oj hn_g2 (oj hn_g3 hn_g4)) (mulW a.pd b.pd ?_ ?_) ?_
  · omega
  · omega
  refine yG (oj hn_g2 (oj hn_g3 hn_g4)) ?_
  refine yF (oj hn_g2 (oj hn_g3 hn_g4)) (fun hs=>?_) fun hs=>?_
  · have hs' : a.ps = b.ps := eq_of_beq hs
    refine yG (oj hn_g2 (oj hn_g3 hn_g4)) ?_
    refine yC (oj hn_g2 (oj hn_g3 hn_g4)) (addW _ _ ?_ ?_) ?_
    · omega
    · omega
    refine yG (oj hn_g2 (oj hn_g3 hn_g4)) ?_
    refine yC (oj hn_g2 (oj hn_g3 hn_g4)) (rform_fa _ _ _ ?_ ?_ dd) ?_
    · omega
    · omega
    refine yG (oj hn_g2 (oj hn_g3 hn_g4)) ?_
    refine yW (oj hn_g2 (oj hn_g3 hn_g4)) ?_
    refine yS (oj hn_g2 (oj hn_g3 hn_g4)) ?_
    refine yG (oj hn_g2 (oj hn_g3 hn_g4)) ?_
    refine yT hC (oj hn_g2 (oj hn_g3 hn_g4)) ?_
    refine ler_rd ?_
    rw [sq_add_same _ d1 d2]
    unfold RD.q; rw [hs']
  · have hs' : b.ps = !a.ps := not_of_bne hs
    refine yG (oj hn_g2 (oj hn_g3 hn_g4)) ?_
    refine yC (oj hn_g2 (oj hn_g3 hn_g4)) (cmpW _ _ ?_ ?_) ?_
    · omega
    · omega
    refine yG (oj hn_g2 (oj hn_g3 hn_g4)) ?_
    refine yF (oj hn_g2 (oj hn_g3 hn_g4)) (fun hc=>?_) fun hc=>?_
    · have hle : b.pn * a.pd ≤ a.pn * b.pd := by
        have := of_decide_eq_true hc
        unfold cmpN at this
        split at this
        · omega
        · omega
      have hl5 := words_len_mono (Nat.sub_le (a.pn * b.pd) (b.pn * a.pd))
      refine yG (oj hn_g2 (oj hn_g3 hn_g4)) ?_
      refine yC (oj hn_g2 (oj hn_g3 hn_g4)) (subW _ _ ?_ ?_ hle) ?_
      · omega
      · omega
      refine yG (oj hn_g2 (oj hn_g3 hn_g4)) ?_
      refine yC (oj hn_g2 (oj hn_g3 hn_g4)) (rform_fa _ _ _ ?_ ?_ dd) ?_
      · omega
      · omega
      refine yG (oj hn_g2 (oj hn_g3 hn_g4)) ?_
      refine yW (oj hn_g2 (oj hn_g3 hn_g4)) ?_
      refine yS (oj hn_g2 (oj hn_g3 hn_g4)) ?_
      refine yG (oj hn_g2 (oj hn_g3 hn_g4)) ?_
      refine yT hC (oj hn_g2 (oj hn_g3 hn_g4)) ?_
      refine ler_rd ?_
      rw [sq_add_ge _ d1 d2 hle]
      unfold RD.q; rw [hs']
    · have hle : a.pn * b.pd ≤ b.pn * a.pd := by
        have := of_decide_eq_false hc
        unfold cmpN at this
        split at this
        · omega
        · split at this <;> omega
      have hl5 := words_len_mono (Nat.sub_le (b.pn * a.pd) (a.pn * b.pd))
      refine yG (oj hn_g2 (oj hn_g3 hn_g4)) ?_
      refine yC (oj hn_g2 (oj hn_g3 hn_g4)) (subW _ _ ?_ ?_ hle) ?_
      · omega
      · omega
      refine yG (oj hn_g2 (oj hn_g3 hn_g4)) ?_
      refine yC (oj hn_g2 (oj hn_g3 hn_g4)) (rform_fa _ _ _ ?_ ?_ dd) ?_
      · omega
      · omega
      refine yG (oj hn_g2 (oj hn_g3 hn_g4)) ?_
      refine yW (oj hn_g2 (oj hn_g3 hn_g4)) ?_
      refine yS (oj hn_g2 (oj hn_g3 hn_g4)) ?_
      refine yG (oj hn_g2 (oj hn_g3 hn_g4)) ?_
      refine yT hC (oj hn_g2 (oj hn_g3 hn_g4)) ?_
      refine ler_rd ?_
      rw [hs', sq_add_lt _ d1 d2 hle]
      unfold RD.q; rw [hs']
set_option maxHeartbeats 800000 in
theorem rmul_fa (a b : RD) (ha : a.wf 1073741824) (hb : b.wf 1073741824) : Fa Tryz.prog 147 [.agg (rdc a), .agg (rdc b)] (.agg (rdc (rd (a.q * b.q)))) := by
  obtain ⟨l1, l2⟩ := RD.p_len ha (by omega)
  obtain ⟨l3, l4⟩ := RD.p_len hb (by omega)
  have d1 := RD.pd_ne ha
  have d2 := RD.pd_ne hb
  have dd : a.pd * b.pd ≠ 0 := Nat.mul_ne_zero d1 d2
  have m1 := words_mul_len a.pn b.pn
  have m3 := words_mul_len a.pd b.pd
  refine fa_of_body Tryz.func147 rfl rfl (by simp [Tryz.ntmps147]) fun C hC => ?_
  simp only [initS, Nat.reduceAdd]
  refine xG ?_
  refine xB fun g2 hn_g2=>?_
  refine yB hn_g2 fun g3 hn_g3=>?_
  refine yA (oj hn_g2 hn_g3) fun g4 hn_g4=>?_
  refine yG (oj hn_g2 (oj hn_g3 hn_g4)) ?_
  refine yC (oj hn_g2 (oj hn_g3 hn_g4)) (rparts_fa a ha) ?_
  refine yG (oj hn_g2 (oj hn_g3 hn_g4)) ?_
  refine yC (oj hn_g2 (oj hn_g3 hn_g4)) (rparts_fa b hb) ?_
  refine yG (oj hn_g2 (oj hn_g3 hn_g4)) ?_
  refine yC (oj hn_g2 (oj hn_g3 hn_g4)) (mulW _ _ ?_ ?_) ?_
  · omega
  · omega
  refine yG (oj hn_g2 (oj hn_g3 hn_g4)) ?_
  refine yC (oj hn_g2 (oj hn_g3 hn_g4)) (mulW _ _ ?_ ?_) ?_
  · omega
  · omega
  refine yG (oj hn_g2 (oj hn_g3 hn_g4)) ?_
  refine yC (oj hn_g2 (oj hn_g3 hn_g4)) (rform_fa _ _ _ ?_ ?_ dd) ?_
  · omega
  · omega
  refine yG (oj hn_g2 (oj hn_g3 hn_g4)) ?_
  refine yW (oj hn_g2 (oj hn_g3 hn_g4)) ?_
  refine yS (oj hn_g2 (oj hn_g3 hn_g4)) ?_
  refine yG (oj hn_g2 (oj hn_g3 hn_g4)) ?_
  refine yT hC (oj hn_g2 (oj hn_g3 hn_g4)) ?_
  exact ler_rd (by rw [sq_mul]; rfl)
theorem neg_wf {r : RD} (hw : r.wf 1073741824) : (rd (-r.q)).wf 1073741824 := rd_wf (fits_neg (RD.fits hw (by omega)))
set_option maxHeartbeats 800000 in
theorem rsub_fa (a b : RD) (ha : a.wf 1073741824) (hb : b.wf 1073741824) : Fa Tryz.prog 55 [.agg (rdc a), .agg (rdc b)] (.agg (rdc (rd (a.q - b.q)))) := by
  refine fa_of_body Tryz.func55 rfl rfl (by simp [Tryz.ntmps55]) fun C hC => ?_
  simp only [initS, Nat.reduceAdd]
  refine xG ?_
  refine xB fun g2 hn_g2=>?_
  refine yB hn_g2 fun g3 hn_g3=>?_
  refine yA (oj hn_g2 hn_g3) fun g4 hn_g4=>?_
  refine yG (oj hn_g2 (oj hn_g3 hn_g4)) ?_
  refine aw_dr 4 ty_mixed (by kernel_rfl) ?_
  refine yG (oj hn_g2 (oj hn_g3 hn_g4)) ?_
  refine yD (oj hn_g2 (oj hn_g3 hn_g4)) (rneg_fa b hb) ?_
  refine yG (oj hn_g2 (oj hn_g3 hn_g4)) ?_
  refine yD (oj hn_g2 (oj hn_g3 hn_g4)) (radd_fa a (rd (-b.q)) ha (neg_wf hb)) ?_
  refine yG (oj hn_g2 (oj hn_g3 hn_g4)) ?_
  refine yW (oj hn_g2 (oj hn_g3 hn_g4)) ?_
  refine yS (oj hn_g2 (oj hn_g3 hn_g4)) ?_
  refine yG (oj hn_g2 (oj hn_g3 hn_g4)) ?_
  refine yT hC (oj hn_g2 (oj hn_g3 hn_g4)) ?_
  exact ler_rd (by rw [rd_q, Rat.sub_eq_add_neg])
end Go.Proofs.YtmfmnmkipjpjhaaGreatDoor
