/- Texts of one proof, laid one behind the other by a program (merge.py): TyA, Rat1, Rat2, Rat3. -/
import Derived.Test.YtlpejaefobdajaaGreatProg
import Derived.Test.YtlpejaefobdajaaGreatK05
import Derived.KernelRfl
import Derived.Test.YtlpejaefobdajaaGreatK11
import Derived.Test.YtlpejaefobdajaaGreatK09
set_option linter.unusedSimpArgs false
set_option linter.unusedVariables false
/- The types of the program, as the evaluator asks for them; printed by a program (gen_ty.py). -/
namespace Go.Proofs.YtlpejaefobdajaaGreat
open Go.AI
@[go_sem] theorem tya_s_2 : tSz Tryz.prog 2 = some (false, 1) := by kernel_rfl
@[go_sem] theorem tya_zi_2 : tZI Tryz.prog 2 = some (.i64, 0) := by kernel_rfl
@[go_sem] theorem tya_i_2 : tInt Tryz.prog 2 = some .i64 := by kernel_rfl
@[go_sem] theorem tya_z_2 : tZero Tryz.prog 2 = some [.int .i64 0] := by kernel_rfl
@[go_sem] theorem tya_s_3 : tSz Tryz.prog 3 = some (false, 1) := by kernel_rfl
@[go_sem] theorem tya_zi_3 : tZI Tryz.prog 3 = some (.i64, 0) := by kernel_rfl
@[go_sem] theorem tya_i_3 : tInt Tryz.prog 3 = some .i64 := by kernel_rfl
@[go_sem] theorem tya_z_3 : tZero Tryz.prog 3 = some [.int .i64 0] := by kernel_rfl
@[go_sem] theorem tya_s_4 : tSz Tryz.prog 4 = some (false, 1) := by kernel_rfl
@[go_sem] theorem tya_b_4 : tBool Tryz.prog 4 = true := by kernel_rfl
@[go_sem] theorem tya_z_4 : tZero Tryz.prog 4 = some [.bool false] := by kernel_rfl
@[go_sem] theorem tya_s_5 : tSz Tryz.prog 5 = some (false, 1) := by kernel_rfl
@[go_sem] theorem tya_zi_5 : tZI Tryz.prog 5 = some (.u8, 0) := by kernel_rfl
@[go_sem] theorem tya_i_5 : tInt Tryz.prog 5 = some .u8 := by kernel_rfl
@[go_sem] theorem tya_z_5 : tZero Tryz.prog 5 = some [.int .u8 0] := by kernel_rfl
@[go_sem] theorem tya_s_6 : tSz Tryz.prog 6 = some (false, 1) := by kernel_rfl
@[go_sem] theorem tya_zi_6 : tZI Tryz.prog 6 = some (.u8, 0) := by kernel_rfl
@[go_sem] theorem tya_i_6 : tInt Tryz.prog 6 = some .u8 := by kernel_rfl
@[go_sem] theorem tya_z_6 : tZero Tryz.prog 6 = some [.int .u8 0] := by kernel_rfl
@[go_sem] theorem tya_s_7 : tSz Tryz.prog 7 = some (true, 4) := by kernel_rfl
@[go_sem] theorem tya_fl_7 : tFlds Tryz.prog 7 = some [(0, 1), (1, 1), (2, 1), (3, 1)] := by kernel_rfl
@[go_sem] theorem tya_f0_7 : tFld Tryz.prog 7 0 = some 0 := by kernel_rfl
@[go_sem] theorem tya_f1_7 : tFld Tryz.prog 7 1 = some 1 := by kernel_rfl
@[go_sem] theorem tya_f2_7 : tFld Tryz.prog 7 2 = some 2 := by kernel_rfl
@[go_sem] theorem tya_f3_7 : tFld Tryz.prog 7 3 = some 3 := by kernel_rfl
@[go_sem] theorem tya_z_7 : tZero Tryz.prog 7 = some [.int .i64 0, .int .i64 0, .bool false, .int .u8 0] := by kernel_rfl
@[go_sem] theorem tya_s_8 : tSz Tryz.prog 8 = some (true, 4) := by kernel_rfl
@[go_sem] theorem tya_fl_8 : tFlds Tryz.prog 8 = some [(0, 1), (1, 1), (2, 1), (3, 1)] := by kernel_rfl
@[go_sem] theorem tya_f0_8 : tFld Tryz.prog 8 0 = some 0 := by kernel_rfl
@[go_sem] theorem tya_f1_8 : tFld Tryz.prog 8 1 = some 1 := by kernel_rfl
@[go_sem] theorem tya_f2_8 : tFld Tryz.prog 8 2 = some 2 := by kernel_rfl
@[go_sem] theorem tya_f3_8 : tFld Tryz.prog 8 3 = some 3 := by kernel_rfl
@[go_sem] theorem tya_z_8 : tZero Tryz.prog 8 = some [.int .i64 0, .int .i64 0, .bool false, .int .u8 0] := by kernel_rfl
@[go_sem] theorem tya_s_9 : tSz Tryz.prog 9 = some (false, 1) := by kernel_rfl
@[go_sem] theorem tya_z_9 : tZero Tryz.prog 9 = some [.str ⟨#[]⟩] := by kernel_rfl
@[go_sem] theorem tya_s_10 : tSz Tryz.prog 10 = some (false, 1) := by kernel_rfl
@[go_sem] theorem tya_z_10 : tZero Tryz.prog 10 = some [.str ⟨#[]⟩] := by kernel_rfl
@[go_sem] theorem tya_s_11 : tSz Tryz.prog 11 = some (false, 1) := by kernel_rfl
@[go_sem] theorem tya_z_11 : tZero Tryz.prog 11 = some [.str ⟨#[]⟩] := by kernel_rfl
@[go_sem] theorem tya_s_12 : tSz Tryz.prog 12 = some (false, 1) := by kernel_rfl
@[go_sem] theorem tya_zi_12 : tZI Tryz.prog 12 = some (.u64, 0) := by kernel_rfl
@[go_sem] theorem tya_i_12 : tInt Tryz.prog 12 = some .u64 := by kernel_rfl
@[go_sem] theorem tya_z_12 : tZero Tryz.prog 12 = some [.int .u64 0] := by kernel_rfl
@[go_sem] theorem tya_s_13 : tSz Tryz.prog 13 = some (true, 2) := by kernel_rfl
@[go_sem] theorem tya_fl_13 : tFlds Tryz.prog 13 = some [(0, 1), (1, 1)] := by kernel_rfl
@[go_sem] theorem tya_f0_13 : tFld Tryz.prog 13 0 = some 0 := by kernel_rfl
@[go_sem] theorem tya_f1_13 : tFld Tryz.prog 13 1 = some 1 := by kernel_rfl
@[go_sem] theorem tya_z_13 : tZero Tryz.prog 13 = some [.str ⟨#[]⟩, .int .u64 0] := by kernel_rfl
@[go_sem] theorem tya_s_14 : tSz Tryz.prog 14 = some (true, 2) := by kernel_rfl
@[go_sem] theorem tya_fl_14 : tFlds Tryz.prog 14 = some [(0, 1), (1, 1)] := by kernel_rfl
@[go_sem] theorem tya_f0_14 : tFld Tryz.prog 14 0 = some 0 := by kernel_rfl
@[go_sem] theorem tya_f1_14 : tFld Tryz.prog 14 1 = some 1 := by kernel_rfl
@[go_sem] theorem tya_z_14 : tZero Tryz.prog 14 = some [.str ⟨#[]⟩, .int .u64 0] := by kernel_rfl
@[go_sem] theorem tya_s_15 : tSz Tryz.prog 15 = some (false, 1) := by kernel_rfl
@[go_sem] theorem tya_z_15 : tZero Tryz.prog 15 = some [.raw (.pointer none)] := by kernel_rfl
@[go_sem] theorem tya_s_16 : tSz Tryz.prog 16 = some (false, 1) := by kernel_rfl
@[go_sem] theorem tya_z_16 : tZero Tryz.prog 16 = some [.raw (.pointer none)] := by kernel_rfl
@[go_sem] theorem tya_s_17 : tSz Tryz.prog 17 = some (false, 1) := by kernel_rfl
@[go_sem] theorem tya_z_17 : tZero Tryz.prog 17 = some [.raw (.pointer none)] := by kernel_rfl
@[go_sem] theorem tya_s_18 : tSz Tryz.prog 18 = some (true, 1) := by kernel_rfl
@[go_sem] theorem tya_fl_18 : tFlds Tryz.prog 18 = some [(0, 1)] := by kernel_rfl
@[go_sem] theorem tya_f0_18 : tFld Tryz.prog 18 0 = some 0 := by kernel_rfl
@[go_sem] theorem tya_z_18 : tZero Tryz.prog 18 = some [.raw (.pointer none)] := by kernel_rfl
@[go_sem] theorem tya_s_19 : tSz Tryz.prog 19 = some (true, 1) := by kernel_rfl
@[go_sem] theorem tya_fl_19 : tFlds Tryz.prog 19 = some [(0, 1)] := by kernel_rfl
@[go_sem] theorem tya_f0_19 : tFld Tryz.prog 19 0 = some 0 := by kernel_rfl
@[go_sem] theorem tya_z_19 : tZero Tryz.prog 19 = some [.raw (.pointer none)] := by kernel_rfl
@[go_sem] theorem tya_s_20 : tSz Tryz.prog 20 = some (false, 1) := by kernel_rfl
@[go_sem] theorem tya_c_20 : tIfc Tryz.prog 20 = true := by kernel_rfl
@[go_sem] theorem tya_z_20 : tZero Tryz.prog 20 = some [.nilI] := by kernel_rfl
@[go_sem] theorem tya_s_21 : tSz Tryz.prog 21 = some (false, 1) := by kernel_rfl
@[go_sem] theorem tya_zi_21 : tZI Tryz.prog 21 = some (.i32, 0) := by kernel_rfl
@[go_sem] theorem tya_i_21 : tInt Tryz.prog 21 = some .i32 := by kernel_rfl
@[go_sem] theorem tya_z_21 : tZero Tryz.prog 21 = some [.int .i32 0] := by kernel_rfl
@[go_sem] theorem tya_e_22 : tElem Tryz.prog 22 = some (3, 1, 8) := by kernel_rfl
@[go_sem] theorem tya_s_22 : tSz Tryz.prog 22 = some (false, 1) := by kernel_rfl
@[go_sem] theorem tya_z_22 : tZero Tryz.prog 22 = some [.nils] := by kernel_rfl
@[go_sem] theorem tya_e_23 : tElem Tryz.prog 23 = some (139, 3, 24) := by kernel_rfl
@[go_sem] theorem tya_s_23 : tSz Tryz.prog 23 = some (false, 1) := by kernel_rfl
@[go_sem] theorem tya_z_23 : tZero Tryz.prog 23 = some [.nils] := by kernel_rfl
@[go_sem] theorem tya_s_24 : tSz Tryz.prog 24 = some (true, 3) := by kernel_rfl
@[go_sem] theorem tya_fl_24 : tFlds Tryz.prog 24 = some [(0, 1), (1, 1), (2, 1)] := by kernel_rfl
@[go_sem] theorem tya_f0_24 : tFld Tryz.prog 24 0 = some 0 := by kernel_rfl
@[go_sem] theorem tya_f1_24 : tFld Tryz.prog 24 1 = some 1 := by kernel_rfl
@[go_sem] theorem tya_f2_24 : tFld Tryz.prog 24 2 = some 2 := by kernel_rfl
@[go_sem] theorem tya_z_24 : tZero Tryz.prog 24 = some [.nils, .nils, .int .i64 0] := by kernel_rfl
@[go_sem] theorem tya_s_25 : tSz Tryz.prog 25 = some (true, 3) := by kernel_rfl
@[go_sem] theorem tya_fl_25 : tFlds Tryz.prog 25 = some [(0, 1), (1, 1), (2, 1)] := by kernel_rfl
@[go_sem] theorem tya_f0_25 : tFld Tryz.prog 25 0 = some 0 := by kernel_rfl
@[go_sem] theorem tya_f1_25 : tFld Tryz.prog 25 1 = some 1 := by kernel_rfl
@[go_sem] theorem tya_f2_25 : tFld Tryz.prog 25 2 = some 2 := by kernel_rfl
@[go_sem] theorem tya_z_25 : tZero Tryz.prog 25 = some [.nils, .nils, .int .i64 0] := by kernel_rfl
@[go_sem] theorem tya_e_26 : tElem Tryz.prog 26 = some (33, 3, 56) := by kernel_rfl
@[go_sem] theorem tya_s_26 : tSz Tryz.prog 26 = some (false, 1) := by kernel_rfl
@[go_sem] theorem tya_z_26 : tZero Tryz.prog 26 = some [.nils] := by kernel_rfl
@[go_sem] theorem tya_s_27 : tSz Tryz.prog 27 = some (true, 2) := by kernel_rfl
@[go_sem] theorem tya_fl_27 : tFlds Tryz.prog 27 = some [(0, 1), (1, 1)] := by kernel_rfl
@[go_sem] theorem tya_f0_27 : tFld Tryz.prog 27 0 = some 0 := by kernel_rfl
@[go_sem] theorem tya_f1_27 : tFld Tryz.prog 27 1 = some 1 := by kernel_rfl
@[go_sem] theorem tya_q_27 : tEqS Tryz.prog 27 = some 2 := by kernel_rfl
@[go_sem] theorem tya_z_27 : tZero Tryz.prog 27 = some [.int .i64 0, .int .i64 0] := by kernel_rfl
@[go_sem] theorem tya_s_28 : tSz Tryz.prog 28 = some (true, 2) := by kernel_rfl
@[go_sem] theorem tya_fl_28 : tFlds Tryz.prog 28 = some [(0, 1), (1, 1)] := by kernel_rfl
@[go_sem] theorem tya_f0_28 : tFld Tryz.prog 28 0 = some 0 := by kernel_rfl
@[go_sem] theorem tya_f1_28 : tFld Tryz.prog 28 1 = some 1 := by kernel_rfl
@[go_sem] theorem tya_q_28 : tEqS Tryz.prog 28 = some 2 := by kernel_rfl
@[go_sem] theorem tya_z_28 : tZero Tryz.prog 28 = some [.int .i64 0, .int .i64 0] := by kernel_rfl
@[go_sem] theorem tya_e_31 : tElem Tryz.prog 31 = some (163, 1, 4) := by kernel_rfl
@[go_sem] theorem tya_s_31 : tSz Tryz.prog 31 = some (false, 1) := by kernel_rfl
@[go_sem] theorem tya_z_31 : tZero Tryz.prog 31 = some [.nils] := by kernel_rfl
@[go_sem] theorem tya_s_32 : tSz Tryz.prog 32 = some (true, 3) := by kernel_rfl
@[go_sem] theorem tya_fl_32 : tFlds Tryz.prog 32 = some [(0, 1), (1, 1), (2, 1)] := by kernel_rfl
@[go_sem] theorem tya_f0_32 : tFld Tryz.prog 32 0 = some 0 := by kernel_rfl
@[go_sem] theorem tya_f1_32 : tFld Tryz.prog 32 1 = some 1 := by kernel_rfl
@[go_sem] theorem tya_f2_32 : tFld Tryz.prog 32 2 = some 2 := by kernel_rfl
@[go_sem] theorem tya_z_32 : tZero Tryz.prog 32 = some [.bool false, .nils, .nils] := by kernel_rfl
@[go_sem] theorem tya_s_33 : tSz Tryz.prog 33 = some (true, 3) := by kernel_rfl
@[go_sem] theorem tya_fl_33 : tFlds Tryz.prog 33 = some [(0, 1), (1, 1), (2, 1)] := by kernel_rfl
@[go_sem] theorem tya_f0_33 : tFld Tryz.prog 33 0 = some 0 := by kernel_rfl
@[go_sem] theorem tya_f1_33 : tFld Tryz.prog 33 1 = some 1 := by kernel_rfl
@[go_sem] theorem tya_f2_33 : tFld Tryz.prog 33 2 = some 2 := by kernel_rfl
@[go_sem] theorem tya_z_33 : tZero Tryz.prog 33 = some [.bool false, .nils, .nils] := by kernel_rfl
@[go_sem] theorem tya_s_34 : tSz Tryz.prog 34 = some (false, 1) := by kernel_rfl
@[go_sem] theorem tya_c_34 : tIfc Tryz.prog 34 = true := by kernel_rfl
@[go_sem] theorem tya_z_34 : tZero Tryz.prog 34 = some [.nilI] := by kernel_rfl
@[go_sem] theorem tya_s_35 : tSz Tryz.prog 35 = some (false, 1) := by kernel_rfl
@[go_sem] theorem tya_c_35 : tIfc Tryz.prog 35 = true := by kernel_rfl
@[go_sem] theorem tya_z_35 : tZero Tryz.prog 35 = some [.nilI] := by kernel_rfl
@[go_sem] theorem tya_s_54 : tSz Tryz.prog 54 = some (true, 4) := by kernel_rfl
@[go_sem] theorem tya_fl_54 : tFlds Tryz.prog 54 = some [(0, 1), (1, 3)] := by kernel_rfl
@[go_sem] theorem tya_f0_54 : tFld Tryz.prog 54 0 = some 0 := by kernel_rfl
@[go_sem] theorem tya_f1_54 : tFld Tryz.prog 54 1 = some 1 := by kernel_rfl
@[go_sem] theorem tya_z_54 : tZero Tryz.prog 54 = some [.int .i64 0, .bool false, .nils, .nils] := by kernel_rfl
@[go_sem] theorem tya_s_55 : tSz Tryz.prog 55 = some (true, 4) := by kernel_rfl
@[go_sem] theorem tya_fl_55 : tFlds Tryz.prog 55 = some [(0, 1), (1, 3)] := by kernel_rfl
@[go_sem] theorem tya_f0_55 : tFld Tryz.prog 55 0 = some 0 := by kernel_rfl
@[go_sem] theorem tya_f1_55 : tFld Tryz.prog 55 1 = some 1 := by kernel_rfl
@[go_sem] theorem tya_z_55 : tZero Tryz.prog 55 = some [.int .i64 0, .bool false, .nils, .nils] := by kernel_rfl
@[go_sem] theorem tya_e_77 : tElem Tryz.prog 77 = some (89, 3, 40) := by kernel_rfl
@[go_sem] theorem tya_s_77 : tSz Tryz.prog 77 = some (false, 1) := by kernel_rfl
@[go_sem] theorem tya_z_77 : tZero Tryz.prog 77 = some [.nils] := by kernel_rfl
@[go_sem] theorem tya_s_78 : tSz Tryz.prog 78 = some (true, 3) := by kernel_rfl
@[go_sem] theorem tya_fl_78 : tFlds Tryz.prog 78 = some [(0, 1), (1, 1), (2, 1)] := by kernel_rfl
@[go_sem] theorem tya_f0_78 : tFld Tryz.prog 78 0 = some 0 := by kernel_rfl
@[go_sem] theorem tya_f1_78 : tFld Tryz.prog 78 1 = some 1 := by kernel_rfl
@[go_sem] theorem tya_f2_78 : tFld Tryz.prog 78 2 = some 2 := by kernel_rfl
@[go_sem] theorem tya_z_78 : tZero Tryz.prog 78 = some [.int .i64 0, .nils, .int .i64 0] := by kernel_rfl
@[go_sem] theorem tya_s_79 : tSz Tryz.prog 79 = some (true, 3) := by kernel_rfl
@[go_sem] theorem tya_fl_79 : tFlds Tryz.prog 79 = some [(0, 1), (1, 1), (2, 1)] := by kernel_rfl
@[go_sem] theorem tya_f0_79 : tFld Tryz.prog 79 0 = some 0 := by kernel_rfl
@[go_sem] theorem tya_f1_79 : tFld Tryz.prog 79 1 = some 1 := by kernel_rfl
@[go_sem] theorem tya_f2_79 : tFld Tryz.prog 79 2 = some 2 := by kernel_rfl
@[go_sem] theorem tya_z_79 : tZero Tryz.prog 79 = some [.int .i64 0, .nils, .int .i64 0] := by kernel_rfl
@[go_sem] theorem tya_e_83 : tElem Tryz.prog 83 = some (4, 1, 1) := by kernel_rfl
@[go_sem] theorem tya_s_83 : tSz Tryz.prog 83 = some (false, 1) := by kernel_rfl
@[go_sem] theorem tya_z_83 : tZero Tryz.prog 83 = some [.nils] := by kernel_rfl
@[go_sem] theorem tya_s_88 : tSz Tryz.prog 88 = some (true, 3) := by kernel_rfl
@[go_sem] theorem tya_fl_88 : tFlds Tryz.prog 88 = some [(0, 1), (1, 1), (2, 1)] := by kernel_rfl
@[go_sem] theorem tya_f0_88 : tFld Tryz.prog 88 0 = some 0 := by kernel_rfl
@[go_sem] theorem tya_f1_88 : tFld Tryz.prog 88 1 = some 1 := by kernel_rfl
@[go_sem] theorem tya_f2_88 : tFld Tryz.prog 88 2 = some 2 := by kernel_rfl
@[go_sem] theorem tya_z_88 : tZero Tryz.prog 88 = some [.int .i64 0, .int .i64 0, .nils] := by kernel_rfl
@[go_sem] theorem tya_s_89 : tSz Tryz.prog 89 = some (true, 3) := by kernel_rfl
@[go_sem] theorem tya_fl_89 : tFlds Tryz.prog 89 = some [(0, 1), (1, 1), (2, 1)] := by kernel_rfl
@[go_sem] theorem tya_f0_89 : tFld Tryz.prog 89 0 = some 0 := by kernel_rfl
@[go_sem] theorem tya_f1_89 : tFld Tryz.prog 89 1 = some 1 := by kernel_rfl
@[go_sem] theorem tya_f2_89 : tFld Tryz.prog 89 2 = some 2 := by kernel_rfl
@[go_sem] theorem tya_z_89 : tZero Tryz.prog 89 = some [.int .i64 0, .int .i64 0, .nils] := by kernel_rfl
@[go_sem] theorem tya_s_95 : tSz Tryz.prog 95 = some (false, 1) := by kernel_rfl
@[go_sem] theorem tya_zi_95 : tZI Tryz.prog 95 = some (.i64, 0) := by kernel_rfl
@[go_sem] theorem tya_i_95 : tInt Tryz.prog 95 = some .i64 := by kernel_rfl
@[go_sem] theorem tya_z_95 : tZero Tryz.prog 95 = some [.int .i64 0] := by kernel_rfl
@[go_sem] theorem tya_s_96 : tSz Tryz.prog 96 = some (false, 1) := by kernel_rfl
@[go_sem] theorem tya_z_96 : tZero Tryz.prog 96 = some [.raw (.pointer none)] := by kernel_rfl
@[go_sem] theorem tya_s_123 : tSz Tryz.prog 123 = some (true, 2) := by kernel_rfl
@[go_sem] theorem tya_fl_123 : tFlds Tryz.prog 123 = some [(0, 1), (1, 1)] := by kernel_rfl
@[go_sem] theorem tya_f0_123 : tFld Tryz.prog 123 0 = some 0 := by kernel_rfl
@[go_sem] theorem tya_f1_123 : tFld Tryz.prog 123 1 = some 1 := by kernel_rfl
@[go_sem] theorem tya_q_123 : tEqS Tryz.prog 123 = some 2 := by kernel_rfl
@[go_sem] theorem tya_z_123 : tZero Tryz.prog 123 = some [.int .i64 0, .int .i64 0] := by kernel_rfl
@[go_sem] theorem tya_s_124 : tSz Tryz.prog 124 = some (true, 2) := by kernel_rfl
@[go_sem] theorem tya_fl_124 : tFlds Tryz.prog 124 = some [(0, 1), (1, 1)] := by kernel_rfl
@[go_sem] theorem tya_f0_124 : tFld Tryz.prog 124 0 = some 0 := by kernel_rfl
@[go_sem] theorem tya_f1_124 : tFld Tryz.prog 124 1 = some 1 := by kernel_rfl
@[go_sem] theorem tya_q_124 : tEqS Tryz.prog 124 = some 2 := by kernel_rfl
@[go_sem] theorem tya_z_124 : tZero Tryz.prog 124 = some [.int .i64 0, .int .i64 0] := by kernel_rfl
@[go_sem] theorem tya_e_125 : tElem Tryz.prog 125 = some (25, 3, 56) := by kernel_rfl
@[go_sem] theorem tya_s_125 : tSz Tryz.prog 125 = some (false, 1) := by kernel_rfl
@[go_sem] theorem tya_z_125 : tZero Tryz.prog 125 = some [.nils] := by kernel_rfl
@[go_sem] theorem tya_s_138 : tSz Tryz.prog 138 = some (true, 3) := by kernel_rfl
@[go_sem] theorem tya_fl_138 : tFlds Tryz.prog 138 = some [(0, 1), (1, 1), (2, 1)] := by kernel_rfl
@[go_sem] theorem tya_f0_138 : tFld Tryz.prog 138 0 = some 0 := by kernel_rfl
@[go_sem] theorem tya_f1_138 : tFld Tryz.prog 138 1 = some 1 := by kernel_rfl
@[go_sem] theorem tya_f2_138 : tFld Tryz.prog 138 2 = some 2 := by kernel_rfl
@[go_sem] theorem tya_q_138 : tEqS Tryz.prog 138 = some 3 := by kernel_rfl
@[go_sem] theorem tya_z_138 : tZero Tryz.prog 138 = some [.int .i64 0, .int .i64 0, .int .i64 0] := by kernel_rfl
@[go_sem] theorem tya_s_139 : tSz Tryz.prog 139 = some (true, 3) := by kernel_rfl
@[go_sem] theorem tya_fl_139 : tFlds Tryz.prog 139 = some [(0, 1), (1, 1), (2, 1)] := by kernel_rfl
@[go_sem] theorem tya_f0_139 : tFld Tryz.prog 139 0 = some 0 := by kernel_rfl
@[go_sem] theorem tya_f1_139 : tFld Tryz.prog 139 1 = some 1 := by kernel_rfl
@[go_sem] theorem tya_f2_139 : tFld Tryz.prog 139 2 = some 2 := by kernel_rfl
@[go_sem] theorem tya_q_139 : tEqS Tryz.prog 139 = some 3 := by kernel_rfl
@[go_sem] theorem tya_z_139 : tZero Tryz.prog 139 = some [.int .i64 0, .int .i64 0, .int .i64 0] := by kernel_rfl
@[go_sem] theorem tya_s_152 : tSz Tryz.prog 152 = some (false, 1) := by kernel_rfl
@[go_sem] theorem tya_z_152 : tZero Tryz.prog 152 = some [.raw (.map none)] := by kernel_rfl
@[go_sem] theorem tya_s_155 : tSz Tryz.prog 155 = some (false, 1) := by kernel_rfl
@[go_sem] theorem tya_z_155 : tZero Tryz.prog 155 = some [.raw (.map none)] := by kernel_rfl
@[go_sem] theorem tya_s_156 : tSz Tryz.prog 156 = some (false, 1) := by kernel_rfl
@[go_sem] theorem tya_z_156 : tZero Tryz.prog 156 = some [.raw (.map none)] := by kernel_rfl
@[go_sem] theorem tya_s_157 : tSz Tryz.prog 157 = some (true, 5) := by kernel_rfl
@[go_sem] theorem tya_fl_157 : tFlds Tryz.prog 157 = some [(0, 1), (1, 1), (2, 1), (3, 1), (4, 1)] := by kernel_rfl
@[go_sem] theorem tya_f0_157 : tFld Tryz.prog 157 0 = some 0 := by kernel_rfl
@[go_sem] theorem tya_f1_157 : tFld Tryz.prog 157 1 = some 1 := by kernel_rfl
@[go_sem] theorem tya_f2_157 : tFld Tryz.prog 157 2 = some 2 := by kernel_rfl
@[go_sem] theorem tya_f3_157 : tFld Tryz.prog 157 3 = some 3 := by kernel_rfl
@[go_sem] theorem tya_f4_157 : tFld Tryz.prog 157 4 = some 4 := by kernel_rfl
@[go_sem] theorem tya_z_157 : tZero Tryz.prog 157 = some [.nils, .nils, .nils, .raw (.map none), .raw (.map none)] := by kernel_rfl
@[go_sem] theorem tya_s_158 : tSz Tryz.prog 158 = some (true, 5) := by kernel_rfl
@[go_sem] theorem tya_fl_158 : tFlds Tryz.prog 158 = some [(0, 1), (1, 1), (2, 1), (3, 1), (4, 1)] := by kernel_rfl
@[go_sem] theorem tya_f0_158 : tFld Tryz.prog 158 0 = some 0 := by kernel_rfl
@[go_sem] theorem tya_f1_158 : tFld Tryz.prog 158 1 = some 1 := by kernel_rfl
@[go_sem] theorem tya_f2_158 : tFld Tryz.prog 158 2 = some 2 := by kernel_rfl
@[go_sem] theorem tya_f3_158 : tFld Tryz.prog 158 3 = some 3 := by kernel_rfl
@[go_sem] theorem tya_f4_158 : tFld Tryz.prog 158 4 = some 4 := by kernel_rfl
@[go_sem] theorem tya_z_158 : tZero Tryz.prog 158 = some [.nils, .nils, .nils, .raw (.map none), .raw (.map none)] := by kernel_rfl
@[go_sem] theorem tya_s_160 : tSz Tryz.prog 160 = some (false, 1) := by kernel_rfl
@[go_sem] theorem tya_z_160 : tZero Tryz.prog 160 = some [.raw (.map none)] := by kernel_rfl
@[go_sem] theorem tya_s_163 : tSz Tryz.prog 163 = some (false, 1) := by kernel_rfl
@[go_sem] theorem tya_zi_163 : tZI Tryz.prog 163 = some (.u32, 0) := by kernel_rfl
@[go_sem] theorem tya_i_163 : tInt Tryz.prog 163 = some .u32 := by kernel_rfl
@[go_sem] theorem tya_z_163 : tZero Tryz.prog 163 = some [.int .u32 0] := by kernel_rfl
@[go_sem] theorem tya_s_166 : tSz Tryz.prog 166 = some (false, 1) := by kernel_rfl
@[go_sem] theorem tya_zi_166 : tZI Tryz.prog 166 = some (.u64, 0) := by kernel_rfl
@[go_sem] theorem tya_i_166 : tInt Tryz.prog 166 = some .u64 := by kernel_rfl
@[go_sem] theorem tya_z_166 : tZero Tryz.prog 166 = some [.int .u64 0] := by kernel_rfl
@[go_sem] theorem tya_s_168 : tSz Tryz.prog 168 = some (false, 1) := by kernel_rfl
@[go_sem] theorem tya_zi_168 : tZI Tryz.prog 168 = some (.u64, 0) := by kernel_rfl
@[go_sem] theorem tya_i_168 : tInt Tryz.prog 168 = some .u64 := by kernel_rfl
@[go_sem] theorem tya_z_168 : tZero Tryz.prog 168 = some [.int .u64 0] := by kernel_rfl
@[go_sem] theorem tya_s_199 : tSz Tryz.prog 199 = some (true, 3) := by kernel_rfl
@[go_sem] theorem tya_z_199 : tZero Tryz.prog 199 = some [.int .i64 0, .int .i64 0, .int .i64 0] := by kernel_rfl
@[go_sem] theorem tya_s_209 : tSz Tryz.prog 209 = some (false, 1) := by kernel_rfl
@[go_sem] theorem tya_z_209 : tZero Tryz.prog 209 = some [.raw (.map none)] := by kernel_rfl
@[go_sem] theorem tya_s_212 : tSz Tryz.prog 212 = some (false, 1) := by kernel_rfl
@[go_sem] theorem tya_z_212 : tZero Tryz.prog 212 = some [.raw (.pointer none)] := by kernel_rfl
@[go_sem] theorem tya_s_213 : tSz Tryz.prog 213 = some (true, 5) := by kernel_rfl
@[go_sem] theorem tya_fl_213 : tFlds Tryz.prog 213 = some [(0, 3), (3, 1), (4, 1)] := by kernel_rfl
@[go_sem] theorem tya_f0_213 : tFld Tryz.prog 213 0 = some 0 := by kernel_rfl
@[go_sem] theorem tya_f1_213 : tFld Tryz.prog 213 1 = some 3 := by kernel_rfl
@[go_sem] theorem tya_f2_213 : tFld Tryz.prog 213 2 = some 4 := by kernel_rfl
@[go_sem] theorem tya_z_213 : tZero Tryz.prog 213 = some [.int .i64 0, .nils, .int .i64 0, .nils, .nils] := by kernel_rfl
@[go_sem] theorem tya_s_214 : tSz Tryz.prog 214 = some (true, 5) := by kernel_rfl
@[go_sem] theorem tya_fl_214 : tFlds Tryz.prog 214 = some [(0, 3), (3, 1), (4, 1)] := by kernel_rfl
@[go_sem] theorem tya_f0_214 : tFld Tryz.prog 214 0 = some 0 := by kernel_rfl
@[go_sem] theorem tya_f1_214 : tFld Tryz.prog 214 1 = some 3 := by kernel_rfl
@[go_sem] theorem tya_f2_214 : tFld Tryz.prog 214 2 = some 4 := by kernel_rfl
@[go_sem] theorem tya_z_214 : tZero Tryz.prog 214 = some [.int .i64 0, .nils, .int .i64 0, .nils, .nils] := by kernel_rfl
@[go_sem] theorem tya_s_223 : tSz Tryz.prog 223 = some (true, 4) := by kernel_rfl
@[go_sem] theorem tya_fl_223 : tFlds Tryz.prog 223 = some [(0, 1), (1, 1), (2, 1), (3, 1)] := by kernel_rfl
@[go_sem] theorem tya_f0_223 : tFld Tryz.prog 223 0 = some 0 := by kernel_rfl
@[go_sem] theorem tya_f1_223 : tFld Tryz.prog 223 1 = some 1 := by kernel_rfl
@[go_sem] theorem tya_f2_223 : tFld Tryz.prog 223 2 = some 2 := by kernel_rfl
@[go_sem] theorem tya_f3_223 : tFld Tryz.prog 223 3 = some 3 := by kernel_rfl
@[go_sem] theorem tya_z_223 : tZero Tryz.prog 223 = some [.raw (.pointer none), .raw (.pointer none), .raw (.pointer none), .str ⟨#[]⟩] := by kernel_rfl
@[go_sem] theorem tya_s_224 : tSz Tryz.prog 224 = some (true, 4) := by kernel_rfl
@[go_sem] theorem tya_fl_224 : tFlds Tryz.prog 224 = some [(0, 1), (1, 1), (2, 1), (3, 1)] := by kernel_rfl
@[go_sem] theorem tya_f0_224 : tFld Tryz.prog 224 0 = some 0 := by kernel_rfl
@[go_sem] theorem tya_f1_224 : tFld Tryz.prog 224 1 = some 1 := by kernel_rfl
@[go_sem] theorem tya_f2_224 : tFld Tryz.prog 224 2 = some 2 := by kernel_rfl
@[go_sem] theorem tya_f3_224 : tFld Tryz.prog 224 3 = some 3 := by kernel_rfl
@[go_sem] theorem tya_z_224 : tZero Tryz.prog 224 = some [.raw (.pointer none), .raw (.pointer none), .raw (.pointer none), .str ⟨#[]⟩] := by kernel_rfl
@[go_sem] theorem tya_s_229 : tSz Tryz.prog 229 = some (false, 1) := by kernel_rfl
@[go_sem] theorem tya_zi_229 : tZI Tryz.prog 229 = some (.u8, 0) := by kernel_rfl
@[go_sem] theorem tya_i_229 : tInt Tryz.prog 229 = some .u8 := by kernel_rfl
@[go_sem] theorem tya_z_229 : tZero Tryz.prog 229 = some [.int .u8 0] := by kernel_rfl
@[go_sem] theorem tya_s_230 : tSz Tryz.prog 230 = some (false, 1) := by kernel_rfl
@[go_sem] theorem tya_zi_230 : tZI Tryz.prog 230 = some (.u8, 0) := by kernel_rfl
@[go_sem] theorem tya_i_230 : tInt Tryz.prog 230 = some .u8 := by kernel_rfl
@[go_sem] theorem tya_z_230 : tZero Tryz.prog 230 = some [.int .u8 0] := by kernel_rfl
@[go_sem] theorem tya_s_232 : tSz Tryz.prog 232 = some (false, 1) := by kernel_rfl
@[go_sem] theorem tya_z_232 : tZero Tryz.prog 232 = some [.raw (.pointer none)] := by kernel_rfl
@[go_sem] theorem tya_s_233 : tSz Tryz.prog 233 = some (false, 1) := by kernel_rfl
@[go_sem] theorem tya_zi_233 : tZI Tryz.prog 233 = some (.i32, 0) := by kernel_rfl
@[go_sem] theorem tya_i_233 : tInt Tryz.prog 233 = some .i32 := by kernel_rfl
@[go_sem] theorem tya_z_233 : tZero Tryz.prog 233 = some [.int .i32 0] := by kernel_rfl
@[go_sem] theorem tya_s_234 : tSz Tryz.prog 234 = some (false, 1) := by kernel_rfl
@[go_sem] theorem tya_zi_234 : tZI Tryz.prog 234 = some (.i32, 0) := by kernel_rfl
@[go_sem] theorem tya_i_234 : tInt Tryz.prog 234 = some .i32 := by kernel_rfl
@[go_sem] theorem tya_z_234 : tZero Tryz.prog 234 = some [.int .i32 0] := by kernel_rfl
@[go_sem] theorem tya_s_235 : tSz Tryz.prog 235 = some (true, 11) := by kernel_rfl
@[go_sem] theorem tya_fl_235 : tFlds Tryz.prog 235 = some [(0, 1), (1, 1), (2, 1), (3, 1), (4, 1), (5, 1), (6, 1), (7, 1), (8, 1), (9, 1), (10, 1)] := by kernel_rfl
@[go_sem] theorem tya_f0_235 : tFld Tryz.prog 235 0 = some 0 := by kernel_rfl
@[go_sem] theorem tya_f1_235 : tFld Tryz.prog 235 1 = some 1 := by kernel_rfl
@[go_sem] theorem tya_f2_235 : tFld Tryz.prog 235 2 = some 2 := by kernel_rfl
@[go_sem] theorem tya_f3_235 : tFld Tryz.prog 235 3 = some 3 := by kernel_rfl
@[go_sem] theorem tya_f4_235 : tFld Tryz.prog 235 4 = some 4 := by kernel_rfl
@[go_sem] theorem tya_f5_235 : tFld Tryz.prog 235 5 = some 5 := by kernel_rfl
@[go_sem] theorem tya_f6_235 : tFld Tryz.prog 235 6 = some 6 := by kernel_rfl
@[go_sem] theorem tya_f7_235 : tFld Tryz.prog 235 7 = some 7 := by kernel_rfl
@[go_sem] theorem tya_f8_235 : tFld Tryz.prog 235 8 = some 8 := by kernel_rfl
@[go_sem] theorem tya_f9_235 : tFld Tryz.prog 235 9 = some 9 := by kernel_rfl
@[go_sem] theorem tya_f10_235 : tFld Tryz.prog 235 10 = some 10 := by kernel_rfl
@[go_sem] theorem tya_z_235 : tZero Tryz.prog 235 = some [.int .u64 0, .int .u64 0, .int .u32 0, .int .u8 0, .int .u8 0, .int .u8 0, .int .u8 0, .raw .nilFunc, .raw (.pointer none), .int .i32 0, .int .i32 0] := by kernel_rfl
@[go_sem] theorem tya_s_236 : tSz Tryz.prog 236 = some (true, 11) := by kernel_rfl
@[go_sem] theorem tya_fl_236 : tFlds Tryz.prog 236 = some [(0, 1), (1, 1), (2, 1), (3, 1), (4, 1), (5, 1), (6, 1), (7, 1), (8, 1), (9, 1), (10, 1)] := by kernel_rfl
@[go_sem] theorem tya_f0_236 : tFld Tryz.prog 236 0 = some 0 := by kernel_rfl
@[go_sem] theorem tya_f1_236 : tFld Tryz.prog 236 1 = some 1 := by kernel_rfl
@[go_sem] theorem tya_f2_236 : tFld Tryz.prog 236 2 = some 2 := by kernel_rfl
@[go_sem] theorem tya_f3_236 : tFld Tryz.prog 236 3 = some 3 := by kernel_rfl
@[go_sem] theorem tya_f4_236 : tFld Tryz.prog 236 4 = some 4 := by kernel_rfl
@[go_sem] theorem tya_f5_236 : tFld Tryz.prog 236 5 = some 5 := by kernel_rfl
@[go_sem] theorem tya_f6_236 : tFld Tryz.prog 236 6 = some 6 := by kernel_rfl
@[go_sem] theorem tya_f7_236 : tFld Tryz.prog 236 7 = some 7 := by kernel_rfl
@[go_sem] theorem tya_f8_236 : tFld Tryz.prog 236 8 = some 8 := by kernel_rfl
@[go_sem] theorem tya_f9_236 : tFld Tryz.prog 236 9 = some 9 := by kernel_rfl
@[go_sem] theorem tya_f10_236 : tFld Tryz.prog 236 10 = some 10 := by kernel_rfl
@[go_sem] theorem tya_z_236 : tZero Tryz.prog 236 = some [.int .u64 0, .int .u64 0, .int .u32 0, .int .u8 0, .int .u8 0, .int .u8 0, .int .u8 0, .raw .nilFunc, .raw (.pointer none), .int .i32 0, .int .i32 0] := by kernel_rfl
@[go_sem] theorem tya_s_237 : tSz Tryz.prog 237 = some (false, 1) := by kernel_rfl
@[go_sem] theorem tya_z_237 : tZero Tryz.prog 237 = some [.raw (.pointer none)] := by kernel_rfl
end Go.Proofs.YtlpejaefobdajaaGreat

/- rational: one, plain, Valid, parts, form. -/
namespace Go.Proofs.YtlpejaefobdajaaGreat
open Go.AI Go.PN
attribute [local irreducible] aw Fa Fh DrK

/-- The cells of a fraction. -/
abbrev rdc (r : RD) : List CV := [.bool r.neg, ws true r.num, ws true r.den]

theorem cmp_one {n : Nat} : (cmpN n (val [1]) == 0) = decide (n = 1) := by
  have : val [1] = 1 := rfl
  rw [this]
  unfold cmpN
  by_cases h : n = 1
  · subst h; rfl
  · have : ¬ (n = 1) := h
    simp only [this, decide_false, if_false]
    by_cases h0 : n < 1 <;> simp [h0]
theorem plain_eq {xs : List Nat} (h0 : 0 < xs.length) : plainB xs = (((xs.getD (xs.length - 1) 0 : Nat) : Int) != 0) := by
  simp only [plainB, h0, decide_true, Bool.true_and, bne]
  congr 1
  rw [Bool.eq_iff_iff]; simp
theorem plain_no {xs : List Nat} (h0 : ¬ 0 < xs.length) : plainB xs = false := by simp [plainB, h0]

set_option maxHeartbeats 400000 in
theorem one_fa : Fa Tryz.prog 123 [] (.c (ws true [1])) := by
  refine fa_of_body Tryz.func123 rfl rfl (by simp [Tryz.ntmps123]) fun C hC => ?_
  simp only [initS]
  refine xG ?_
  refine aw_buildSlice (xs := [.const (.int .u32 1)]) (cells := [.int .u32 1]) rfl rfl rfl ty_e_ws (by rw [envP, ty_z_u32]; rfl) rfl (by omega) (by omega) (by intro x hx; simp only [List.mem_cons, List.not_mem_nil, or_false] at hx; subst hx; exact ⟨rfl, rfl, rfl⟩) rfl fun g hg => ?_
  refine xS ?_
  refine xG ?_
  refine xT hC ?_
  exact .one (.c (ler_oslws eE (by omega) rfl (fun j hj => by match j, hj with | 0, _ => rfl)))
set_option maxHeartbeats 400000 in
theorem plain_fa (xs : List Nat) (hlx : xs.length ≤ 68719476738) : Fa Tryz.prog 181 [.c (ws false xs)] (.c (.bool (plainB xs))) := by
  refine fa_of_body Tryz.func181 rfl rfl (by simp [Tryz.ntmps181]) fun C hC => ?_
  simp only [initS, Nat.reduceAdd]
  refine xG ?_
  refine aw_split 6 eE (fun hb => ?_) (fun hb => ?_) <;> refine xS ?_
  · have h0 : 0 < xs.length := by have := of_decide_eq_true hb; omega
    refine xG ?_
    refine xT hC ?_
    exact .one (.c (ler_bool (plain_eq h0).symm))
  · have h0 : ¬ 0 < xs.length := by have := of_decide_eq_false hb; omega
    refine xG ?_
    refine xT hC ?_
    exact .one (.c (ler_bool (plain_no h0).symm))
theorem valid_zero {r : RD} (h1 : ((r.num.length : Int) == 0) = true) (h2 : ((r.den.length : Int) == 0) = true) : (!r.neg) = r.valid := by
  have h1' : r.num.length = 0 := by have := eq_of_beq h1; omega
  have h2' : r.den.length = 0 := by have := eq_of_beq h2; omega
  simp [RD.valid, h1', h2']
theorem valid_else {r : RD} (h : ((r.num.length : Int) == 0) = false ∨ ((r.den.length : Int) == 0) = false) : r.valid = (plainB r.num && plainB r.den && decide (Nat.gcd (val r.num) (val r.den) = 1)) := by
  unfold RD.valid
  rw [if_neg]
  rintro ⟨h1, h2⟩
  rcases h with h | h
  · rw [h1] at h; cases h
  · rw [h2] at h; cases h
set_option maxHeartbeats 1600000 in
theorem rvalid_fa (r : RD) (hw : r.wf 68719476736) : Fa Tryz.prog 137 [.agg (rdc r)] (.c (.bool r.valid)) := by
  have hp1 : r.num.length ≤ 68719476738 := by have := hw.2.2.1; omega
  have hp2 : r.den.length ≤ 68719476738 := by have := hw.2.2.2; omega
  have hg : (words (Nat.gcd (val r.num) (val r.den))).length ≤ 68719476736 := by
    by_cases h : val r.num = 0
    · rw [h, Nat.gcd_zero_left]; exact Nat.le_trans (words_val_len _ hw.2.1) hw.2.2.2
    · exact Nat.le_trans (words_len_mono (Nat.gcd_le_left _ (Nat.pos_of_ne_zero h))) (Nat.le_trans (words_val_len _ hw.1) hw.2.2.1)
  refine fa_of_body Tryz.func137 rfl rfl (by simp [Tryz.ntmps137]) fun C hC => ?_
  simp only [initS, Nat.reduceAdd]
  refine xG ?_
  refine xB fun g1 hn_g1=>?_
  refine yH hn_g1 ?_
  apply aw_seq
  refine aw_cut (fun _ : Unit => [(1, .c (.optr g1 0))]) (fun _ => [(g1, .cells 33 3 (ofL (rdc r)))]) (fun _ => ((r.num.length : Int) == 0) = false ∨ ((r.den.length : Int) == 0) = false) ?_ ?_
  · refine yG hn_g1 ?_
    refine aw_split 7 (zE hn_g1) (fun hb => ?_) (fun hb => ?_) <;> refine yS hn_g1 ?_
    · refine yG hn_g1 ?_
      refine yF hn_g1 (fun hd=>?_) fun hd=>?_
      · refine yG hn_g1 ?_
        refine yT hC hn_g1 ?_
        exact .one (.c (ler_bool (valid_zero hb hd)))
      · refine yG hn_g1 ?_
        exact aw_stop ⟨(), (zB hn_g1), zZ, .inr hd⟩
    · refine yG hn_g1 ?_
      refine yN hn_g1 ?_
      refine yG hn_g1 ?_
      exact aw_stop ⟨(), (zB hn_g1), zZ, .inl hb⟩
  rintro _ hd
  rw [valid_else hd]
  refine yG hn_g1 ?_
  refine yC hn_g1 (plain_fa r.num hp1) ?_
  refine yG hn_g1 ?_
  refine aw_split 19 (zE hn_g1) (fun h1 => ?_) (fun h1 => ?_) <;> refine yS hn_g1 ?_
  · refine yG hn_g1 ?_
    refine yC hn_g1 (plain_fa r.den hp2) ?_
    refine yG hn_g1 ?_
    refine aw_split 24 (zE hn_g1) (fun h2 => ?_) (fun h2 => ?_) <;> refine yS hn_g1 ?_
    · refine yG hn_g1 ?_
      refine yC hn_g1 (gcd_fa _ _ hw.1 hw.2.1 hw.2.2.1 hw.2.2.2) ?_
      refine yG hn_g1 ?_
      refine yC hn_g1 (one_fa) ?_
      refine yG hn_g1 ?_
      refine yC hn_g1 (cmp_fa _ [1] (words_lt _) ?_ hg ?_) ?_
      · simp
      · simp
      refine yG hn_g1 ?_
      refine yT hC hn_g1 ?_
      refine .one (.c (ler_bool ?_))
      rw [h1, h2, val_words, cmp_one]; rfl
    · refine yG hn_g1 ?_
      refine yT hC hn_g1 ?_
      refine .one (.c (ler_bool ?_))
      rw [h2, Bool.and_false, Bool.false_and]
  · refine yG hn_g1 ?_
    refine yT hC hn_g1 ?_
    refine .one (.c (ler_bool ?_))
    rw [h1, Bool.false_and, Bool.false_and]
end Go.Proofs.YtlpejaefobdajaaGreat

/- rational: parts, form, size, Of, Neg, Sign, Add, Sub, Mul, Cmp, Prob. -/
namespace Go.Proofs.YtlpejaefobdajaaGreat
open Go.AI Go.PN
attribute [local irreducible] aw Fa Fh DrK
theorem words_mul_len (m n : Nat) : (words (m * n)).length ≤ (words m).length + (words n).length := words_len_le (pow_mul_lt (words_pow_lt m) (words_pow_lt n))
theorem words_add_len {m n k : Nat} (hm : (words m).length ≤ k) (hn : (words n).length ≤ k) : (words (m + n)).length ≤ k + 1 := by
  have h1 := Nat.lt_of_lt_of_le (words_pow_lt m) (Nat.pow_le_pow_right (show 0 < 4294967296 by omega) hm)
  have h2 := Nat.lt_of_lt_of_le (words_pow_lt n) (Nat.pow_le_pow_right (show 0 < 4294967296 by omega) hn)
  refine words_len_le ?_
  rw [Nat.pow_succ]
  omega
theorem mulW (a b : Nat) (ha : (words a).length ≤ 68719476736) (hb : (words b).length ≤ 68719476736) : Fa Tryz.prog 172 [.c (ws false (words a)), .c (ws false (words b))] (.c (ws true (words (a * b)))) := by
  have := mul_fa (words a) (words b) (words_lt a) (words_lt b) ha hb
  rwa [val_words, val_words] at this
theorem addW (a b : Nat) (ha : (words a).length ≤ 68719476736) (hb : (words b).length ≤ 68719476736) : Fa Tryz.prog 173 [.c (ws false (words a)), .c (ws false (words b))] (.c (ws true (words (a + b)))) := by
  have := add_fa (words a) (words b) (words_lt a) (words_lt b) ha hb
  rwa [val_words, val_words] at this
theorem subW (a b : Nat) (ha : (words a).length ≤ 68719476736) (hb : (words b).length ≤ 68719476736) (h : b ≤ a) : Fa Tryz.prog 174 [.c (ws false (words a)), .c (ws false (words b))] (.tup [.c (ws true (words (a - b))), .c .nilI]) := by
  have := sub_fa (words a) (words b) (words_lt a) (words_lt b) ha hb (by rw [val_words, val_words]; exact h)
  rwa [val_words, val_words] at this
theorem cmpW (a b : Nat) (ha : (words a).length ≤ 68719476736) (hb : (words b).length ≤ 68719476736) : Fa Tryz.prog 138 [.c (ws false (words a)), .c (ws false (words b))] (.c (.int .i64 (cmpN a b))) := by
  have := cmp_fa (words a) (words b) (words_lt a) (words_lt b) ha hb
  rwa [val_words, val_words] at this
theorem gcdW (a b : Nat) (ha : (words a).length ≤ 68719476736) (hb : (words b).length ≤ 68719476736) : Fa Tryz.prog 168 [.c (ws false (words a)), .c (ws false (words b))] (.c (ws true (words (Nat.gcd a b)))) := by
  have := gcd_fa (words a) (words b) (words_lt a) (words_lt b) ha hb
  rwa [val_words, val_words] at this
theorem divW (a b : Nat) (ha : (words a).length ≤ 68719476736) (hb : (words b).length ≤ 68719476736) (h : b ≠ 0) : Fa Tryz.prog 169 [.c (ws false (words a)), .c (ws false (words b))] (.tup [.c (ws true (words (a / b))), .c (ws true (words (a % b))), .c .nilI]) := by
  have := div_fa (words a) (words b) (words_lt a) (words_lt b) ha hb (by rw [val_words]; exact h)
  rwa [val_words, val_words] at this
theorem bitsW (a : Nat) (ha : (words a).length ≤ 68719476736) : Fa Tryz.prog 167 [.c (ws false (words a))] (.c (.int .i64 (bitlen a : Nat))) := by
  have := bits_fa (words a) (words_lt a) ha
  rwa [val_words] at this

theorem some_of {r : RD} (h1 : r.valid = true) (h2 : ((r.num.length : Int) == 0) = false) : r.some = true := by
  have : r.num.length ≠ 0 := fun e => by rw [e] at h2; cases h2
  simp [RD.some, h1, this]
theorem none_of {r : RD} (h : r.valid = false ∨ ((r.num.length : Int) == 0) = true) : r.some = false := by
  rcases h with h | h
  · simp [RD.some, h]
  · have : r.num.length = 0 := by have := eq_of_beq h; omega
    simp [RD.some, this]
theorem wf_mono {r : RD} {L M : Nat} (h : r.wf L) (hm : L ≤ M) : r.wf M := ⟨h.1, h.2.1, Nat.le_trans h.2.2.1 hm, Nat.le_trans h.2.2.2 hm⟩

abbrev partsAV (r : RD) : AV := .tup [.c (.bool r.ps), .c (ws true (words r.pn)), .c (ws true (words r.pd))]
set_option maxHeartbeats 1600000 in
theorem rparts_fa (r : RD) (hw : r.wf 1073741824) : Fa Tryz.prog 171 [.agg (rdc r)] (partsAV r) := by
  refine fa_of_body Tryz.func171 rfl rfl (by simp [Tryz.ntmps171]) fun C hC => ?_
  simp only [initS, Nat.reduceAdd]
  refine xG ?_
  refine xB fun g1 hn_g1=>?_
  refine yG hn_g1 ?_
  refine yC hn_g1 (rvalid_fa r (wf_mono hw ?_)) ?_
  · omega
  refine yG hn_g1 ?_
  refine aw_split 8 (zE hn_g1) (fun hv => ?_) (fun hv => ?_) <;> refine yS hn_g1 ?_
  · have hs := RD.pn_none (none_of (r := r) (.inl (by simpa using hv)))
    refine yG hn_g1 ?_
    refine yP hn_g1 ?_
    refine yG hn_g1 ?_
    refine yC hn_g1 (one_fa) ?_
    refine yG hn_g1 ?_
    refine yT hC hn_g1 ?_
    refine .tup ⟨.c (ler_bool hs.2.2.symm), .c ?_, .c ?_, trivial⟩
    · rw [hs.1]; exact .nils
    · rw [hs.2.1]; exact ler_ws
  · have hv' : r.valid = true := by simpa using hv
    refine yG hn_g1 ?_
    refine yF hn_g1 (fun hn=>?_) fun hn=>?_
    · have hs := RD.pn_none (none_of (r := r) (.inr hn))
      refine yG hn_g1 ?_
      refine yC hn_g1 (one_fa) ?_
      refine yG hn_g1 ?_
      refine yT hC hn_g1 ?_
      refine .tup ⟨.c (ler_bool hs.2.2.symm), .c ?_, .c ?_, trivial⟩
      · rw [hs.1]; exact .nils
      · rw [hs.2.1]; exact ler_ws
    · have hs := RD.pn_words hw (some_of hv' hn)
      refine yG hn_g1 ?_
      refine aw_dr 9 ty_mixed (by kernel_rfl) ?_
      refine yG hn_g1 ?_
      refine yT hC hn_g1 ?_
      refine .tup ⟨.c (ler_bool hs.2.2.symm), .c ?_, .c ?_, trivial⟩
      · rw [hs.1]; exact ler_ws
      · rw [hs.2.1]; exact ler_ws

theorem lerl_rd {h : Heap} {r : RD} : LeRL h (rdc r) (rdc r) := ⟨.bool _, ler_ws, ler_ws, trivial⟩
theorem ler_rd {h : Heap} {r s : RD} (e : r = s) : LeRA h (.agg (rdc r)) (.agg (rdc s)) := by subst e; exact .one (.agg lerl_rd)
set_option maxHeartbeats 1600000 in
theorem rform_fa (neg : Bool) (n d : Nat) (hn : (words n).length ≤ 68719476736) (hd : (words d).length ≤ 68719476736) (h0 : d ≠ 0) :
    Fa Tryz.prog 121 [.c (.bool neg), .c (ws false (words n)), .c (ws false (words d))] (.agg (rdc (rd (sq neg n d)))) := by
  refine fa_of_body Tryz.func121 rfl rfl (by simp [Tryz.ntmps121]) fun C hC => ?_
  simp only [initS, Nat.reduceAdd]
  refine xG ?_
  refine xA fun g6 hn_g6=>?_
  refine yG hn_g6 ?_
  refine yC hn_g6 (bitsW n hn) ?_
  refine yG hn_g6 ?_
  refine yF hn_g6 (fun hb=>?_) fun hb=>?_
  · have hz : n = 0 := bitlen_zero.1 (by have := eq_of_beq hb; omega)
    refine yG hn_g6 ?_
    refine yW hn_g6 ?_
    refine yS hn_g6 ?_
    refine yG hn_g6 ?_
    refine yT hC hn_g6 ?_
    rw [hz, sq_zero, rd_zero]
    exact .one (.agg ⟨.bool _, .nils, .nils, trivial⟩)
  · have hz : n ≠ 0 := fun e => by rw [e] at hb; cases hb
    have hg : Nat.gcd n d ≠ 0 := fun e => h0 (Nat.eq_zero_of_gcd_eq_zero_right e)
    have hgl : (words (Nat.gcd n d)).length ≤ 68719476736 := Nat.le_trans (words_len_mono (Nat.gcd_le_left _ (Nat.pos_of_ne_zero hz))) hn
    refine yG hn_g6 ?_
    refine yC hn_g6 (gcdW n d hn hd) ?_
    refine yG hn_g6 ?_
    refine yC hn_g6 (divW n (Nat.gcd n d) hn hgl hg) ?_
    refine yG hn_g6 ?_
    refine yC hn_g6 (divW d (Nat.gcd n d) hd hgl hg) ?_
    refine yG hn_g6 ?_
    refine yW hn_g6 ?_
    refine yS hn_g6 ?_
    refine yG hn_g6 ?_
    refine yT hC hn_g6 ?_
    rw [rd_sq hz h0]
    exact .one (.agg ⟨.bool _, ler_ws, ler_ws, trivial⟩)
end Go.Proofs.YtlpejaefobdajaaGreat

/- rational: size, Of, Neg, Sign, Add, Sub, Mul, Cmp, Prob. -/
namespace Go.Proofs.YtlpejaefobdajaaGreat
open Go.AI Go.PN
attribute [local irreducible] aw Fa Fh DrK
theorem words_min : words 9223372036854775808 = [0, 2147483648] := by
  rw [words_cons (by omega), words_cons (by omega), show (9223372036854775808 / 4294967296 / 4294967296 : Nat) = 0 from rfl, words_zero]
theorem int_neg {n : Int} (h0 : -9223372036854775808 < n) (h1 : n ≤ 9223372036854775807) : wrapZ .i64 (0 - n) = -n := by
  rw [wrapZ_eq, wrap_inRange (k := .i64) (by simp only [inRange]; omega)]; omega
theorem words_small {n : Nat} (h : n ≤ 9223372036854775808) : (words n).length ≤ 2 := words_len_le (Nat.lt_of_le_of_lt h (by decide))

set_option maxHeartbeats 800000 in
theorem rsize_fa (n : Int) (h0 : -9223372036854775808 ≤ n) (h1 : n ≤ 9223372036854775807) : Fa Tryz.prog 122 [.c (.int .i64 n)] (.c (ws true (words n.natAbs))) := by
  refine fa_of_body Tryz.func122 rfl rfl (by simp [Tryz.ntmps122]) fun C hC => ?_
  simp only [initS, Nat.reduceAdd]
  refine xG ?_
  refine xF (fun hb=>?_) fun hb=>?_
  · have hn : n = -9223372036854775808 := eq_of_beq hb
    refine xG ?_
    refine aw_buildSlice (xs := [.const (.int .u32 0), .const (.int .u32 2147483648)]) (cells := [.int .u32 0, .int .u32 2147483648]) rfl rfl rfl ty_e_ws (by rw [envP, ty_z_u32]; rfl) rfl (by omega) (by omega) (by intro x hx; simp only [List.mem_cons, List.not_mem_nil, or_false] at hx; rcases hx with rfl | rfl <;> exact ⟨rfl, rfl, rfl⟩) rfl fun g hg => ?_
    refine xS ?_
    refine xG ?_
    refine xT hC ?_
    subst hn
    rw [show ((-9223372036854775808 : Int).natAbs) = 9223372036854775808 from rfl, words_min]
    exact .one (.c (ler_oslws eE (by simp) rfl (fun j hj => by match j, hj with | 0, _ => rfl | 1, _ => rfl)))
  · have hn : n ≠ -9223372036854775808 := fun e => by rw [e] at hb; cases hb
    refine xG ?_
    rw [int_neg (by omega) h1]
    have hm : (if -n > n then -n else n) = (n.natAbs : Int) := by split <;> omega
    rw [hm]
    refine xC (of_fa (n.natAbs : Int) ?_ ?_) ?_
    · omega
    · omega
    refine xG ?_
    refine xT hC ?_
    exact .one (.c ler_ws)

/-- A whole number. -/
theorem sq_int (n : Int) : sq (decide (n < 0)) n.natAbs 1 = (n : Rat) := by
  unfold sq sgn
  rw [Rat.mkRat_one]
  congr 1
  split
  · rename_i h; simp only [decide_eq_true_eq] at h; omega
  · rename_i h; simp only [decide_eq_true_eq] at h; omega
set_option maxHeartbeats 800000 in
theorem rof_fa (n : Int) (h0 : -9223372036854775808 ≤ n) (h1 : n ≤ 9223372036854775807) : Fa Tryz.prog 65 [.c (.int .i64 n)] (.agg (rdc (rd (n : Rat)))) := by
  have hl := words_small (n := n.natAbs) (by omega)
  refine fa_of_body Tryz.func65 rfl rfl (by simp [Tryz.ntmps65]) fun C hC => ?_
  simp only [initS, Nat.reduceAdd]
  refine xG ?_
  refine xA fun g2 hn_g2=>?_
  refine yG hn_g2 ?_
  refine yC hn_g2 (rsize_fa n h0 h1) ?_
  refine yG hn_g2 ?_
  refine yC hn_g2 (one_fa) ?_
  refine yG hn_g2 ?_
  rw [show ([1] : List Nat) = words 1 from words_one.symm]
  refine yC hn_g2 (rform_fa _ n.natAbs 1 ?_ ?_ ?_) ?_
  · omega
  · rw [words_one]; simp
  · omega
  refine yG hn_g2 ?_
  refine yW hn_g2 ?_
  refine yS hn_g2 ?_
  refine yG hn_g2 ?_
  refine yT hC hn_g2 ?_
  exact ler_rd (by rw [sq_int])

set_option maxHeartbeats 800000 in
theorem rneg_fa (r : RD) (hw : r.wf 1073741824) : Fa Tryz.prog 125 [.agg (rdc r)] (.agg (rdc (rd (-r.q)))) := by
  obtain ⟨hl1, hl2⟩ := RD.p_len hw (by omega)
  refine fa_of_body Tryz.func125 rfl rfl (by simp [Tryz.ntmps125]) fun C hC => ?_
  simp only [initS, Nat.reduceAdd]
  refine xG ?_
  refine xB fun g1 hn_g1=>?_
  refine yA hn_g1 fun g2 hn_g2=>?_
  refine yG (oj hn_g1 hn_g2) ?_
  refine yC (oj hn_g1 hn_g2) (rparts_fa r hw) ?_
  refine yG (oj hn_g1 hn_g2) ?_
  refine yC (oj hn_g1 hn_g2) (rform_fa _ r.pn r.pd ?_ ?_ (RD.pd_ne hw)) ?_
  · omega
  · omega
  refine yG (oj hn_g1 hn_g2) ?_
  refine yW (oj hn_g1 hn_g2) ?_
  refine yS (oj hn_g1 hn_g2) ?_
  refine yG (oj hn_g1 hn_g2) ?_
  refine yT hC (oj hn_g1 hn_g2) ?_
  exact ler_rd (by rw [sq_neg]; rfl)

theorem sign_zero {r : RD} {L : Nat} (hw : r.wf L) (h : (((words r.pn).length : Int) == 0) = true) : 0 = signQ r.q := by
  have h1 : r.pn = 0 := words_eq_nil.1 (List.length_eq_zero_iff.1 (by have := eq_of_beq h; omega))
  unfold RD.q
  rw [h1, sq_zero]; rfl
theorem sign_some {r : RD} {L : Nat} (hw : r.wf L) (h : (((words r.pn).length : Int) == 0) = false) : signQ r.q = if r.ps then -1 else 1 := by
  have h1 : r.pn ≠ 0 := fun e => by rw [e, words_zero] at h; cases h
  unfold signQ RD.q
  rw [if_neg (sq_ne h1 (RD.pd_ne hw))]
  have := sq_lt (neg := r.ps) h1 (RD.pd_ne hw)
  simp only [this]
theorem not_of_bne {a b : Bool} (h : (a == b) = false) : b = !a := by cases a <;> cases b <;> simp_all
set_option maxHeartbeats 1600000 in
theorem radd_fa (a b : RD) (ha : a.wf 1073741824) (hb : b.wf 1073741824) : Fa Tryz.prog 124 [.agg (rdc a), .agg (rdc b)] (.agg (rdc (rd (a.q + b.q)))) := by
  obtain ⟨l1, l2⟩ := RD.p_len ha (by omega)
  obtain ⟨l3, l4⟩ := RD.p_len hb (by omega)
  have d1 := RD.pd_ne ha
  have d2 := RD.pd_ne hb
  have dd : a.pd * b.pd ≠ 0 := Nat.mul_ne_zero d1 d2
  have m1 := words_mul_len a.pn b.pd
  have m2 := words_mul_len b.pn a.pd
  have m3 := words_mul_len a.pd b.pd
  have m4 := words_add_len (m := a.pn * b.pd) (n := b.pn * a.pd) (k := 2147483648) (by omega) (by omega)
  refine fa_of_body Tryz.func124 rfl rfl (by simp [Tryz.ntmps124]) fun C hC => ?_
  simp only [initS, Nat.reduceAdd]
  refine xG ?_
  refine xB fun g2 hn_g2=>?_
  refine yB hn_g2 fun g3 hn_g3=>?_
  refine yA (oj hn_g2 hn_g3) fun g4 hn_g4=>?_
  refine yG (oj hn_g2 (oj hn_g3 hn_g4)) ?_
  refine yC (oj hn_g2 (oj hn_g3 hn_g4)) (rparts_fa a ha) ?_
  refine yG (oj hn_g2 (oj hn_g3 hn_g4)) ?_
  refine yC (oj hn_g2 (oj hn_g3 hn_g4)) (rparts_fa b hb) ?_
  refine yG (oj hn_g2 (oj hn_g3 hn_g4)) ?_
  refine yC (oj hn_g2 (oj hn_g3 hn_g4)) (mulW a.pn b.pd ?_ ?_) ?_
  · omega
  · omega
  refine yG (oj hn_g2 (oj hn_g3 hn_g4)) ?_
  refine yC (oj hn_g2 (oj hn_g3 hn_g4)) (mulW b.pn a.pd ?_ ?_) ?_
  · omega
  · omega
  refine yG (oj hn_g2 (oj hn_g3 hn_g4)) ?_
  refine yC (oj hn_g2 (oj hn_g3 hn_g4)) (mulW a.pd b.pd ?_ ?_) ?_
  · omega
  · omega
  refine yG (oj hn_g2 (oj hn_g3 hn_g4)) ?_
  refine yF (oj hn_g2 (oj hn_g3 hn_g4)) (fun hs=>?_) fun hs=>?_
  · have hs' : a.ps = b.ps := eq_of_beq hs
    refine yG (oj hn_g2 (oj hn_g3 hn_g4)) ?_
    refine yC (oj hn_g2 (oj hn_g3 hn_g4)) (addW _ _ ?_ ?_) ?_
    · omega
    · omega
    refine yG (oj hn_g2 (oj hn_g3 hn_g4)) ?_
    refine yC (oj hn_g2 (oj hn_g3 hn_g4)) (rform_fa _ _ _ ?_ ?_ dd) ?_
    · omega
    · omega
    refine yG (oj hn_g2 (oj hn_g3 hn_g4)) ?_
    refine yW (oj hn_g2 (oj hn_g3 hn_g4)) ?_
    refine yS (oj hn_g2 (oj hn_g3 hn_g4)) ?_
    refine yG (oj hn_g2 (oj hn_g3 hn_g4)) ?_
    refine yT hC (oj hn_g2 (oj hn_g3 hn_g4)) ?_
    refine ler_rd ?_
    rw [sq_add_same _ d1 d2]
    unfold RD.q; rw [hs']
  · have hs' : b.ps = !a.ps := not_of_bne hs
    refine yG (oj hn_g2 (oj hn_g3 hn_g4)) ?_
    refine yC (oj hn_g2 (oj hn_g3 hn_g4)) (cmpW _ _ ?_ ?_) ?_
    · omega
    · omega
    refine yG (oj hn_g2 (oj hn_g3 hn_g4)) ?_
    refine yF (oj hn_g2 (oj hn_g3 hn_g4)) (fun hc=>?_) fun hc=>?_
    · have hle : b.pn * a.pd ≤ a.pn * b.pd := by
        have := of_decide_eq_true hc
        unfold cmpN at this
        split at this
        · omega
        · omega
      have hl5 := words_len_mono (Nat.sub_le (a.pn * b.pd) (b.pn * a.pd))
      refine yG (oj hn_g2 (oj hn_g3 hn_g4)) ?_
      refine yC (oj hn_g2 (oj hn_g3 hn_g4)) (subW _ _ ?_ ?_ hle) ?_
      · omega
      · omega
      refine yG (oj hn_g2 (oj hn_g3 hn_g4)) ?_
      refine yC (oj hn_g2 (oj hn_g3 hn_g4)) (rform_fa _ _ _ ?_ ?_ dd) ?_
      · omega
      · omega
      refine yG (oj hn_g2 (oj hn_g3 hn_g4)) ?_
      refine yW (oj hn_g2 (oj hn_g3 hn_g4)) ?_
      refine yS (oj hn_g2 (oj hn_g3 hn_g4)) ?_
      refine yG (oj hn_g2 (oj hn_g3 hn_g4)) ?_
      refine yT hC (oj hn_g2 (oj hn_g3 hn_g4)) ?_
      refine ler_rd ?_
      rw [sq_add_ge _ d1 d2 hle]
      unfold RD.q; rw [hs']
    · have hle : a.pn * b.pd ≤ b.pn * a.pd := by
        have := of_decide_eq_false hc
        unfold cmpN at this
        split at this
        · omega
        · split at this <;> omega
      have hl5 := words_len_mono (Nat.sub_le (b.pn * a.pd) (a.pn * b.pd))
      refine yG (oj hn_g2 (oj hn_g3 hn_g4)) ?_
      refine yC (oj hn_g2 (oj hn_g3 hn_g4)) (subW _ _ ?_ ?_ hle) ?_
      · omega
      · omega
      refine yG (oj hn_g2 (oj hn_g3 hn_g4)) ?_
      refine yC (oj hn_g2 (oj hn_g3 hn_g4)) (rform_fa _ _ _ ?_ ?_ dd) ?_
      · omega
      · omega
      refine yG (oj hn_g2 (oj hn_g3 hn_g4)) ?_
      refine yW (oj hn_g2 (oj hn_g3 hn_g4)) ?_
      refine yS (oj hn_g2 (oj hn_g3 hn_g4)) ?_
      refine yG (oj hn_g2 (oj hn_g3 hn_g4)) ?_
      refine yT hC (oj hn_g2 (oj hn_g3 hn_g4)) ?_
      refine ler_rd ?_
      rw [hs', sq_add_lt _ d1 d2 hle]
      unfold RD.q; rw [hs']
set_option maxHeartbeats 800000 in
theorem rmul_fa (a b : RD) (ha : a.wf 1073741824) (hb : b.wf 1073741824) : Fa Tryz.prog 183 [.agg (rdc a), .agg (rdc b)] (.agg (rdc (rd (a.q * b.q)))) := by
  obtain ⟨l1, l2⟩ := RD.p_len ha (by omega)
  obtain ⟨l3, l4⟩ := RD.p_len hb (by omega)
  have d1 := RD.pd_ne ha
  have d2 := RD.pd_ne hb
  have dd : a.pd * b.pd ≠ 0 := Nat.mul_ne_zero d1 d2
  have m1 := words_mul_len a.pn b.pn
  have m3 := words_mul_len a.pd b.pd
  refine fa_of_body Tryz.func183 rfl rfl (by simp [Tryz.ntmps183]) fun C hC => ?_
  simp only [initS, Nat.reduceAdd]
  refine xG ?_
  refine xB fun g2 hn_g2=>?_
  refine yB hn_g2 fun g3 hn_g3=>?_
  refine yA (oj hn_g2 hn_g3) fun g4 hn_g4=>?_
  refine yG (oj hn_g2 (oj hn_g3 hn_g4)) ?_
  refine yC (oj hn_g2 (oj hn_g3 hn_g4)) (rparts_fa a ha) ?_
  refine yG (oj hn_g2 (oj hn_g3 hn_g4)) ?_
  refine yC (oj hn_g2 (oj hn_g3 hn_g4)) (rparts_fa b hb) ?_
  refine yG (oj hn_g2 (oj hn_g3 hn_g4)) ?_
  refine yC (oj hn_g2 (oj hn_g3 hn_g4)) (mulW _ _ ?_ ?_) ?_
  · omega
  · omega
  refine yG (oj hn_g2 (oj hn_g3 hn_g4)) ?_
  refine yC (oj hn_g2 (oj hn_g3 hn_g4)) (mulW _ _ ?_ ?_) ?_
  · omega
  · omega
  refine yG (oj hn_g2 (oj hn_g3 hn_g4)) ?_
  refine yC (oj hn_g2 (oj hn_g3 hn_g4)) (rform_fa _ _ _ ?_ ?_ dd) ?_
  · omega
  · omega
  refine yG (oj hn_g2 (oj hn_g3 hn_g4)) ?_
  refine yW (oj hn_g2 (oj hn_g3 hn_g4)) ?_
  refine yS (oj hn_g2 (oj hn_g3 hn_g4)) ?_
  refine yG (oj hn_g2 (oj hn_g3 hn_g4)) ?_
  refine yT hC (oj hn_g2 (oj hn_g3 hn_g4)) ?_
  exact ler_rd (by rw [sq_mul]; rfl)
theorem neg_wf {r : RD} (hw : r.wf 1073741824) : (rd (-r.q)).wf 1073741824 := rd_wf (fits_neg (RD.fits hw (by omega)))
set_option maxHeartbeats 800000 in
theorem rsub_fa (a b : RD) (ha : a.wf 1073741824) (hb : b.wf 1073741824) : Fa Tryz.prog 67 [.agg (rdc a), .agg (rdc b)] (.agg (rdc (rd (a.q - b.q)))) := by
  refine fa_of_body Tryz.func67 rfl rfl (by simp [Tryz.ntmps67]) fun C hC => ?_
  simp only [initS, Nat.reduceAdd]
  refine xG ?_
  refine xB fun g2 hn_g2=>?_
  refine yB hn_g2 fun g3 hn_g3=>?_
  refine yA (oj hn_g2 hn_g3) fun g4 hn_g4=>?_
  refine yG (oj hn_g2 (oj hn_g3 hn_g4)) ?_
  refine aw_dr 4 ty_mixed (by kernel_rfl) ?_
  refine yG (oj hn_g2 (oj hn_g3 hn_g4)) ?_
  refine yD (oj hn_g2 (oj hn_g3 hn_g4)) (rneg_fa b hb) ?_
  refine yG (oj hn_g2 (oj hn_g3 hn_g4)) ?_
  refine yD (oj hn_g2 (oj hn_g3 hn_g4)) (radd_fa a (rd (-b.q)) ha (neg_wf hb)) ?_
  refine yG (oj hn_g2 (oj hn_g3 hn_g4)) ?_
  refine yW (oj hn_g2 (oj hn_g3 hn_g4)) ?_
  refine yS (oj hn_g2 (oj hn_g3 hn_g4)) ?_
  refine yG (oj hn_g2 (oj hn_g3 hn_g4)) ?_
  refine yT hC (oj hn_g2 (oj hn_g3 hn_g4)) ?_
  exact ler_rd (by rw [rd_q, Rat.sub_eq_add_neg])
end Go.Proofs.YtlpejaefobdajaaGreat
