/- Texts of one proof, laid one behind the other by a program (merge.py): TyA, Rat1, Rat2, Rat3, Ref1. -/
import Derived.Test.YtmfmnmkipjpjhaaGreatProg
import Derived.Test.YtmfmnmkipjpjhaaGreatQ05
import Derived.KernelRfl
import Derived.Test.YtmfmnmkipjpjhaaGreatQ11
import Derived.Test.YtmfmnmkipjpjhaaGreatQ09
import Derived.Test.YtmfmnmkipjpjhaaGreatQ04
import Derived.Test.YtmfmnmkipjpjhaaGreatQ08
set_option linter.unusedSimpArgs false
set_option linter.unusedVariables false
/- The types of the program, as the evaluator asks for them; printed by a program (gen_ty.py). -/
namespace Go.Proofs.YtmfmnmkipjpjhaaGreat
open Go.AI
@[go_sem] theorem tya_s_2 : tSz Tryz.prog 2 = some (false, 1) := by kernel_rfl
@[go_sem] theorem tya_zi_2 : tZI Tryz.prog 2 = some (.i64, 0) := by kernel_rfl
@[go_sem] theorem tya_i_2 : tInt Tryz.prog 2 = some .i64 := by kernel_rfl
@[go_sem] theorem tya_z_2 : tZero Tryz.prog 2 = some [.int .i64 0] := by kernel_rfl
@[go_sem] theorem tya_s_3 : tSz Tryz.prog 3 = some (false, 1) := by kernel_rfl
@[go_sem] theorem tya_zi_3 : tZI Tryz.prog 3 = some (.i64, 0) := by kernel_rfl
@[go_sem] theorem tya_i_3 : tInt Tryz.prog 3 = some .i64 := by kernel_rfl
@[go_sem] theorem tya_z_3 : tZero Tryz.prog 3 = some [.int .i64 0] := by kernel_rfl
@[go_sem] theorem tya_s_4 : tSz Tryz.prog 4 = some (false, 1) := by kernel_rfl
@[go_sem] theorem tya_b_4 : tBool Tryz.prog 4 = true := by kernel_rfl
@[go_sem] theorem tya_z_4 : tZero Tryz.prog 4 = some [.bool false] := by kernel_rfl
@[go_sem] theorem tya_s_5 : tSz Tryz.prog 5 = some (false, 1) := by kernel_rfl
@[go_sem] theorem tya_zi_5 : tZI Tryz.prog 5 = some (.u8, 0) := by kernel_rfl
@[go_sem] theorem tya_i_5 : tInt Tryz.prog 5 = some .u8 := by kernel_rfl
@[go_sem] theorem tya_z_5 : tZero Tryz.prog 5 = some [.int .u8 0] := by kernel_rfl
@[go_sem] theorem tya_s_6 : tSz Tryz.prog 6 = some (false, 1) := by kernel_rfl
@[go_sem] theorem tya_zi_6 : tZI Tryz.prog 6 = some (.u8, 0) := by kernel_rfl
@[go_sem] theorem tya_i_6 : tInt Tryz.prog 6 = some .u8 := by kernel_rfl
@[go_sem] theorem tya_z_6 : tZero Tryz.prog 6 = some [.int .u8 0] := by kernel_rfl
@[go_sem] theorem tya_s_7 : tSz Tryz.prog 7 = some (true, 4) := by kernel_rfl
@[go_sem] theorem tya_fl_7 : tFlds Tryz.prog 7 = some [(0, 1), (1, 1), (2, 1), (3, 1)] := by kernel_rfl
@[go_sem] theorem tya_f0_7 : tFld Tryz.prog 7 0 = some 0 := by kernel_rfl
@[go_sem] theorem tya_f1_7 : tFld Tryz.prog 7 1 = some 1 := by kernel_rfl
@[go_sem] theorem tya_f2_7 : tFld Tryz.prog 7 2 = some 2 := by kernel_rfl
@[go_sem] theorem tya_f3_7 : tFld Tryz.prog 7 3 = some 3 := by kernel_rfl
@[go_sem] theorem tya_z_7 : tZero Tryz.prog 7 = some [.int .i64 0, .int .i64 0, .bool false, .int .u8 0] := by kernel_rfl
@[go_sem] theorem tya_s_8 : tSz Tryz.prog 8 = some (true, 4) := by kernel_rfl
@[go_sem] theorem tya_fl_8 : tFlds Tryz.prog 8 = some [(0, 1), (1, 1), (2, 1), (3, 1)] := by kernel_rfl
@[go_sem] theorem tya_f0_8 : tFld Tryz.prog 8 0 = some 0 := by kernel_rfl
@[go_sem] theorem tya_f1_8 : tFld Tryz.prog 8 1 = some 1 := by kernel_rfl
@[go_sem] theorem tya_f2_8 : tFld Tryz.prog 8 2 = some 2 := by kernel_rfl
@[go_sem] theorem tya_f3_8 : tFld Tryz.prog 8 3 = some 3 := by kernel_rfl
@[go_sem] theorem tya_z_8 : tZero Tryz.prog 8 = some [.int .i64 0, .int .i64 0, .bool false, .int .u8 0] := by kernel_rfl
@[go_sem] theorem tya_s_9 : tSz Tryz.prog 9 = some (false, 1) := by kernel_rfl
@[go_sem] theorem tya_z_9 : tZero Tryz.prog 9 = some [.str ⟨#[]⟩] := by kernel_rfl
@[go_sem] theorem tya_s_10 : tSz Tryz.prog 10 = some (false, 1) := by kernel_rfl
@[go_sem] theorem tya_z_10 : tZero Tryz.prog 10 = some [.str ⟨#[]⟩] := by kernel_rfl
@[go_sem] theorem tya_s_11 : tSz Tryz.prog 11 = some (false, 1) := by kernel_rfl
@[go_sem] theorem tya_z_11 : tZero Tryz.prog 11 = some [.str ⟨#[]⟩] := by kernel_rfl
@[go_sem] theorem tya_s_12 : tSz Tryz.prog 12 = some (false, 1) := by kernel_rfl
@[go_sem] theorem tya_zi_12 : tZI Tryz.prog 12 = some (.u64, 0) := by kernel_rfl
@[go_sem] theorem tya_i_12 : tInt Tryz.prog 12 = some .u64 := by kernel_rfl
@[go_sem] theorem tya_z_12 : tZero Tryz.prog 12 = some [.int .u64 0] := by kernel_rfl
@[go_sem] theorem tya_s_13 : tSz Tryz.prog 13 = some (true, 2) := by kernel_rfl
@[go_sem] theorem tya_fl_13 : tFlds Tryz.prog 13 = some [(0, 1), (1, 1)] := by kernel_rfl
@[go_sem] theorem tya_f0_13 : tFld Tryz.prog 13 0 = some 0 := by kernel_rfl
@[go_sem] theorem tya_f1_13 : tFld Tryz.prog 13 1 = some 1 := by kernel_rfl
@[go_sem] theorem tya_z_13 : tZero Tryz.prog 13 = some [.str ⟨#[]⟩, .int .u64 0] := by kernel_rfl
@[go_sem] theorem tya_s_14 : tSz Tryz.prog 14 = some (true, 2) := by kernel_rfl
@[go_sem] theorem tya_fl_14 : tFlds Tryz.prog 14 = some [(0, 1), (1, 1)] := by kernel_rfl
@[go_sem] theorem tya_f0_14 : tFld Tryz.prog 14 0 = some 0 := by kernel_rfl
@[go_sem] theorem tya_f1_14 : tFld Tryz.prog 14 1 = some 1 := by kernel_rfl
@[go_sem] theorem tya_z_14 : tZero Tryz.prog 14 = some [.str ⟨#[]⟩, .int .u64 0] := by kernel_rfl
@[go_sem] theorem tya_s_15 : tSz Tryz.prog 15 = some (false, 1) := by kernel_rfl
@[go_sem] theorem tya_z_15 : tZero Tryz.prog 15 = some [.raw (.pointer none)] := by kernel_rfl
@[go_sem] theorem tya_s_16 : tSz Tryz.prog 16 = some (false, 1) := by kernel_rfl
@[go_sem] theorem tya_z_16 : tZero Tryz.prog 16 = some [.raw (.pointer none)] := by kernel_rfl
@[go_sem] theorem tya_s_17 : tSz Tryz.prog 17 = some (false, 1) := by kernel_rfl
@[go_sem] theorem tya_z_17 : tZero Tryz.prog 17 = some [.raw (.pointer none)] := by kernel_rfl
@[go_sem] theorem tya_s_18 : tSz Tryz.prog 18 = some (true, 1) := by kernel_rfl
@[go_sem] theorem tya_fl_18 : tFlds Tryz.prog 18 = some [(0, 1)] := by kernel_rfl
@[go_sem] theorem tya_f0_18 : tFld Tryz.prog 18 0 = some 0 := by kernel_rfl
@[go_sem] theorem tya_z_18 : tZero Tryz.prog 18 = some [.raw (.pointer none)] := by kernel_rfl
@[go_sem] theorem tya_s_19 : tSz Tryz.prog 19 = some (true, 1) := by kernel_rfl
@[go_sem] theorem tya_fl_19 : tFlds Tryz.prog 19 = some [(0, 1)] := by kernel_rfl
@[go_sem] theorem tya_f0_19 : tFld Tryz.prog 19 0 = some 0 := by kernel_rfl
@[go_sem] theorem tya_z_19 : tZero Tryz.prog 19 = some [.raw (.pointer none)] := by kernel_rfl
@[go_sem] theorem tya_s_20 : tSz Tryz.prog 20 = some (false, 1) := by kernel_rfl
@[go_sem] theorem tya_c_20 : tIfc Tryz.prog 20 = true := by kernel_rfl
@[go_sem] theorem tya_z_20 : tZero Tryz.prog 20 = some [.nilI] := by kernel_rfl
@[go_sem] theorem tya_s_21 : tSz Tryz.prog 21 = some (false, 1) := by kernel_rfl
@[go_sem] theorem tya_zi_21 : tZI Tryz.prog 21 = some (.i32, 0) := by kernel_rfl
@[go_sem] theorem tya_i_21 : tInt Tryz.prog 21 = some .i32 := by kernel_rfl
@[go_sem] theorem tya_z_21 : tZero Tryz.prog 21 = some [.int .i32 0] := by kernel_rfl
@[go_sem] theorem tya_e_22 : tElem Tryz.prog 22 = some (74, 3, 40) := by kernel_rfl
@[go_sem] theorem tya_s_22 : tSz Tryz.prog 22 = some (false, 1) := by kernel_rfl
@[go_sem] theorem tya_z_22 : tZero Tryz.prog 22 = some [.nils] := by kernel_rfl
@[go_sem] theorem tya_s_23 : tSz Tryz.prog 23 = some (true, 3) := by kernel_rfl
@[go_sem] theorem tya_fl_23 : tFlds Tryz.prog 23 = some [(0, 1), (1, 1), (2, 1)] := by kernel_rfl
@[go_sem] theorem tya_f0_23 : tFld Tryz.prog 23 0 = some 0 := by kernel_rfl
@[go_sem] theorem tya_f1_23 : tFld Tryz.prog 23 1 = some 1 := by kernel_rfl
@[go_sem] theorem tya_f2_23 : tFld Tryz.prog 23 2 = some 2 := by kernel_rfl
@[go_sem] theorem tya_z_23 : tZero Tryz.prog 23 = some [.int .i64 0, .nils, .int .i64 0] := by kernel_rfl
@[go_sem] theorem tya_s_24 : tSz Tryz.prog 24 = some (true, 3) := by kernel_rfl
@[go_sem] theorem tya_fl_24 : tFlds Tryz.prog 24 = some [(0, 1), (1, 1), (2, 1)] := by kernel_rfl
@[go_sem] theorem tya_f0_24 : tFld Tryz.prog 24 0 = some 0 := by kernel_rfl
@[go_sem] theorem tya_f1_24 : tFld Tryz.prog 24 1 = some 1 := by kernel_rfl
@[go_sem] theorem tya_f2_24 : tFld Tryz.prog 24 2 = some 2 := by kernel_rfl
@[go_sem] theorem tya_z_24 : tZero Tryz.prog 24 = some [.int .i64 0, .nils, .int .i64 0] := by kernel_rfl
@[go_sem] theorem tya_e_25 : tElem Tryz.prog 25 = some (35, 3, 56) := by kernel_rfl
@[go_sem] theorem tya_s_25 : tSz Tryz.prog 25 = some (false, 1) := by kernel_rfl
@[go_sem] theorem tya_z_25 : tZero Tryz.prog 25 = some [.nils] := by kernel_rfl
@[go_sem] theorem tya_e_28 : tElem Tryz.prog 28 = some (3, 1, 8) := by kernel_rfl
@[go_sem] theorem tya_s_28 : tSz Tryz.prog 28 = some (false, 1) := by kernel_rfl
@[go_sem] theorem tya_z_28 : tZero Tryz.prog 28 = some [.nils] := by kernel_rfl
@[go_sem] theorem tya_e_29 : tElem Tryz.prog 29 = some (104, 3, 24) := by kernel_rfl
@[go_sem] theorem tya_s_29 : tSz Tryz.prog 29 = some (false, 1) := by kernel_rfl
@[go_sem] theorem tya_z_29 : tZero Tryz.prog 29 = some [.nils] := by kernel_rfl
@[go_sem] theorem tya_s_30 : tSz Tryz.prog 30 = some (true, 3) := by kernel_rfl
@[go_sem] theorem tya_fl_30 : tFlds Tryz.prog 30 = some [(0, 1), (1, 1), (2, 1)] := by kernel_rfl
@[go_sem] theorem tya_f0_30 : tFld Tryz.prog 30 0 = some 0 := by kernel_rfl
@[go_sem] theorem tya_f1_30 : tFld Tryz.prog 30 1 = some 1 := by kernel_rfl
@[go_sem] theorem tya_f2_30 : tFld Tryz.prog 30 2 = some 2 := by kernel_rfl
@[go_sem] theorem tya_z_30 : tZero Tryz.prog 30 = some [.nils, .nils, .int .i64 0] := by kernel_rfl
@[go_sem] theorem tya_s_31 : tSz Tryz.prog 31 = some (true, 3) := by kernel_rfl
@[go_sem] theorem tya_fl_31 : tFlds Tryz.prog 31 = some [(0, 1), (1, 1), (2, 1)] := by kernel_rfl
@[go_sem] theorem tya_f0_31 : tFld Tryz.prog 31 0 = some 0 := by kernel_rfl
@[go_sem] theorem tya_f1_31 : tFld Tryz.prog 31 1 = some 1 := by kernel_rfl
@[go_sem] theorem tya_f2_31 : tFld Tryz.prog 31 2 = some 2 := by kernel_rfl
@[go_sem] theorem tya_z_31 : tZero Tryz.prog 31 = some [.nils, .nils, .int .i64 0] := by kernel_rfl
@[go_sem] theorem tya_e_33 : tElem Tryz.prog 33 = some (106, 1, 4) := by kernel_rfl
@[go_sem] theorem tya_s_33 : tSz Tryz.prog 33 = some (false, 1) := by kernel_rfl
@[go_sem] theorem tya_z_33 : tZero Tryz.prog 33 = some [.nils] := by kernel_rfl
@[go_sem] theorem tya_s_34 : tSz Tryz.prog 34 = some (true, 3) := by kernel_rfl
@[go_sem] theorem tya_fl_34 : tFlds Tryz.prog 34 = some [(0, 1), (1, 1), (2, 1)] := by kernel_rfl
@[go_sem] theorem tya_f0_34 : tFld Tryz.prog 34 0 = some 0 := by kernel_rfl
@[go_sem] theorem tya_f1_34 : tFld Tryz.prog 34 1 = some 1 := by kernel_rfl
@[go_sem] theorem tya_f2_34 : tFld Tryz.prog 34 2 = some 2 := by kernel_rfl
@[go_sem] theorem tya_z_34 : tZero Tryz.prog 34 = some [.bool false, .nils, .nils] := by kernel_rfl
@[go_sem] theorem tya_s_35 : tSz Tryz.prog 35 = some (true, 3) := by kernel_rfl
@[go_sem] theorem tya_fl_35 : tFlds Tryz.prog 35 = some [(0, 1), (1, 1), (2, 1)] := by kernel_rfl
@[go_sem] theorem tya_f0_35 : tFld Tryz.prog 35 0 = some 0 := by kernel_rfl
@[go_sem] theorem tya_f1_35 : tFld Tryz.prog 35 1 = some 1 := by kernel_rfl
@[go_sem] theorem tya_f2_35 : tFld Tryz.prog 35 2 = some 2 := by kernel_rfl
@[go_sem] theorem tya_z_35 : tZero Tryz.prog 35 = some [.bool false, .nils, .nils] := by kernel_rfl
@[go_sem] theorem tya_s_36 : tSz Tryz.prog 36 = some (false, 1) := by kernel_rfl
@[go_sem] theorem tya_c_36 : tIfc Tryz.prog 36 = true := by kernel_rfl
@[go_sem] theorem tya_z_36 : tZero Tryz.prog 36 = some [.nilI] := by kernel_rfl
@[go_sem] theorem tya_s_37 : tSz Tryz.prog 37 = some (false, 1) := by kernel_rfl
@[go_sem] theorem tya_c_37 : tIfc Tryz.prog 37 = true := by kernel_rfl
@[go_sem] theorem tya_z_37 : tZero Tryz.prog 37 = some [.nilI] := by kernel_rfl
@[go_sem] theorem tya_e_45 : tElem Tryz.prog 45 = some (4, 1, 1) := by kernel_rfl
@[go_sem] theorem tya_s_45 : tSz Tryz.prog 45 = some (false, 1) := by kernel_rfl
@[go_sem] theorem tya_z_45 : tZero Tryz.prog 45 = some [.nils] := by kernel_rfl
@[go_sem] theorem tya_s_56 : tSz Tryz.prog 56 = some (true, 2) := by kernel_rfl
@[go_sem] theorem tya_fl_56 : tFlds Tryz.prog 56 = some [(0, 1), (1, 1)] := by kernel_rfl
@[go_sem] theorem tya_f0_56 : tFld Tryz.prog 56 0 = some 0 := by kernel_rfl
@[go_sem] theorem tya_f1_56 : tFld Tryz.prog 56 1 = some 1 := by kernel_rfl
@[go_sem] theorem tya_q_56 : tEqS Tryz.prog 56 = some 2 := by kernel_rfl
@[go_sem] theorem tya_z_56 : tZero Tryz.prog 56 = some [.int .i64 0, .int .i64 0] := by kernel_rfl
@[go_sem] theorem tya_s_57 : tSz Tryz.prog 57 = some (true, 2) := by kernel_rfl
@[go_sem] theorem tya_fl_57 : tFlds Tryz.prog 57 = some [(0, 1), (1, 1)] := by kernel_rfl
@[go_sem] theorem tya_f0_57 : tFld Tryz.prog 57 0 = some 0 := by kernel_rfl
@[go_sem] theorem tya_f1_57 : tFld Tryz.prog 57 1 = some 1 := by kernel_rfl
@[go_sem] theorem tya_q_57 : tEqS Tryz.prog 57 = some 2 := by kernel_rfl
@[go_sem] theorem tya_z_57 : tZero Tryz.prog 57 = some [.int .i64 0, .int .i64 0] := by kernel_rfl
@[go_sem] theorem tya_s_70 : tSz Tryz.prog 70 = some (false, 1) := by kernel_rfl
@[go_sem] theorem tya_zi_70 : tZI Tryz.prog 70 = some (.i64, 0) := by kernel_rfl
@[go_sem] theorem tya_i_70 : tInt Tryz.prog 70 = some .i64 := by kernel_rfl
@[go_sem] theorem tya_z_70 : tZero Tryz.prog 70 = some [.int .i64 0] := by kernel_rfl
@[go_sem] theorem tya_s_73 : tSz Tryz.prog 73 = some (true, 3) := by kernel_rfl
@[go_sem] theorem tya_fl_73 : tFlds Tryz.prog 73 = some [(0, 1), (1, 1), (2, 1)] := by kernel_rfl
@[go_sem] theorem tya_f0_73 : tFld Tryz.prog 73 0 = some 0 := by kernel_rfl
@[go_sem] theorem tya_f1_73 : tFld Tryz.prog 73 1 = some 1 := by kernel_rfl
@[go_sem] theorem tya_f2_73 : tFld Tryz.prog 73 2 = some 2 := by kernel_rfl
@[go_sem] theorem tya_z_73 : tZero Tryz.prog 73 = some [.int .i64 0, .int .i64 0, .nils] := by kernel_rfl
@[go_sem] theorem tya_s_74 : tSz Tryz.prog 74 = some (true, 3) := by kernel_rfl
@[go_sem] theorem tya_fl_74 : tFlds Tryz.prog 74 = some [(0, 1), (1, 1), (2, 1)] := by kernel_rfl
@[go_sem] theorem tya_f0_74 : tFld Tryz.prog 74 0 = some 0 := by kernel_rfl
@[go_sem] theorem tya_f1_74 : tFld Tryz.prog 74 1 = some 1 := by kernel_rfl
@[go_sem] theorem tya_f2_74 : tFld Tryz.prog 74 2 = some 2 := by kernel_rfl
@[go_sem] theorem tya_z_74 : tZero Tryz.prog 74 = some [.int .i64 0, .int .i64 0, .nils] := by kernel_rfl
@[go_sem] theorem tya_s_97 : tSz Tryz.prog 97 = some (false, 1) := by kernel_rfl
@[go_sem] theorem tya_z_97 : tZero Tryz.prog 97 = some [.raw (.pointer none)] := by kernel_rfl
@[go_sem] theorem tya_s_103 : tSz Tryz.prog 103 = some (true, 3) := by kernel_rfl
@[go_sem] theorem tya_fl_103 : tFlds Tryz.prog 103 = some [(0, 1), (1, 1), (2, 1)] := by kernel_rfl
@[go_sem] theorem tya_f0_103 : tFld Tryz.prog 103 0 = some 0 := by kernel_rfl
@[go_sem] theorem tya_f1_103 : tFld Tryz.prog 103 1 = some 1 := by kernel_rfl
@[go_sem] theorem tya_f2_103 : tFld Tryz.prog 103 2 = some 2 := by kernel_rfl
@[go_sem] theorem tya_q_103 : tEqS Tryz.prog 103 = some 3 := by kernel_rfl
@[go_sem] theorem tya_z_103 : tZero Tryz.prog 103 = some [.int .i64 0, .int .i64 0, .int .i64 0] := by kernel_rfl
@[go_sem] theorem tya_s_104 : tSz Tryz.prog 104 = some (true, 3) := by kernel_rfl
@[go_sem] theorem tya_fl_104 : tFlds Tryz.prog 104 = some [(0, 1), (1, 1), (2, 1)] := by kernel_rfl
@[go_sem] theorem tya_f0_104 : tFld Tryz.prog 104 0 = some 0 := by kernel_rfl
@[go_sem] theorem tya_f1_104 : tFld Tryz.prog 104 1 = some 1 := by kernel_rfl
@[go_sem] theorem tya_f2_104 : tFld Tryz.prog 104 2 = some 2 := by kernel_rfl
@[go_sem] theorem tya_q_104 : tEqS Tryz.prog 104 = some 3 := by kernel_rfl
@[go_sem] theorem tya_z_104 : tZero Tryz.prog 104 = some [.int .i64 0, .int .i64 0, .int .i64 0] := by kernel_rfl
@[go_sem] theorem tya_s_106 : tSz Tryz.prog 106 = some (false, 1) := by kernel_rfl
@[go_sem] theorem tya_zi_106 : tZI Tryz.prog 106 = some (.u32, 0) := by kernel_rfl
@[go_sem] theorem tya_i_106 : tInt Tryz.prog 106 = some .u32 := by kernel_rfl
@[go_sem] theorem tya_z_106 : tZero Tryz.prog 106 = some [.int .u32 0] := by kernel_rfl
@[go_sem] theorem tya_s_125 : tSz Tryz.prog 125 = some (false, 1) := by kernel_rfl
@[go_sem] theorem tya_z_125 : tZero Tryz.prog 125 = some [.raw (.pointer none)] := by kernel_rfl
@[go_sem] theorem tya_s_126 : tSz Tryz.prog 126 = some (true, 5) := by kernel_rfl
@[go_sem] theorem tya_fl_126 : tFlds Tryz.prog 126 = some [(0, 3), (3, 1), (4, 1)] := by kernel_rfl
@[go_sem] theorem tya_f0_126 : tFld Tryz.prog 126 0 = some 0 := by kernel_rfl
@[go_sem] theorem tya_f1_126 : tFld Tryz.prog 126 1 = some 3 := by kernel_rfl
@[go_sem] theorem tya_f2_126 : tFld Tryz.prog 126 2 = some 4 := by kernel_rfl
@[go_sem] theorem tya_z_126 : tZero Tryz.prog 126 = some [.int .i64 0, .nils, .int .i64 0, .nils, .nils] := by kernel_rfl
@[go_sem] theorem tya_s_127 : tSz Tryz.prog 127 = some (true, 5) := by kernel_rfl
@[go_sem] theorem tya_fl_127 : tFlds Tryz.prog 127 = some [(0, 3), (3, 1), (4, 1)] := by kernel_rfl
@[go_sem] theorem tya_f0_127 : tFld Tryz.prog 127 0 = some 0 := by kernel_rfl
@[go_sem] theorem tya_f1_127 : tFld Tryz.prog 127 1 = some 3 := by kernel_rfl
@[go_sem] theorem tya_f2_127 : tFld Tryz.prog 127 2 = some 4 := by kernel_rfl
@[go_sem] theorem tya_z_127 : tZero Tryz.prog 127 = some [.int .i64 0, .nils, .int .i64 0, .nils, .nils] := by kernel_rfl
@[go_sem] theorem tya_s_129 : tSz Tryz.prog 129 = some (false, 1) := by kernel_rfl
@[go_sem] theorem tya_z_129 : tZero Tryz.prog 129 = some [.raw (.map none)] := by kernel_rfl
@[go_sem] theorem tya_s_130 : tSz Tryz.prog 130 = some (false, 1) := by kernel_rfl
@[go_sem] theorem tya_z_130 : tZero Tryz.prog 130 = some [.raw (.map none)] := by kernel_rfl
@[go_sem] theorem tya_s_131 : tSz Tryz.prog 131 = some (true, 5) := by kernel_rfl
@[go_sem] theorem tya_fl_131 : tFlds Tryz.prog 131 = some [(0, 1), (1, 1), (2, 1), (3, 1), (4, 1)] := by kernel_rfl
@[go_sem] theorem tya_f0_131 : tFld Tryz.prog 131 0 = some 0 := by kernel_rfl
@[go_sem] theorem tya_f1_131 : tFld Tryz.prog 131 1 = some 1 := by kernel_rfl
@[go_sem] theorem tya_f2_131 : tFld Tryz.prog 131 2 = some 2 := by kernel_rfl
@[go_sem] theorem tya_f3_131 : tFld Tryz.prog 131 3 = some 3 := by kernel_rfl
@[go_sem] theorem tya_f4_131 : tFld Tryz.prog 131 4 = some 4 := by kernel_rfl
@[go_sem] theorem tya_z_131 : tZero Tryz.prog 131 = some [.nils, .nils, .nils, .raw (.map none), .raw (.map none)] := by kernel_rfl
@[go_sem] theorem tya_s_132 : tSz Tryz.prog 132 = some (true, 5) := by kernel_rfl
@[go_sem] theorem tya_fl_132 : tFlds Tryz.prog 132 = some [(0, 1), (1, 1), (2, 1), (3, 1), (4, 1)] := by kernel_rfl
@[go_sem] theorem tya_f0_132 : tFld Tryz.prog 132 0 = some 0 := by kernel_rfl
@[go_sem] theorem tya_f1_132 : tFld Tryz.prog 132 1 = some 1 := by kernel_rfl
@[go_sem] theorem tya_f2_132 : tFld Tryz.prog 132 2 = some 2 := by kernel_rfl
@[go_sem] theorem tya_f3_132 : tFld Tryz.prog 132 3 = some 3 := by kernel_rfl
@[go_sem] theorem tya_f4_132 : tFld Tryz.prog 132 4 = some 4 := by kernel_rfl
@[go_sem] theorem tya_z_132 : tZero Tryz.prog 132 = some [.nils, .nils, .nils, .raw (.map none), .raw (.map none)] := by kernel_rfl
@[go_sem] theorem tya_s_137 : tSz Tryz.prog 137 = some (false, 1) := by kernel_rfl
@[go_sem] theorem tya_z_137 : tZero Tryz.prog 137 = some [.raw (.map none)] := by kernel_rfl
@[go_sem] theorem tya_s_138 : tSz Tryz.prog 138 = some (false, 1) := by kernel_rfl
@[go_sem] theorem tya_z_138 : tZero Tryz.prog 138 = some [.raw (.map none)] := by kernel_rfl
@[go_sem] theorem tya_s_141 : tSz Tryz.prog 141 = some (false, 1) := by kernel_rfl
@[go_sem] theorem tya_zi_141 : tZI Tryz.prog 141 = some (.u64, 0) := by kernel_rfl
@[go_sem] theorem tya_i_141 : tInt Tryz.prog 141 = some .u64 := by kernel_rfl
@[go_sem] theorem tya_z_141 : tZero Tryz.prog 141 = some [.int .u64 0] := by kernel_rfl
@[go_sem] theorem tya_s_143 : tSz Tryz.prog 143 = some (false, 1) := by kernel_rfl
@[go_sem] theorem tya_zi_143 : tZI Tryz.prog 143 = some (.u64, 0) := by kernel_rfl
@[go_sem] theorem tya_i_143 : tInt Tryz.prog 143 = some .u64 := by kernel_rfl
@[go_sem] theorem tya_z_143 : tZero Tryz.prog 143 = some [.int .u64 0] := by kernel_rfl
@[go_sem] theorem tya_s_150 : tSz Tryz.prog 150 = some (false, 1) := by kernel_rfl
@[go_sem] theorem tya_z_150 : tZero Tryz.prog 150 = some [.raw (.map none)] := by kernel_rfl
@[go_sem] theorem tya_s_165 : tSz Tryz.prog 165 = some (true, 3) := by kernel_rfl
@[go_sem] theorem tya_z_165 : tZero Tryz.prog 165 = some [.int .i64 0, .int .i64 0, .int .i64 0] := by kernel_rfl
@[go_sem] theorem tya_s_169 : tSz Tryz.prog 169 = some (true, 4) := by kernel_rfl
@[go_sem] theorem tya_fl_169 : tFlds Tryz.prog 169 = some [(0, 1), (1, 1), (2, 1), (3, 1)] := by kernel_rfl
@[go_sem] theorem tya_f0_169 : tFld Tryz.prog 169 0 = some 0 := by kernel_rfl
@[go_sem] theorem tya_f1_169 : tFld Tryz.prog 169 1 = some 1 := by kernel_rfl
@[go_sem] theorem tya_f2_169 : tFld Tryz.prog 169 2 = some 2 := by kernel_rfl
@[go_sem] theorem tya_f3_169 : tFld Tryz.prog 169 3 = some 3 := by kernel_rfl
@[go_sem] theorem tya_z_169 : tZero Tryz.prog 169 = some [.raw (.pointer none), .raw (.pointer none), .raw (.pointer none), .str ⟨#[]⟩] := by kernel_rfl
@[go_sem] theorem tya_s_170 : tSz Tryz.prog 170 = some (true, 4) := by kernel_rfl
@[go_sem] theorem tya_fl_170 : tFlds Tryz.prog 170 = some [(0, 1), (1, 1), (2, 1), (3, 1)] := by kernel_rfl
@[go_sem] theorem tya_f0_170 : tFld Tryz.prog 170 0 = some 0 := by kernel_rfl
@[go_sem] theorem tya_f1_170 : tFld Tryz.prog 170 1 = some 1 := by kernel_rfl
@[go_sem] theorem tya_f2_170 : tFld Tryz.prog 170 2 = some 2 := by kernel_rfl
@[go_sem] theorem tya_f3_170 : tFld Tryz.prog 170 3 = some 3 := by kernel_rfl
@[go_sem] theorem tya_z_170 : tZero Tryz.prog 170 = some [.raw (.pointer none), .raw (.pointer none), .raw (.pointer none), .str ⟨#[]⟩] := by kernel_rfl
@[go_sem] theorem tya_s_175 : tSz Tryz.prog 175 = some (false, 1) := by kernel_rfl
@[go_sem] theorem tya_zi_175 : tZI Tryz.prog 175 = some (.u8, 0) := by kernel_rfl
@[go_sem] theorem tya_i_175 : tInt Tryz.prog 175 = some .u8 := by kernel_rfl
@[go_sem] theorem tya_z_175 : tZero Tryz.prog 175 = some [.int .u8 0] := by kernel_rfl
@[go_sem] theorem tya_s_176 : tSz Tryz.prog 176 = some (false, 1) := by kernel_rfl
@[go_sem] theorem tya_zi_176 : tZI Tryz.prog 176 = some (.u8, 0) := by kernel_rfl
@[go_sem] theorem tya_i_176 : tInt Tryz.prog 176 = some .u8 := by kernel_rfl
@[go_sem] theorem tya_z_176 : tZero Tryz.prog 176 = some [.int .u8 0] := by kernel_rfl
@[go_sem] theorem tya_s_178 : tSz Tryz.prog 178 = some (false, 1) := by kernel_rfl
@[go_sem] theorem tya_z_178 : tZero Tryz.prog 178 = some [.raw (.pointer none)] := by kernel_rfl
@[go_sem] theorem tya_s_179 : tSz Tryz.prog 179 = some (false, 1) := by kernel_rfl
@[go_sem] theorem tya_zi_179 : tZI Tryz.prog 179 = some (.i32, 0) := by kernel_rfl
@[go_sem] theorem tya_i_179 : tInt Tryz.prog 179 = some .i32 := by kernel_rfl
@[go_sem] theorem tya_z_179 : tZero Tryz.prog 179 = some [.int .i32 0] := by kernel_rfl
@[go_sem] theorem tya_s_180 : tSz Tryz.prog 180 = some (false, 1) := by kernel_rfl
@[go_sem] theorem tya_zi_180 : tZI Tryz.prog 180 = some (.i32, 0) := by kernel_rfl
@[go_sem] theorem tya_i_180 : tInt Tryz.prog 180 = some .i32 := by kernel_rfl
@[go_sem] theorem tya_z_180 : tZero Tryz.prog 180 = some [.int .i32 0] := by kernel_rfl
@[go_sem] theorem tya_s_181 : tSz Tryz.prog 181 = some (true, 11) := by kernel_rfl
@[go_sem] theorem tya_fl_181 : tFlds Tryz.prog 181 = some [(0, 1), (1, 1), (2, 1), (3, 1), (4, 1), (5, 1), (6, 1), (7, 1), (8, 1), (9, 1), (10, 1)] := by kernel_rfl
@[go_sem] theorem tya_f0_181 : tFld Tryz.prog 181 0 = some 0 := by kernel_rfl
@[go_sem] theorem tya_f1_181 : tFld Tryz.prog 181 1 = some 1 := by kernel_rfl
@[go_sem] theorem tya_f2_181 : tFld Tryz.prog 181 2 = some 2 := by kernel_rfl
@[go_sem] theorem tya_f3_181 : tFld Tryz.prog 181 3 = some 3 := by kernel_rfl
@[go_sem] theorem tya_f4_181 : tFld Tryz.prog 181 4 = some 4 := by kernel_rfl
@[go_sem] theorem tya_f5_181 : tFld Tryz.prog 181 5 = some 5 := by kernel_rfl
@[go_sem] theorem tya_f6_181 : tFld Tryz.prog 181 6 = some 6 := by kernel_rfl
@[go_sem] theorem tya_f7_181 : tFld Tryz.prog 181 7 = some 7 := by kernel_rfl
@[go_sem] theorem tya_f8_181 : tFld Tryz.prog 181 8 = some 8 := by kernel_rfl
@[go_sem] theorem tya_f9_181 : tFld Tryz.prog 181 9 = some 9 := by kernel_rfl
@[go_sem] theorem tya_f10_181 : tFld Tryz.prog 181 10 = some 10 := by kernel_rfl
@[go_sem] theorem tya_z_181 : tZero Tryz.prog 181 = some [.int .u64 0, .int .u64 0, .int .u32 0, .int .u8 0, .int .u8 0, .int .u8 0, .int .u8 0, .raw .nilFunc, .raw (.pointer none), .int .i32 0, .int .i32 0] := by kernel_rfl
@[go_sem] theorem tya_s_182 : tSz Tryz.prog 182 = some (true, 11) := by kernel_rfl
@[go_sem] theorem tya_fl_182 : tFlds Tryz.prog 182 = some [(0, 1), (1, 1), (2, 1), (3, 1), (4, 1), (5, 1), (6, 1), (7, 1), (8, 1), (9, 1), (10, 1)] := by kernel_rfl
@[go_sem] theorem tya_f0_182 : tFld Tryz.prog 182 0 = some 0 := by kernel_rfl
@[go_sem] theorem tya_f1_182 : tFld Tryz.prog 182 1 = some 1 := by kernel_rfl
@[go_sem] theorem tya_f2_182 : tFld Tryz.prog 182 2 = some 2 := by kernel_rfl
@[go_sem] theorem tya_f3_182 : tFld Tryz.prog 182 3 = some 3 := by kernel_rfl
@[go_sem] theorem tya_f4_182 : tFld Tryz.prog 182 4 = some 4 := by kernel_rfl
@[go_sem] theorem tya_f5_182 : tFld Tryz.prog 182 5 = some 5 := by kernel_rfl
@[go_sem] theorem tya_f6_182 : tFld Tryz.prog 182 6 = some 6 := by kernel_rfl
@[go_sem] theorem tya_f7_182 : tFld Tryz.prog 182 7 = some 7 := by kernel_rfl
@[go_sem] theorem tya_f8_182 : tFld Tryz.prog 182 8 = some 8 := by kernel_rfl
@[go_sem] theorem tya_f9_182 : tFld Tryz.prog 182 9 = some 9 := by kernel_rfl
@[go_sem] theorem tya_f10_182 : tFld Tryz.prog 182 10 = some 10 := by kernel_rfl
@[go_sem] theorem tya_z_182 : tZero Tryz.prog 182 = some [.int .u64 0, .int .u64 0, .int .u32 0, .int .u8 0, .int .u8 0, .int .u8 0, .int .u8 0, .raw .nilFunc, .raw (.pointer none), .int .i32 0, .int .i32 0] := by kernel_rfl
@[go_sem] theorem tya_s_183 : tSz Tryz.prog 183 = some (false, 1) := by kernel_rfl
@[go_sem] theorem tya_z_183 : tZero Tryz.prog 183 = some [.raw (.pointer none)] := by kernel_rfl
end Go.Proofs.YtmfmnmkipjpjhaaGreat

/- rational: one, plain, Valid, parts, form. -/
namespace Go.Proofs.YtmfmnmkipjpjhaaGreat
open Go.AI Go.PN
attribute [local irreducible] aw Fa Fh DrK

/-- The cells of a fraction. -/
abbrev rdc (r : RD) : List CV := [.bool r.neg, ws true r.num, ws true r.den]

theorem cmp_one {n : Nat} : (cmpN n (val [1]) == 0) = decide (n = 1) := by
  have : val [1] = 1 := rfl
  rw [this]
  unfold cmpN
  by_cases h : n = 1
  · subst h; rfl
  · have : ¬ (n = 1) := h
    simp only [this, decide_false, if_false]
    by_cases h0 : n < 1 <;> simp [h0]
theorem plain_eq {xs : List Nat} (h0 : 0 < xs.length) : plainB xs = (((xs.getD (xs.length - 1) 0 : Nat) : Int) != 0) := by
  simp only [plainB, h0, decide_true, Bool.true_and, bne]
  congr 1
  rw [Bool.eq_iff_iff]; simp
theorem plain_no {xs : List Nat} (h0 : ¬ 0 < xs.length) : plainB xs = false := by simp [plainB, h0]

set_option maxHeartbeats 400000 in
theorem one_fa : Fa Tryz.prog 86 [] (.c (ws true [1])) := by
  refine fa_of_body Tryz.func86 rfl rfl (by simp [Tryz.ntmps86]) fun C hC => ?_
  simp only [initS]
  refine xG ?_
  refine aw_buildSlice (xs := [.const (.int .u32 1)]) (cells := [.int .u32 1]) rfl rfl rfl ty_e_ws (by rw [envP, ty_z_u32]; rfl) rfl (by omega) (by omega) (by intro x hx; simp only [List.mem_cons, List.not_mem_nil, or_false] at hx; subst hx; exact ⟨rfl, rfl, rfl⟩) rfl fun g hg => ?_
  refine xS ?_
  refine xG ?_
  refine xT hC ?_
  exact .one (.c (ler_oslws eE (by omega) rfl (fun j hj => by match j, hj with | 0, _ => rfl)))
set_option maxHeartbeats 400000 in
theorem plain_fa (xs : List Nat) (hlx : xs.length ≤ 68719476738) : Fa Tryz.prog 122 [.c (ws false xs)] (.c (.bool (plainB xs))) := by
  refine fa_of_body Tryz.func122 rfl rfl (by simp [Tryz.ntmps122]) fun C hC => ?_
  simp only [initS, Nat.reduceAdd]
  refine xG ?_
  refine aw_split 6 eE (fun hb => ?_) (fun hb => ?_) <;> refine xS ?_
  · have h0 : 0 < xs.length := by have := of_decide_eq_true hb; omega
    refine xG ?_
    refine xT hC ?_
    exact .one (.c (ler_bool (plain_eq h0).symm))
  · have h0 : ¬ 0 < xs.length := by have := of_decide_eq_false hb; omega
    refine xG ?_
    refine xT hC ?_
    exact .one (.c (ler_bool (plain_no h0).symm))
theorem valid_zero {r : RD} (h1 : ((r.num.length : Int) == 0) = true) (h2 : ((r.den.length : Int) == 0) = true) : (!r.neg) = r.valid := by
  have h1' : r.num.length = 0 := by have := eq_of_beq h1; omega
  have h2' : r.den.length = 0 := by have := eq_of_beq h2; omega
  simp [RD.valid, h1', h2']
theorem valid_else {r : RD} (h : ((r.num.length : Int) == 0) = false ∨ ((r.den.length : Int) == 0) = false) : r.valid = (plainB r.num && plainB r.den && decide (Nat.gcd (val r.num) (val r.den) = 1)) := by
  unfold RD.valid
  rw [if_neg]
  rintro ⟨h1, h2⟩
  rcases h with h | h
  · rw [h1] at h; cases h
  · rw [h2] at h; cases h
set_option maxHeartbeats 1600000 in
theorem rvalid_fa (r : RD) (hw : r.wf 68719476736) : Fa Tryz.prog 92 [.agg (rdc r)] (.c (.bool r.valid)) := by
  have hp1 : r.num.length ≤ 68719476738 := by have := hw.2.2.1; omega
  have hp2 : r.den.length ≤ 68719476738 := by have := hw.2.2.2; omega
  have hg : (words (Nat.gcd (val r.num) (val r.den))).length ≤ 68719476736 := by
    by_cases h : val r.num = 0
    · rw [h, Nat.gcd_zero_left]; exact Nat.le_trans (words_val_len _ hw.2.1) hw.2.2.2
    · exact Nat.le_trans (words_len_mono (Nat.gcd_le_left _ (Nat.pos_of_ne_zero h))) (Nat.le_trans (words_val_len _ hw.1) hw.2.2.1)
  refine fa_of_body Tryz.func92 rfl rfl (by simp [Tryz.ntmps92]) fun C hC => ?_
  simp only [initS, Nat.reduceAdd]
  refine xG ?_
  refine xB fun g1 hn_g1=>?_
  refine yH hn_g1 ?_
  apply aw_seq
  refine aw_cut (fun _ : Unit => [(1, .c (.optr g1 0))]) (fun _ => [(g1, .cells 35 3 (ofL (rdc r)))]) (fun _ => ((r.num.length : Int) == 0) = false ∨ ((r.den.length : Int) == 0) = false) ?_ ?_
  · refine yG hn_g1 ?_
    refine aw_split 7 (zE hn_g1) (fun hb => ?_) (fun hb => ?_) <;> refine yS hn_g1 ?_
    · refine yG hn_g1 ?_
      refine yF hn_g1 (fun hd=>?_) fun hd=>?_
      · refine yG hn_g1 ?_
        refine yT hC hn_g1 ?_
        exact .one (.c (ler_bool (valid_zero hb hd)))
      · refine yG hn_g1 ?_
        exact aw_stop ⟨(), (zB hn_g1), zZ, .inr hd⟩
    · refine yG hn_g1 ?_
      refine yN hn_g1 ?_
      refine yG hn_g1 ?_
      exact aw_stop ⟨(), (zB hn_g1), zZ, .inl hb⟩
  rintro _ hd
  rw [valid_else hd]
  refine yG hn_g1 ?_
  refine yC hn_g1 (plain_fa r.num hp1) ?_
  refine yG hn_g1 ?_
  refine aw_split 19 (zE hn_g1) (fun h1 => ?_) (fun h1 => ?_) <;> refine yS hn_g1 ?_
  · refine yG hn_g1 ?_
    refine yC hn_g1 (plain_fa r.den hp2) ?_
    refine yG hn_g1 ?_
    refine aw_split 24 (zE hn_g1) (fun h2 => ?_) (fun h2 => ?_) <;> refine yS hn_g1 ?_
    · refine yG hn_g1 ?_
      refine yC hn_g1 (gcd_fa _ _ hw.1 hw.2.1 hw.2.2.1 hw.2.2.2) ?_
      refine yG hn_g1 ?_
      refine yC hn_g1 (one_fa) ?_
      refine yG hn_g1 ?_
      refine yC hn_g1 (cmp_fa _ [1] (words_lt _) ?_ hg ?_) ?_
      · simp
      · simp
      refine yG hn_g1 ?_
      refine yT hC hn_g1 ?_
      refine .one (.c (ler_bool ?_))
      rw [h1, h2, val_words, cmp_one]; rfl
    · refine yG hn_g1 ?_
      refine yT hC hn_g1 ?_
      refine .one (.c (ler_bool ?_))
      rw [h2, Bool.and_false, Bool.false_and]
  · refine yG hn_g1 ?_
    refine yT hC hn_g1 ?_
    refine .one (.c (ler_bool ?_))
    rw [h1, Bool.false_and, Bool.false_and]
end Go.Proofs.YtmfmnmkipjpjhaaGreat

/- rational: parts, form, size, Of, Neg, Sign, Add, Sub, Mul, Cmp, Prob. -/
namespace Go.Proofs.YtmfmnmkipjpjhaaGreat
open Go.AI Go.PN
attribute [local irreducible] aw Fa Fh DrK
theorem words_mul_len (m n : Nat) : (words (m * n)).length ≤ (words m).length + (words n).length := words_len_le (pow_mul_lt (words_pow_lt m) (words_pow_lt n))
theorem words_add_len {m n k : Nat} (hm : (words m).length ≤ k) (hn : (words n).length ≤ k) : (words (m + n)).length ≤ k + 1 := by
  have h1 := Nat.lt_of_lt_of_le (words_pow_lt m) (Nat.pow_le_pow_right (show 0 < 4294967296 by omega) hm)
  have h2 := Nat.lt_of_lt_of_le (words_pow_lt n) (Nat.pow_le_pow_right (show 0 < 4294967296 by omega) hn)
  refine words_len_le ?_
  rw [Nat.pow_succ]
  omega
theorem mulW (a b : Nat) (ha : (words a).length ≤ 68719476736) (hb : (words b).length ≤ 68719476736) : Fa Tryz.prog 116 [.c (ws false (words a)), .c (ws false (words b))] (.c (ws true (words (a * b)))) := by
  have := mul_fa (words a) (words b) (words_lt a) (words_lt b) ha hb
  rwa [val_words, val_words] at this
theorem addW (a b : Nat) (ha : (words a).length ≤ 68719476736) (hb : (words b).length ≤ 68719476736) : Fa Tryz.prog 125 [.c (ws false (words a)), .c (ws false (words b))] (.c (ws true (words (a + b)))) := by
  have := add_fa (words a) (words b) (words_lt a) (words_lt b) ha hb
  rwa [val_words, val_words] at this
theorem subW (a b : Nat) (ha : (words a).length ≤ 68719476736) (hb : (words b).length ≤ 68719476736) (h : b ≤ a) : Fa Tryz.prog 126 [.c (ws false (words a)), .c (ws false (words b))] (.tup [.c (ws true (words (a - b))), .c .nilI]) := by
  have := sub_fa (words a) (words b) (words_lt a) (words_lt b) ha hb (by rw [val_words, val_words]; exact h)
  rwa [val_words, val_words] at this
theorem cmpW (a b : Nat) (ha : (words a).length ≤ 68719476736) (hb : (words b).length ≤ 68719476736) : Fa Tryz.prog 93 [.c (ws false (words a)), .c (ws false (words b))] (.c (.int .i64 (cmpN a b))) := by
  have := cmp_fa (words a) (words b) (words_lt a) (words_lt b) ha hb
  rwa [val_words, val_words] at this
theorem gcdW (a b : Nat) (ha : (words a).length ≤ 68719476736) (hb : (words b).length ≤ 68719476736) : Fa Tryz.prog 119 [.c (ws false (words a)), .c (ws false (words b))] (.c (ws true (words (Nat.gcd a b)))) := by
  have := gcd_fa (words a) (words b) (words_lt a) (words_lt b) ha hb
  rwa [val_words, val_words] at this
theorem divW (a b : Nat) (ha : (words a).length ≤ 68719476736) (hb : (words b).length ≤ 68719476736) (h : b ≠ 0) : Fa Tryz.prog 120 [.c (ws false (words a)), .c (ws false (words b))] (.tup [.c (ws true (words (a / b))), .c (ws true (words (a % b))), .c .nilI]) := by
  have := div_fa (words a) (words b) (words_lt a) (words_lt b) ha hb (by rw [val_words]; exact h)
  rwa [val_words, val_words] at this
theorem bitsW (a : Nat) (ha : (words a).length ≤ 68719476736) : Fa Tryz.prog 118 [.c (ws false (words a))] (.c (.int .i64 (bitlen a : Nat))) := by
  have := bits_fa (words a) (words_lt a) ha
  rwa [val_words] at this

theorem some_of {r : RD} (h1 : r.valid = true) (h2 : ((r.num.length : Int) == 0) = false) : r.some = true := by
  have : r.num.length ≠ 0 := fun e => by rw [e] at h2; cases h2
  simp [RD.some, h1, this]
theorem none_of {r : RD} (h : r.valid = false ∨ ((r.num.length : Int) == 0) = true) : r.some = false := by
  rcases h with h | h
  · simp [RD.some, h]
  · have : r.num.length = 0 := by have := eq_of_beq h; omega
    simp [RD.some, this]
theorem wf_mono {r : RD} {L M : Nat} (h : r.wf L) (hm : L ≤ M) : r.wf M := ⟨h.1, h.2.1, Nat.le_trans h.2.2.1 hm, Nat.le_trans h.2.2.2 hm⟩

abbrev partsAV (r : RD) : AV := .tup [.c (.bool r.ps), .c (ws true (words r.pn)), .c (ws true (words r.pd))]
set_option maxHeartbeats 1600000 in
theorem rparts_fa (r : RD) (hw : r.wf 1073741824) : Fa Tryz.prog 83 [.agg (rdc r)] (partsAV r) := by
  refine fa_of_body Tryz.func83 rfl rfl (by simp [Tryz.ntmps83]) fun C hC => ?_
  simp only [initS, Nat.reduceAdd]
  refine xG ?_
  refine xB fun g1 hn_g1=>?_
  refine yG hn_g1 ?_
  refine yC hn_g1 (rvalid_fa r (wf_mono hw ?_)) ?_
  · omega
  refine yG hn_g1 ?_
  refine aw_split 8 (zE hn_g1) (fun hv => ?_) (fun hv => ?_) <;> refine yS hn_g1 ?_
  · have hs := RD.pn_none (none_of (r := r) (.inl (by simpa using hv)))
    refine yG hn_g1 ?_
    refine yP hn_g1 ?_
    refine yG hn_g1 ?_
    refine yC hn_g1 (one_fa) ?_
    refine yG hn_g1 ?_
    refine yT hC hn_g1 ?_
    refine .tup ⟨.c (ler_bool hs.2.2.symm), .c ?_, .c ?_, trivial⟩
    · rw [hs.1]; exact .nils
    · rw [hs.2.1]; exact ler_ws
  · have hv' : r.valid = true := by simpa using hv
    refine yG hn_g1 ?_
    refine yF hn_g1 (fun hn=>?_) fun hn=>?_
    · have hs := RD.pn_none (none_of (r := r) (.inr hn))
      refine yG hn_g1 ?_
      refine yC hn_g1 (one_fa) ?_
      refine yG hn_g1 ?_
      refine yT hC hn_g1 ?_
      refine .tup ⟨.c (ler_bool hs.2.2.symm), .c ?_, .c ?_, trivial⟩
      · rw [hs.1]; exact .nils
      · rw [hs.2.1]; exact ler_ws
    · have hs := RD.pn_words hw (some_of hv' hn)
      refine yG hn_g1 ?_
      refine aw_dr 9 ty_mixed (by kernel_rfl) ?_
      refine yG hn_g1 ?_
      refine yT hC hn_g1 ?_
      refine .tup ⟨.c (ler_bool hs.2.2.symm), .c ?_, .c ?_, trivial⟩
      · rw [hs.1]; exact ler_ws
      · rw [hs.2.1]; exact ler_ws

theorem lerl_rd {h : Heap} {r : RD} : LeRL h (rdc r) (rdc r) := ⟨.bool _, ler_ws, ler_ws, trivial⟩
theorem ler_rd {h : Heap} {r s : RD} (e : r = s) : LeRA h (.agg (rdc r)) (.agg (rdc s)) := by subst e; exact .one (.agg lerl_rd)
set_option maxHeartbeats 1600000 in
theorem rform_fa (neg : Bool) (n d : Nat) (hn : (words n).length ≤ 68719476736) (hd : (words d).length ≤ 68719476736) (h0 : d ≠ 0) :
    Fa Tryz.prog 84 [.c (.bool neg), .c (ws false (words n)), .c (ws false (words d))] (.agg (rdc (rd (sq neg n d)))) := by
  refine fa_of_body Tryz.func84 rfl rfl (by simp [Tryz.ntmps84]) fun C hC => ?_
  simp only [initS, Nat.reduceAdd]
  refine xG ?_
  refine xA fun g6 hn_g6=>?_
  refine yG hn_g6 ?_
  refine yC hn_g6 (bitsW n hn) ?_
  refine yG hn_g6 ?_
  refine yF hn_g6 (fun hb=>?_) fun hb=>?_
  · have hz : n = 0 := bitlen_zero.1 (by have := eq_of_beq hb; omega)
    refine yG hn_g6 ?_
    refine yW hn_g6 ?_
    refine yS hn_g6 ?_
    refine yG hn_g6 ?_
    refine yT hC hn_g6 ?_
    rw [hz, sq_zero, rd_zero]
    exact .one (.agg ⟨.bool _, .nils, .nils, trivial⟩)
  · have hz : n ≠ 0 := fun e => by rw [e] at hb; cases hb
    have hg : Nat.gcd n d ≠ 0 := fun e => h0 (Nat.eq_zero_of_gcd_eq_zero_right e)
    have hgl : (words (Nat.gcd n d)).length ≤ 68719476736 := Nat.le_trans (words_len_mono (Nat.gcd_le_left _ (Nat.pos_of_ne_zero hz))) hn
    refine yG hn_g6 ?_
    refine yC hn_g6 (gcdW n d hn hd) ?_
    refine yG hn_g6 ?_
    refine yC hn_g6 (divW n (Nat.gcd n d) hn hgl hg) ?_
    refine yG hn_g6 ?_
    refine yC hn_g6 (divW d (Nat.gcd n d) hd hgl hg) ?_
    refine yG hn_g6 ?_
    refine yW hn_g6 ?_
    refine yS hn_g6 ?_
    refine yG hn_g6 ?_
    refine yT hC hn_g6 ?_
    rw [rd_sq hz h0]
    exact .one (.agg ⟨.bool _, ler_ws, ler_ws, trivial⟩)
end Go.Proofs.YtmfmnmkipjpjhaaGreat

/- rational: size, Of, Neg, Sign, Add, Sub, Mul, Cmp, Prob. -/
namespace Go.Proofs.YtmfmnmkipjpjhaaGreat
open Go.AI Go.PN
attribute [local irreducible] aw Fa Fh DrK
theorem words_min : words 9223372036854775808 = [0, 2147483648] := by
  rw [words_cons (by omega), words_cons (by omega), show (9223372036854775808 / 4294967296 / 4294967296 : Nat) = 0 from rfl, words_zero]
theorem int_neg {n : Int} (h0 : -9223372036854775808 < n) (h1 : n ≤ 9223372036854775807) : wrapZ .i64 (0 - n) = -n := by
  rw [wrapZ_eq, wrap_inRange (k := .i64) (by simp only [inRange]; omega)]; omega
theorem words_small {n : Nat} (h : n ≤ 9223372036854775808) : (words n).length ≤ 2 := words_len_le (Nat.lt_of_le_of_lt h (by decide))

set_option maxHeartbeats 800000 in
theorem rsize_fa (n : Int) (h0 : -9223372036854775808 ≤ n) (h1 : n ≤ 9223372036854775807) : Fa Tryz.prog 85 [.c (.int .i64 n)] (.c (ws true (words n.natAbs))) := by
  refine fa_of_body Tryz.func85 rfl rfl (by simp [Tryz.ntmps85]) fun C hC => ?_
  simp only [initS, Nat.reduceAdd]
  refine xG ?_
  refine xF (fun hb=>?_) fun hb=>?_
  · have hn : n = -9223372036854775808 := eq_of_beq hb
    refine xG ?_
    refine aw_buildSlice (xs := [.const (.int .u32 0), .const (.int .u32 2147483648)]) (cells := [.int .u32 0, .int .u32 2147483648]) rfl rfl rfl ty_e_ws (by rw [envP, ty_z_u32]; rfl) rfl (by omega) (by omega) (by intro x hx; simp only [List.mem_cons, List.not_mem_nil, or_false] at hx; rcases hx with rfl | rfl <;> exact ⟨rfl, rfl, rfl⟩) rfl fun g hg => ?_
    refine xS ?_
    refine xG ?_
    refine xT hC ?_
    subst hn
    rw [show ((-9223372036854775808 : Int).natAbs) = 9223372036854775808 from rfl, words_min]
    exact .one (.c (ler_oslws eE (by simp) rfl (fun j hj => by match j, hj with | 0, _ => rfl | 1, _ => rfl)))
  · have hn : n ≠ -9223372036854775808 := fun e => by rw [e] at hb; cases hb
    refine xG ?_
    rw [int_neg (by omega) h1]
    have hm : (if -n > n then -n else n) = (n.natAbs : Int) := by split <;> omega
    rw [hm]
    refine xC (of_fa (n.natAbs : Int) ?_ ?_) ?_
    · omega
    · omega
    refine xG ?_
    refine xT hC ?_
    exact .one (.c ler_ws)

/-- A whole number. -/
theorem sq_int (n : Int) : sq (decide (n < 0)) n.natAbs 1 = (n : Rat) := by
  unfold sq sgn
  rw [Rat.mkRat_one]
  congr 1
  split
  · rename_i h; simp only [decide_eq_true_eq] at h; omega
  · rename_i h; simp only [decide_eq_true_eq] at h; omega
set_option maxHeartbeats 800000 in
theorem rof_fa (n : Int) (h0 : -9223372036854775808 ≤ n) (h1 : n ≤ 9223372036854775807) : Fa Tryz.prog 47 [.c (.int .i64 n)] (.agg (rdc (rd (n : Rat)))) := by
  have hl := words_small (n := n.natAbs) (by omega)
  refine fa_of_body Tryz.func47 rfl rfl (by simp [Tryz.ntmps47]) fun C hC => ?_
  simp only [initS, Nat.reduceAdd]
  refine xG ?_
  refine xA fun g2 hn_g2=>?_
  refine yG hn_g2 ?_
  refine yC hn_g2 (rsize_fa n h0 h1) ?_
  refine yG hn_g2 ?_
  refine yC hn_g2 (one_fa) ?_
  refine yG hn_g2 ?_
  rw [show ([1] : List Nat) = words 1 from words_one.symm]
  refine yC hn_g2 (rform_fa _ n.natAbs 1 ?_ ?_ ?_) ?_
  · omega
  · rw [words_one]; simp
  · omega
  refine yG hn_g2 ?_
  refine yW hn_g2 ?_
  refine yS hn_g2 ?_
  refine yG hn_g2 ?_
  refine yT hC hn_g2 ?_
  exact ler_rd (by rw [sq_int])

set_option maxHeartbeats 800000 in
theorem rneg_fa (r : RD) (hw : r.wf 1073741824) : Fa Tryz.prog 117 [.agg (rdc r)] (.agg (rdc (rd (-r.q)))) := by
  obtain ⟨hl1, hl2⟩ := RD.p_len hw (by omega)
  refine fa_of_body Tryz.func117 rfl rfl (by simp [Tryz.ntmps117]) fun C hC => ?_
  simp only [initS, Nat.reduceAdd]
  refine xG ?_
  refine xB fun g1 hn_g1=>?_
  refine yA hn_g1 fun g2 hn_g2=>?_
  refine yG (oj hn_g1 hn_g2) ?_
  refine yC (oj hn_g1 hn_g2) (rparts_fa r hw) ?_
  refine yG (oj hn_g1 hn_g2) ?_
  refine yC (oj hn_g1 hn_g2) (rform_fa _ r.pn r.pd ?_ ?_ (RD.pd_ne hw)) ?_
  · omega
  · omega
  refine yG (oj hn_g1 hn_g2) ?_
  refine yW (oj hn_g1 hn_g2) ?_
  refine yS (oj hn_g1 hn_g2) ?_
  refine yG (oj hn_g1 hn_g2) ?_
  refine yT hC (oj hn_g1 hn_g2) ?_
  exact ler_rd (by rw [sq_neg]; rfl)

theorem sign_zero {r : RD} {L : Nat} (hw : r.wf L) (h : (((words r.pn).length : Int) == 0) = true) : 0 = signQ r.q := by
  have h1 : r.pn = 0 := words_eq_nil.1 (List.length_eq_zero_iff.1 (by have := eq_of_beq h; omega))
  unfold RD.q
  rw [h1, sq_zero]; rfl
theorem sign_some {r : RD} {L : Nat} (hw : r.wf L) (h : (((words r.pn).length : Int) == 0) = false) : signQ r.q = if r.ps then -1 else 1 := by
  have h1 : r.pn ≠ 0 := fun e => by rw [e, words_zero] at h; cases h
  unfold signQ RD.q
  rw [if_neg (sq_ne h1 (RD.pd_ne hw))]
  have := sq_lt (neg := r.ps) h1 (RD.pd_ne hw)
  simp only [this]
set_option maxHeartbeats 800000 in
theorem rsign_fa (r : RD) (hw : r.wf 1073741824) : Fa Tryz.prog 45 [.agg (rdc r)] (.c (.int .i64 (signQ r.q))) := by
  refine fa_of_body Tryz.func45 rfl rfl (by simp [Tryz.ntmps45]) fun C hC => ?_
  simp only [initS, Nat.reduceAdd]
  refine xG ?_
  refine xB fun g1 hn_g1=>?_
  refine yG hn_g1 ?_
  refine yC hn_g1 (rparts_fa r hw) ?_
  refine yG hn_g1 ?_
  refine yF hn_g1 (fun hb=>?_) fun hb=>?_
  · refine yG hn_g1 ?_
    refine yT hC hn_g1 ?_
    exact .one (.c (ler_int (sign_zero hw hb)))
  · refine yG hn_g1 ?_
    refine yF hn_g1 (fun hp=>?_) fun hp=>?_
    · refine yG hn_g1 ?_
      refine yT hC hn_g1 ?_
      refine .one (.c (ler_int ?_))
      rw [sign_some hw hb, hp]; rfl
    · refine yG hn_g1 ?_
      refine yT hC hn_g1 ?_
      refine .one (.c (ler_int ?_))
      rw [sign_some hw hb, hp]; rfl

theorem not_of_bne {a b : Bool} (h : (a == b) = false) : b = !a := by cases a <;> cases b <;> simp_all
set_option maxHeartbeats 1600000 in
theorem radd_fa (a b : RD) (ha : a.wf 1073741824) (hb : b.wf 1073741824) : Fa Tryz.prog 105 [.agg (rdc a), .agg (rdc b)] (.agg (rdc (rd (a.q + b.q)))) := by
  obtain ⟨l1, l2⟩ := RD.p_len ha (by omega)
  obtain ⟨l3, l4⟩ := RD.p_len hb (by omega)
  have d1 := RD.pd_ne ha
  have d2 := RD.pd_ne hb
  have dd : a.pd * b.pd ≠ 0 := Nat.mul_ne_zero d1 d2
  have m1 := words_mul_len a.pn b.pd
  have m2 := words_mul_len b.pn a.pd
  have m3 := words_mul_len a.pd b.pd
  have m4 := words_add_len (m := a.pn * b.pd) (n := b.pn * a.pd) (k := 2147483648) (by omega) (by omega)
  refine fa_of_body Tryz.func105 rfl rfl (by simp [Tryz.ntmps105]) fun C hC => ?_
  simp only [initS, Nat.reduceAdd]
  refine xG ?_
  refine xB fun g2 hn_g2=>?_
  refine yB hn_g2 fun g3 hn_g3=>?_
  refine yA (oj hn_g2 hn_g3) fun g4 hn_g4=>?_
  refine yG (oj hn_g2 (oj hn_g3 hn_g4)) ?_
  refine yC (oj hn_g2 (oj hn_g3 hn_g4)) (rparts_fa a ha) ?_
  refine yG (oj hn_g2 (oj hn_g3 hn_g4)) ?_
  refine yC (oj hn_g2 (oj hn_g3 hn_g4)) (rparts_fa b hb) ?_
  refine yG (oj hn_g2 (oj hn_g3 hn_g4)) ?_
  refine yC (oj hn_g2 (oj hn_g3 hn_g4)) (mulW a.pn b.pd ?_ ?_) ?_
  · omega
  · omega
  refine yG (oj hn_g2 (oj hn_g3 hn_g4)) ?_
  refine yC (oj hn_g2 (oj hn_g3 hn_g4)) (mulW b.pn a.pd ?_ ?_) ?_
  · omega
  · omega
  refine yG (oj hn_g2 (oj hn_g3 hn_g4)) ?_
  refine yC (oj hn_g2 (oj hn_g3 hn_g4)) (mulW a.pd b.pd ?_ ?_) ?_
  · omega
  · omega
  refine yG (oj hn_g2 (oj hn_g3 hn_g4)) ?_
  refine yF (oj hn_g2 (oj hn_g3 hn_g4)) (fun hs=>?_) fun hs=>?_
  · have hs' : a.ps = b.ps := eq_of_beq hs
    refine yG (oj hn_g2 (oj hn_g3 hn_g4)) ?_
    refine yC (oj hn_g2 (oj hn_g3 hn_g4)) (addW _ _ ?_ ?_) ?_
    · omega
    · omega
    refine yG (oj hn_g2 (oj hn_g3 hn_g4)) ?_
    refine yC (oj hn_g2 (oj hn_g3 hn_g4)) (rform_fa _ _ _ ?_ ?_ dd) ?_
    · omega
    · omega
    refine yG (oj hn_g2 (oj hn_g3 hn_g4)) ?_
    refine yW (oj hn_g2 (oj hn_g3 hn_g4)) ?_
    refine yS (oj hn_g2 (oj hn_g3 hn_g4)) ?_
    refine yG (oj hn_g2 (oj hn_g3 hn_g4)) ?_
    refine yT hC (oj hn_g2 (oj hn_g3 hn_g4)) ?_
    refine ler_rd ?_
    rw [sq_add_same _ d1 d2]
    unfold RD.q; rw [hs']
  · have hs' : b.ps = !a.ps := not_of_bne hs
    refine yG (oj hn_g2 (oj hn_g3 hn_g4)) ?_
    refine yC (oj hn_g2 (oj hn_g3 hn_g4)) (cmpW _ _ ?_ ?_) ?_
    · omega
    · omega
    refine yG (oj hn_g2 (oj hn_g3 hn_g4)) ?_
    refine yF (oj hn_g2 (oj hn_g3 hn_g4)) (fun hc=>?_) fun hc=>?_
    · have hle : b.pn * a.pd ≤ a.pn * b.pd := by
        have := of_decide_eq_true hc
        unfold cmpN at this
        split at this
        · omega
        · omega
      have hl5 := words_len_mono (Nat.sub_le (a.pn * b.pd) (b.pn * a.pd))
      refine yG (oj hn_g2 (oj hn_g3 hn_g4)) ?_
      refine yC (oj hn_g2 (oj hn_g3 hn_g4)) (subW _ _ ?_ ?_ hle) ?_
      · omega
      · omega
      refine yG (oj hn_g2 (oj hn_g3 hn_g4)) ?_
      refine yC (oj hn_g2 (oj hn_g3 hn_g4)) (rform_fa _ _ _ ?_ ?_ dd) ?_
      · omega
      · omega
      refine yG (oj hn_g2 (oj hn_g3 hn_g4)) ?_
      refine yW (oj hn_g2 (oj hn_g3 hn_g4)) ?_
      refine yS (oj hn_g2 (oj hn_g3 hn_g4)) ?_
      refine yG (oj hn_g2 (oj hn_g3 hn_g4)) ?_
      refine yT hC (oj hn_g2 (oj hn_g3 hn_g4)) ?_
      refine ler_rd ?_
      rw [sq_add_ge _ d1 d2 hle]
      unfold RD.q; rw [hs']
    · have hle : a.pn * b.pd ≤ b.pn * a.pd := by
        have := of_decide_eq_false hc
        unfold cmpN at this
        split at this
        · omega
        · split at this <;> omega
      have hl5 := words_len_mono (Nat.sub_le (b.pn * a.pd) (a.pn * b.pd))
      refine yG (oj hn_g2 (oj hn_g3 hn_g4)) ?_
      refine yC (oj hn_g2 (oj hn_g3 hn_g4)) (subW _ _ ?_ ?_ hle) ?_
      · omega
      · omega
      refine yG (oj hn_g2 (oj hn_g3 hn_g4)) ?_
      refine yC (oj hn_g2 (oj hn_g3 hn_g4)) (rform_fa _ _ _ ?_ ?_ dd) ?_
      · omega
      · omega
      refine yG (oj hn_g2 (oj hn_g3 hn_g4)) ?_
      refine yW (oj hn_g2 (oj hn_g3 hn_g4)) ?_
      refine yS (oj hn_g2 (oj hn_g3 hn_g4)) ?_
      refine yG (oj hn_g2 (oj hn_g3 hn_g4)) ?_
      refine yT hC (oj hn_g2 (oj hn_g3 hn_g4)) ?_
      refine ler_rd ?_
      rw [hs', sq_add_lt _ d1 d2 hle]
      unfold RD.q; rw [hs']
set_option maxHeartbeats 800000 in
theorem rmul_fa (a b : RD) (ha : a.wf 1073741824) (hb : b.wf 1073741824) : Fa Tryz.prog 81 [.agg (rdc a), .agg (rdc b)] (.agg (rdc (rd (a.q * b.q)))) := by
  obtain ⟨l1, l2⟩ := RD.p_len ha (by omega)
  obtain ⟨l3, l4⟩ := RD.p_len hb (by omega)
  have d1 := RD.pd_ne ha
  have d2 := RD.pd_ne hb
  have dd : a.pd * b.pd ≠ 0 := Nat.mul_ne_zero d1 d2
  have m1 := words_mul_len a.pn b.pn
  have m3 := words_mul_len a.pd b.pd
  refine fa_of_body Tryz.func81 rfl rfl (by simp [Tryz.ntmps81]) fun C hC => ?_
  simp only [initS, Nat.reduceAdd]
  refine xG ?_
  refine xB fun g2 hn_g2=>?_
  refine yB hn_g2 fun g3 hn_g3=>?_
  refine yA (oj hn_g2 hn_g3) fun g4 hn_g4=>?_
  refine yG (oj hn_g2 (oj hn_g3 hn_g4)) ?_
  refine yC (oj hn_g2 (oj hn_g3 hn_g4)) (rparts_fa a ha) ?_
  refine yG (oj hn_g2 (oj hn_g3 hn_g4)) ?_
  refine yC (oj hn_g2 (oj hn_g3 hn_g4)) (rparts_fa b hb) ?_
  refine yG (oj hn_g2 (oj hn_g3 hn_g4)) ?_
  refine yC (oj hn_g2 (oj hn_g3 hn_g4)) (mulW _ _ ?_ ?_) ?_
  · omega
  · omega
  refine yG (oj hn_g2 (oj hn_g3 hn_g4)) ?_
  refine yC (oj hn_g2 (oj hn_g3 hn_g4)) (mulW _ _ ?_ ?_) ?_
  · omega
  · omega
  refine yG (oj hn_g2 (oj hn_g3 hn_g4)) ?_
  refine yC (oj hn_g2 (oj hn_g3 hn_g4)) (rform_fa _ _ _ ?_ ?_ dd) ?_
  · omega
  · omega
  refine yG (oj hn_g2 (oj hn_g3 hn_g4)) ?_
  refine yW (oj hn_g2 (oj hn_g3 hn_g4)) ?_
  refine yS (oj hn_g2 (oj hn_g3 hn_g4)) ?_
  refine yG (oj hn_g2 (oj hn_g3 hn_g4)) ?_
  refine yT hC (oj hn_g2 (oj hn_g3 hn_g4)) ?_
  exact ler_rd (by rw [sq_mul]; rfl)
theorem neg_wf {r : RD} (hw : r.wf 1073741824) : (rd (-r.q)).wf 1073741824 := rd_wf (fits_neg (RD.fits hw (by omega)))
set_option maxHeartbeats 800000 in
theorem rsub_fa (a b : RD) (ha : a.wf 1073741824) (hb : b.wf 1073741824) : Fa Tryz.prog 82 [.agg (rdc a), .agg (rdc b)] (.agg (rdc (rd (a.q - b.q)))) := by
  refine fa_of_body Tryz.func82 rfl rfl (by simp [Tryz.ntmps82]) fun C hC => ?_
  simp only [initS, Nat.reduceAdd]
  refine xG ?_
  refine xB fun g2 hn_g2=>?_
  refine yB hn_g2 fun g3 hn_g3=>?_
  refine yA (oj hn_g2 hn_g3) fun g4 hn_g4=>?_
  refine yG (oj hn_g2 (oj hn_g3 hn_g4)) ?_
  refine aw_dr 4 ty_mixed (by kernel_rfl) ?_
  refine yG (oj hn_g2 (oj hn_g3 hn_g4)) ?_
  refine yD (oj hn_g2 (oj hn_g3 hn_g4)) (rneg_fa b hb) ?_
  refine yG (oj hn_g2 (oj hn_g3 hn_g4)) ?_
  refine yD (oj hn_g2 (oj hn_g3 hn_g4)) (radd_fa a (rd (-b.q)) ha (neg_wf hb)) ?_
  refine yG (oj hn_g2 (oj hn_g3 hn_g4)) ?_
  refine yW (oj hn_g2 (oj hn_g3 hn_g4)) ?_
  refine yS (oj hn_g2 (oj hn_g3 hn_g4)) ?_
  refine yG (oj hn_g2 (oj hn_g3 hn_g4)) ?_
  refine yT hC (oj hn_g2 (oj hn_g3 hn_g4)) ?_
  exact ler_rd (by rw [rd_q, Rat.sub_eq_add_neg])
end Go.Proofs.YtmfmnmkipjpjhaaGreat

/- faultlineref01: word, Trim, Cmp, Add, Sub. -/
namespace Go.Proofs.YtmfmnmkipjpjhaaGreat
open Go.AI Go.PN
attribute [local irreducible] aw Fa Fh DrK
theorem val_ext {xs ys : List Nat} (h : ∀ j, xs.getD j 0 = ys.getD j 0) : val xs = val ys := by
  induction xs generalizing ys with
  | nil =>
    refine (val_zero fun y hy => ?_).symm
    obtain ⟨i, hi, rfl⟩ := List.mem_iff_getElem.1 hy
    have := h i
    rw [List.getD_eq_getElem?_getD, List.getD_eq_getElem?_getD, List.getElem?_eq_getElem hi] at this
    simpa using this.symm
  | cons x xs ih =>
    cases ys with
    | nil =>
      refine val_zero fun y hy => ?_
      obtain ⟨i, hi, rfl⟩ := List.mem_iff_getElem.1 hy
      have := h i
      rw [List.getD_eq_getElem?_getD, List.getD_eq_getElem?_getD, List.getElem?_eq_getElem hi] at this
      simpa using this
    | cons y ys =>
      have h0 := h 0
      simp only [List.getD_cons_zero] at h0
      have h1 := ih (ys := ys) fun j => by have := h (j + 1); simpa only [List.getD_cons_succ] using this
      simp only [val, h0, h1]
theorem val_lt_of {xs ys : List Nat} {i : Nat} (hx : ∀ x ∈ xs, x < 4294967296) (hlt : xs.getD i 0 < ys.getD i 0) (hz : ∀ j, i < j → xs.getD j 0 = ys.getD j 0) : val xs < val ys := by
  induction xs generalizing ys i with
  | nil =>
    have hy0 : val ys ≠ 0 := fun e => by
      have : ∀ (l : List Nat) (k : Nat), val l = 0 → l.getD k 0 = 0 := by
        intro l
        induction l with
        | nil => intro k _; simp
        | cons a l ih =>
          intro k hk
          simp only [val] at hk
          cases k with
          | zero => simp only [List.getD_cons_zero]; omega
          | succ k => simp only [List.getD_cons_succ]; exact ih k (by omega)
      rw [this ys i e] at hlt
      omega
    simp only [val]; omega
  | cons x xs ih =>
    have hxl : x < 4294967296 := hx x (by simp)
    cases ys with
    | nil => simp at hlt
    | cons y ys =>
      cases i with
      | zero =>
        simp only [List.getD_cons_zero] at hlt
        have := val_ext (xs := xs) (ys := ys) fun j => by have := hz (j + 1) (by omega); simpa only [List.getD_cons_succ] using this
        simp only [val, this]; omega
      | succ i =>
        simp only [List.getD_cons_succ] at hlt
        have := ih (ys := ys) (i := i) (fun z hz => hx z (by simp [hz])) hlt (fun j hj => by have := hz (j + 1) (by omega); simpa only [List.getD_cons_succ] using this)
        simp only [val]; omega
theorem word_lt' {xs ys : List Nat} {i : Nat} (hx : ∀ x ∈ xs, x < 4294967296) (_hy : ∀ x ∈ ys, x < 4294967296) (hlt : xs.getD i 0 < ys.getD i 0) (hz : ∀ j, i < j → xs.getD j 0 = ys.getD j 0) : val xs < val ys := val_lt_of hx hlt hz
set_option maxHeartbeats 400000 in
theorem qword_fa (xs : List Nat) (i : Nat) (hx : ∀ x ∈ xs, x < 4294967296) : Fa Tryz.prog 108 [.c (ws false xs), .c (.int .i64 i)] (.c (.int .u64 (xs.getD i 0 : Nat))) := by
  have hb := getD_lt hx i
  refine fa_of_body Tryz.func108 rfl rfl (by simp [Tryz.ntmps108]) fun C hC => ?_
  simp only [initS, Nat.reduceAdd]
  refine xG ?_
  refine xF (fun hb=>?_) fun hb=>?_
  · simp only [decide_eq_true_eq] at hb
    refine xG ?_
    refine xT hC ?_
    exact .one (.c (ler_int rfl))
  · simp only [decide_eq_false_iff_not] at hb
    refine xG ?_
    refine xT hC ?_
    refine .one (.c (ler_int ?_))
    rw [getD_ge (by omega)]; rfl

set_option maxHeartbeats 800000 in
theorem qtrim_fa (xs : List Nat) (hx : ∀ x ∈ xs, x < 4294967296) (hl : xs.length ≤ 1099511627776) : Fa Tryz.prog 109 [.c (ws false xs)] (.c (ws true (words (val xs)))) := by
  refine fa_of_body Tryz.func109 rfl rfl (by simp [Tryz.ntmps109]) fun C hC => ?_
  simp only [initS, Nat.reduceAdd]
  apply aw_seq
  apply aw_region
  refine xH ?_
  apply aw_seq
  apply aw_region
  refine xH ?_
  apply aw_seq
  refine aw_cut (fun m : Nat => [(0, .c (ws false xs)), (3, .c (.int .i64 m))]) (fun _ => []) (fun m => m ≤ xs.length ∧ words (val xs) = xs.take m) ?_ ?_
  · apply aw_block
    refine aw_lp (fun m : Nat => [(0, .c (ws false xs)), (3, .c (.int .i64 m))]) (fun _ => []) (fun m => m ≤ xs.length ∧ (∀ j, m ≤ j → xs.getD j 0 = 0)) id xs.length eB zZ ⟨Nat.le_refl _, fun j hj => getD_ge hj⟩ ?_
    rintro m ⟨hm, hz⟩
    have hend : (m = 0 ∨ xs.getD (m - 1) 0 ≠ 0) → words (val xs) = xs.take m := trim_eq xs m hx hm hz
    refine xG ?_
    refine aw_split 8 eE (fun h0 => ?_) (fun h0 => ?_) <;> refine xS ?_
    · have h0' : 0 < m := by have := of_decide_eq_true h0; omega
      refine xG ?_
      refine xF (fun hb=>?_) fun hb=>?_
      · have hb' : xs.getD (m - 1) 0 = 0 := by have := eq_of_beq hb; omega
        refine xG ?_
        refine aw_stop ⟨m - 1, by simp only [id]; omega, eB, zZ, by omega, fun j hj => ?_⟩
        by_cases hjm : j = m - 1
        · rw [hjm]; exact hb'
        · exact hz j (by omega)
      · have hb' : xs.getD (m - 1) 0 ≠ 0 := fun e => by rw [e] at hb; cases hb
        refine xG ?_
        exact aw_stop ⟨m, eB, zZ, hm, hend (.inr hb')⟩
    · have h0' : m = 0 := by have := of_decide_eq_false h0; omega
      refine xG ?_
      refine xN ?_
      refine xG ?_
      exact aw_stop ⟨m, eB, zZ, hm, hend (.inl h0')⟩
  rintro m ⟨hm, hw⟩
  refine xG ?_
  refine aw_buildSlice (xs := []) (cells := []) rfl rfl rfl ty_e_ws (by rw [envP, ty_z_u32]; rfl) rfl (by omega) (by omega) (by simp) rfl fun g hg => ?_
  refine xS ?_
  refine xG ?_
  by_cases h0 : 0 < m
  · refine aw_append rfl rfl rfl ty_e_ws ty_z_u32 rfl (by omega) eE eE (by omega) eE .row (fun _ _ => rfl) h0 (by unfold maxLen; omega) (by omega) eE fun g' hg' => ?_
    refine xS ?_
    refine xG ?_
    refine xT hC ?_
    refine .one (.c ?_)
    rw [hw]
    refine ler_oslws eE (by omega) (by simp; omega) (fun j hj => ?_)
    simp only [appF, Nat.not_lt_zero, if_false, Nat.sub_zero, Nat.zero_add]
    rw [getD_take hj]
  · have hm0 : m = 0 := by omega
    subst hm0
    refine aw_append0 rfl rfl rfl ty_e_ws eE rfl eE .row eE ?_
    refine xS ?_
    refine xG ?_
    refine xT hC ?_
    refine .one (.c ?_)
    rw [hw]
    exact ler_oslws eE (by omega) rfl (fun j hj => by omega)
set_option maxHeartbeats 800000 in
theorem qcmp_fa (xs ys : List Nat) (hx : ∀ x ∈ xs, x < 4294967296) (hy : ∀ x ∈ ys, x < 4294967296) (hlx : xs.length ≤ 68719476736) (hly : ys.length ≤ 68719476736) :
    Fa Tryz.prog 73 [.c (ws false xs), .c (ws false ys)] (.c (.int .i64 (cmpN (val xs) (val ys)))) := by
  refine fa_of_body Tryz.func73 rfl rfl (by simp [Tryz.ntmps73]) fun C hC => ?_
  simp only [initS, Nat.reduceAdd]
  refine xG ?_
  have hmx : (if (ys.length : Int) > xs.length then (ys.length : Int) else xs.length) = ((max xs.length ys.length : Nat) : Int) := by split <;> omega
  rw [hmx]
  refine aw_lp (fun m : Nat => [(0, .c (ws false xs)), (1, .c (ws false ys)), (5, .c (.int .i64 ((m : Int) - 1)))]) (fun _ => []) (fun m => m ≤ max xs.length ys.length ∧ ∀ j, m ≤ j → xs.getD j 0 = ys.getD j 0) id (max xs.length ys.length) eB zZ ⟨Nat.le_refl _, fun j hj => by rw [getD_ge (by omega), getD_ge (by omega)]⟩ ?_
  rintro m ⟨hm, hz⟩
  refine xG ?_
  refine xF (fun hb=>?_) fun hb=>?_
  · obtain ⟨i, rfl⟩ : ∃ i, m = i + 1 := ⟨m - 1, by have := of_decide_eq_true hb; omega⟩
    have e14 : ((i + 1 : Nat) : Int) - 1 = (i : Int) := by omega
    rw [e14]
    refine xG ?_
    refine xC (qword_fa xs i hx) ?_
    refine xG ?_
    refine xC (qword_fa ys i hy) ?_
    refine xG ?_
    refine xF (fun hlt=>?_) fun hlt=>?_
    · have hlt' : xs.getD i 0 < ys.getD i 0 := by have := of_decide_eq_true hlt; omega
      refine xG ?_
      refine xT hC ?_
      refine .one (.c (ler_int ?_))
      rw [cmpN, if_pos (word_lt' hx hy hlt' (fun j hj => hz j (by omega)))]
    · refine xG ?_
      refine xC (qword_fa xs i hx) ?_
      refine xG ?_
      refine xC (qword_fa ys i hy) ?_
      refine xG ?_
      refine xF (fun hgt=>?_) fun hgt=>?_
      · have hgt' : ys.getD i 0 < xs.getD i 0 := by have := of_decide_eq_true hgt; omega
        have hv := word_lt' hy hx hgt' (fun j hj => (hz j (by omega)).symm)
        refine xG ?_
        refine xT hC ?_
        refine .one (.c (ler_int ?_))
        rw [cmpN, if_neg (by omega), if_neg (by omega)]
      · have heq : xs.getD i 0 = ys.getD i 0 := by have := of_decide_eq_false hgt; have := of_decide_eq_false hlt; omega
        refine xG ?_
        refine aw_stop ⟨i, by simp only [id]; omega, eB, zZ, by omega, fun j hj => ?_⟩
        by_cases hji : j = i
        · rw [hji]; exact heq
        · exact hz j (by omega)
  · have hm0 : m = 0 := by have := of_decide_eq_false hb; omega
    subst hm0
    refine xG ?_
    refine xT hC ?_
    refine .one (.c (ler_int ?_))
    rw [cmpN, val_ext (fun j => hz j (by omega))]; simp
end Go.Proofs.YtmfmnmkipjpjhaaGreat
