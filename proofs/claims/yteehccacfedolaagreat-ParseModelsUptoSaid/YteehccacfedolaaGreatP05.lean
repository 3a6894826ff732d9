/- Parts of one proof, laid by a program. -/
import Derived.Test.YteehccacfedolaaGreatP00
import Derived.Test.YteehccacfedolaaGreatP04
import Derived.Test.YteehccacfedolaaGreatProg
import Derived.KernelRfl
set_option linter.unusedSimpArgs false
set_option linter.unusedVariables false
set_option maxRecDepth 100000
set_option maxHeartbeats 12800000
namespace Go.Proofs.YteehccacfedolaaGreat
open Go.AI
@[go_sem] theorem tya_s_2:tSz Tryz.prog 2=some (false,1):=by kernel_rfl
@[go_sem] theorem tya_zi_2:tZI Tryz.prog 2=some (.i64,0):=by kernel_rfl
@[go_sem] theorem tya_i_2:tInt Tryz.prog 2=some .i64:=by kernel_rfl
@[go_sem] theorem tya_z_2:tZero Tryz.prog 2=some [.int .i64 0]:=by kernel_rfl
@[go_sem] theorem tya_s_3:tSz Tryz.prog 3=some (false,1):=by kernel_rfl
@[go_sem] theorem tya_zi_3:tZI Tryz.prog 3=some (.i64,0):=by kernel_rfl
@[go_sem] theorem tya_i_3:tInt Tryz.prog 3=some .i64:=by kernel_rfl
@[go_sem] theorem tya_z_3:tZero Tryz.prog 3=some [.int .i64 0]:=by kernel_rfl
@[go_sem] theorem tya_s_4:tSz Tryz.prog 4=some (false,1):=by kernel_rfl
@[go_sem] theorem tya_b_4:tBool Tryz.prog 4=true:=by kernel_rfl
@[go_sem] theorem tya_z_4:tZero Tryz.prog 4=some [.bool false]:=by kernel_rfl
@[go_sem] theorem tya_s_5:tSz Tryz.prog 5=some (false,1):=by kernel_rfl
@[go_sem] theorem tya_zi_5:tZI Tryz.prog 5=some (.u8,0):=by kernel_rfl
@[go_sem] theorem tya_i_5:tInt Tryz.prog 5=some .u8:=by kernel_rfl
@[go_sem] theorem tya_z_5:tZero Tryz.prog 5=some [.int .u8 0]:=by kernel_rfl
@[go_sem] theorem tya_s_6:tSz Tryz.prog 6=some (false,1):=by kernel_rfl
@[go_sem] theorem tya_zi_6:tZI Tryz.prog 6=some (.u8,0):=by kernel_rfl
@[go_sem] theorem tya_i_6:tInt Tryz.prog 6=some .u8:=by kernel_rfl
@[go_sem] theorem tya_z_6:tZero Tryz.prog 6=some [.int .u8 0]:=by kernel_rfl
@[go_sem] theorem tya_s_7:tSz Tryz.prog 7=some (true,4):=by kernel_rfl
@[go_sem] theorem tya_fl_7:tFlds Tryz.prog 7=some [(0,1),(1,1),(2,1),(3,1)]:=by kernel_rfl
@[go_sem] theorem tya_f0_7:tFld Tryz.prog 7 0=some 0:=by kernel_rfl
@[go_sem] theorem tya_f1_7:tFld Tryz.prog 7 1=some 1:=by kernel_rfl
@[go_sem] theorem tya_f2_7:tFld Tryz.prog 7 2=some 2:=by kernel_rfl
@[go_sem] theorem tya_f3_7:tFld Tryz.prog 7 3=some 3:=by kernel_rfl
@[go_sem] theorem tya_z_7:tZero Tryz.prog 7=some [.int .i64 0,.int .i64 0,.bool false,.int .u8 0]:=by kernel_rfl
@[go_sem] theorem tya_s_8:tSz Tryz.prog 8=some (true,4):=by kernel_rfl
@[go_sem] theorem tya_fl_8:tFlds Tryz.prog 8=some [(0,1),(1,1),(2,1),(3,1)]:=by kernel_rfl
@[go_sem] theorem tya_f0_8:tFld Tryz.prog 8 0=some 0:=by kernel_rfl
@[go_sem] theorem tya_f1_8:tFld Tryz.prog 8 1=some 1:=by kernel_rfl
@[go_sem] theorem tya_f2_8:tFld Tryz.prog 8 2=some 2:=by kernel_rfl
@[go_sem] theorem tya_f3_8:tFld Tryz.prog 8 3=some 3:=by kernel_rfl
@[go_sem] theorem tya_z_8:tZero Tryz.prog 8=some [.int .i64 0,.int .i64 0,.bool false,.int .u8 0]:=by kernel_rfl
@[go_sem] theorem tya_s_9:tSz Tryz.prog 9=some (false,1):=by kernel_rfl
@[go_sem] theorem tya_st_9:tStr Tryz.prog 9=true:=by kernel_rfl
@[go_sem] theorem tya_z_9:tZero Tryz.prog 9=some [.str ⟨#[]⟩]:=by kernel_rfl
@[go_sem] theorem tya_s_10:tSz Tryz.prog 10=some (false,1):=by kernel_rfl
@[go_sem] theorem tya_st_10:tStr Tryz.prog 10=true:=by kernel_rfl
@[go_sem] theorem tya_z_10:tZero Tryz.prog 10=some [.str ⟨#[]⟩]:=by kernel_rfl
@[go_sem] theorem tya_s_11:tSz Tryz.prog 11=some (false,1):=by kernel_rfl
@[go_sem] theorem tya_st_11:tStr Tryz.prog 11=true:=by kernel_rfl
@[go_sem] theorem tya_z_11:tZero Tryz.prog 11=some [.str ⟨#[]⟩]:=by kernel_rfl
@[go_sem] theorem tya_s_12:tSz Tryz.prog 12=some (false,1):=by kernel_rfl
@[go_sem] theorem tya_zi_12:tZI Tryz.prog 12=some (.u64,0):=by kernel_rfl
@[go_sem] theorem tya_i_12:tInt Tryz.prog 12=some .u64:=by kernel_rfl
@[go_sem] theorem tya_z_12:tZero Tryz.prog 12=some [.int .u64 0]:=by kernel_rfl
@[go_sem] theorem tya_s_13:tSz Tryz.prog 13=some (true,2):=by kernel_rfl
@[go_sem] theorem tya_fl_13:tFlds Tryz.prog 13=some [(0,1),(1,1)]:=by kernel_rfl
@[go_sem] theorem tya_f0_13:tFld Tryz.prog 13 0=some 0:=by kernel_rfl
@[go_sem] theorem tya_f1_13:tFld Tryz.prog 13 1=some 1:=by kernel_rfl
@[go_sem] theorem tya_z_13:tZero Tryz.prog 13=some [.str ⟨#[]⟩,.int .u64 0]:=by kernel_rfl
@[go_sem] theorem tya_s_14:tSz Tryz.prog 14=some (true,2):=by kernel_rfl
@[go_sem] theorem tya_fl_14:tFlds Tryz.prog 14=some [(0,1),(1,1)]:=by kernel_rfl
@[go_sem] theorem tya_f0_14:tFld Tryz.prog 14 0=some 0:=by kernel_rfl
@[go_sem] theorem tya_f1_14:tFld Tryz.prog 14 1=some 1:=by kernel_rfl
@[go_sem] theorem tya_z_14:tZero Tryz.prog 14=some [.str ⟨#[]⟩,.int .u64 0]:=by kernel_rfl
@[go_sem] theorem tya_s_15:tSz Tryz.prog 15=some (false,1):=by kernel_rfl
@[go_sem] theorem tya_z_15:tZero Tryz.prog 15=some [.raw (.pointer none)]:=by kernel_rfl
@[go_sem] theorem tya_s_16:tSz Tryz.prog 16=some (false,1):=by kernel_rfl
@[go_sem] theorem tya_z_16:tZero Tryz.prog 16=some [.raw (.pointer none)]:=by kernel_rfl
@[go_sem] theorem tya_s_17:tSz Tryz.prog 17=some (false,1):=by kernel_rfl
@[go_sem] theorem tya_z_17:tZero Tryz.prog 17=some [.raw (.pointer none)]:=by kernel_rfl
@[go_sem] theorem tya_s_18:tSz Tryz.prog 18=some (true,1):=by kernel_rfl
@[go_sem] theorem tya_fl_18:tFlds Tryz.prog 18=some [(0,1)]:=by kernel_rfl
@[go_sem] theorem tya_f0_18:tFld Tryz.prog 18 0=some 0:=by kernel_rfl
@[go_sem] theorem tya_z_18:tZero Tryz.prog 18=some [.raw (.pointer none)]:=by kernel_rfl
@[go_sem] theorem tya_s_19:tSz Tryz.prog 19=some (true,1):=by kernel_rfl
@[go_sem] theorem tya_fl_19:tFlds Tryz.prog 19=some [(0,1)]:=by kernel_rfl
@[go_sem] theorem tya_f0_19:tFld Tryz.prog 19 0=some 0:=by kernel_rfl
@[go_sem] theorem tya_z_19:tZero Tryz.prog 19=some [.raw (.pointer none)]:=by kernel_rfl
@[go_sem] theorem tya_s_20:tSz Tryz.prog 20=some (false,1):=by kernel_rfl
@[go_sem] theorem tya_c_20:tIfc Tryz.prog 20=true:=by kernel_rfl
@[go_sem] theorem tya_z_20:tZero Tryz.prog 20=some [.nilI]:=by kernel_rfl
@[go_sem] theorem tya_s_21:tSz Tryz.prog 21=some (false,1):=by kernel_rfl
@[go_sem] theorem tya_zi_21:tZI Tryz.prog 21=some (.i32,0):=by kernel_rfl
@[go_sem] theorem tya_i_21:tInt Tryz.prog 21=some .i32:=by kernel_rfl
@[go_sem] theorem tya_z_21:tZero Tryz.prog 21=some [.int .i32 0]:=by kernel_rfl
@[go_sem] theorem tya_e_23:tElem Tryz.prog 23=some (94,11,192):=by kernel_rfl
@[go_sem] theorem tya_s_23:tSz Tryz.prog 23=some (false,1):=by kernel_rfl
@[go_sem] theorem tya_z_23:tZero Tryz.prog 23=some [.nils]:=by kernel_rfl
@[go_sem] theorem tya_e_24:tElem Tryz.prog 24=some (97,2,24):=by kernel_rfl
@[go_sem] theorem tya_s_24:tSz Tryz.prog 24=some (false,1):=by kernel_rfl
@[go_sem] theorem tya_z_24:tZero Tryz.prog 24=some [.nils]:=by kernel_rfl
@[go_sem] theorem tya_e_25:tElem Tryz.prog 25=some (45,7,112):=by kernel_rfl
@[go_sem] theorem tya_s_25:tSz Tryz.prog 25=some (false,1):=by kernel_rfl
@[go_sem] theorem tya_z_25:tZero Tryz.prog 25=some [.nils]:=by kernel_rfl
@[go_sem] theorem tya_e_26:tElem Tryz.prog 26=some (100,3,56):=by kernel_rfl
@[go_sem] theorem tya_s_26:tSz Tryz.prog 26=some (false,1):=by kernel_rfl
@[go_sem] theorem tya_z_26:tZero Tryz.prog 26=some [.nils]:=by kernel_rfl
@[go_sem] theorem tya_e_27:tElem Tryz.prog 27=some (78,4,72):=by kernel_rfl
@[go_sem] theorem tya_s_27:tSz Tryz.prog 27=some (false,1):=by kernel_rfl
@[go_sem] theorem tya_z_27:tZero Tryz.prog 27=some [.nils]:=by kernel_rfl
@[go_sem] theorem tya_e_28:tElem Tryz.prog 28=some (82,3,56):=by kernel_rfl
@[go_sem] theorem tya_s_28:tSz Tryz.prog 28=some (false,1):=by kernel_rfl
@[go_sem] theorem tya_z_28:tZero Tryz.prog 28=some [.nils]:=by kernel_rfl
@[go_sem] theorem tya_s_29:tSz Tryz.prog 29=some (true,8):=by kernel_rfl
@[go_sem] theorem tya_fl_29:tFlds Tryz.prog 29=some [(0,1),(1,1),(2,1),(3,1),(4,1),(5,1),(6,1),(7,1)]:=by kernel_rfl
@[go_sem] theorem tya_f0_29:tFld Tryz.prog 29 0=some 0:=by kernel_rfl
@[go_sem] theorem tya_f1_29:tFld Tryz.prog 29 1=some 1:=by kernel_rfl
@[go_sem] theorem tya_f2_29:tFld Tryz.prog 29 2=some 2:=by kernel_rfl
@[go_sem] theorem tya_f3_29:tFld Tryz.prog 29 3=some 3:=by kernel_rfl
@[go_sem] theorem tya_f4_29:tFld Tryz.prog 29 4=some 4:=by kernel_rfl
@[go_sem] theorem tya_f5_29:tFld Tryz.prog 29 5=some 5:=by kernel_rfl
@[go_sem] theorem tya_f6_29:tFld Tryz.prog 29 6=some 6:=by kernel_rfl
@[go_sem] theorem tya_f7_29:tFld Tryz.prog 29 7=some 7:=by kernel_rfl
@[go_sem] theorem tya_z_29:tZero Tryz.prog 29=some [.str ⟨#[]⟩,.str ⟨#[]⟩,.nils,.nils,.nils,.nils,.nils,.nils]:=by kernel_rfl
@[go_sem] theorem tya_s_30:tSz Tryz.prog 30=some (true,8):=by kernel_rfl
@[go_sem] theorem tya_fl_30:tFlds Tryz.prog 30=some [(0,1),(1,1),(2,1),(3,1),(4,1),(5,1),(6,1),(7,1)]:=by kernel_rfl
@[go_sem] theorem tya_f0_30:tFld Tryz.prog 30 0=some 0:=by kernel_rfl
@[go_sem] theorem tya_f1_30:tFld Tryz.prog 30 1=some 1:=by kernel_rfl
@[go_sem] theorem tya_f2_30:tFld Tryz.prog 30 2=some 2:=by kernel_rfl
@[go_sem] theorem tya_f3_30:tFld Tryz.prog 30 3=some 3:=by kernel_rfl
@[go_sem] theorem tya_f4_30:tFld Tryz.prog 30 4=some 4:=by kernel_rfl
@[go_sem] theorem tya_f5_30:tFld Tryz.prog 30 5=some 5:=by kernel_rfl
@[go_sem] theorem tya_f6_30:tFld Tryz.prog 30 6=some 6:=by kernel_rfl
@[go_sem] theorem tya_f7_30:tFld Tryz.prog 30 7=some 7:=by kernel_rfl
@[go_sem] theorem tya_z_30:tZero Tryz.prog 30=some [.str ⟨#[]⟩,.str ⟨#[]⟩,.nils,.nils,.nils,.nils,.nils,.nils]:=by kernel_rfl
@[go_sem] theorem tya_s_31:tSz Tryz.prog 31=some (false,1):=by kernel_rfl
@[go_sem] theorem tya_c_31:tIfc Tryz.prog 31=true:=by kernel_rfl
@[go_sem] theorem tya_z_31:tZero Tryz.prog 31=some [.nilI]:=by kernel_rfl
@[go_sem] theorem tya_s_32:tSz Tryz.prog 32=some (false,1):=by kernel_rfl
@[go_sem] theorem tya_c_32:tIfc Tryz.prog 32=true:=by kernel_rfl
@[go_sem] theorem tya_z_32:tZero Tryz.prog 32=some [.nilI]:=by kernel_rfl
@[go_sem] theorem tya_e_40:tElem Tryz.prog 40=some (9,1,16):=by kernel_rfl
@[go_sem] theorem tya_s_40:tSz Tryz.prog 40=some (false,1):=by kernel_rfl
@[go_sem] theorem tya_z_40:tZero Tryz.prog 40=some [.nils]:=by kernel_rfl
@[go_sem] theorem tya_e_41:tElem Tryz.prog 41=some (166,1,4):=by kernel_rfl
@[go_sem] theorem tya_s_41:tSz Tryz.prog 41=some (false,1):=by kernel_rfl
@[go_sem] theorem tya_z_41:tZero Tryz.prog 41=some [.nils]:=by kernel_rfl
@[go_sem] theorem tya_s_42:tSz Tryz.prog 42=some (true,3):=by kernel_rfl
@[go_sem] theorem tya_fl_42:tFlds Tryz.prog 42=some [(0,1),(1,1),(2,1)]:=by kernel_rfl
@[go_sem] theorem tya_f0_42:tFld Tryz.prog 42 0=some 0:=by kernel_rfl
@[go_sem] theorem tya_f1_42:tFld Tryz.prog 42 1=some 1:=by kernel_rfl
@[go_sem] theorem tya_f2_42:tFld Tryz.prog 42 2=some 2:=by kernel_rfl
@[go_sem] theorem tya_z_42:tZero Tryz.prog 42=some [.bool false,.nils,.nils]:=by kernel_rfl
@[go_sem] theorem tya_s_43:tSz Tryz.prog 43=some (true,3):=by kernel_rfl
@[go_sem] theorem tya_fl_43:tFlds Tryz.prog 43=some [(0,1),(1,1),(2,1)]:=by kernel_rfl
@[go_sem] theorem tya_f0_43:tFld Tryz.prog 43 0=some 0:=by kernel_rfl
@[go_sem] theorem tya_f1_43:tFld Tryz.prog 43 1=some 1:=by kernel_rfl
@[go_sem] theorem tya_f2_43:tFld Tryz.prog 43 2=some 2:=by kernel_rfl
@[go_sem] theorem tya_z_43:tZero Tryz.prog 43=some [.bool false,.nils,.nils]:=by kernel_rfl
@[go_sem] theorem tya_s_44:tSz Tryz.prog 44=some (true,7):=by kernel_rfl
@[go_sem] theorem tya_fl_44:tFlds Tryz.prog 44=some [(0,1),(1,1),(2,1),(3,1),(4,3)]:=by kernel_rfl
@[go_sem] theorem tya_f0_44:tFld Tryz.prog 44 0=some 0:=by kernel_rfl
@[go_sem] theorem tya_f1_44:tFld Tryz.prog 44 1=some 1:=by kernel_rfl
@[go_sem] theorem tya_f2_44:tFld Tryz.prog 44 2=some 2:=by kernel_rfl
@[go_sem] theorem tya_f3_44:tFld Tryz.prog 44 3=some 3:=by kernel_rfl
@[go_sem] theorem tya_f4_44:tFld Tryz.prog 44 4=some 4:=by kernel_rfl
@[go_sem] theorem tya_z_44:tZero Tryz.prog 44=some [.str ⟨#[]⟩,.int .i64 0,.int .i64 0,.nils,.bool false,.nils,.nils]:=by kernel_rfl
@[go_sem] theorem tya_s_45:tSz Tryz.prog 45=some (true,7):=by kernel_rfl
@[go_sem] theorem tya_fl_45:tFlds Tryz.prog 45=some [(0,1),(1,1),(2,1),(3,1),(4,3)]:=by kernel_rfl
@[go_sem] theorem tya_f0_45:tFld Tryz.prog 45 0=some 0:=by kernel_rfl
@[go_sem] theorem tya_f1_45:tFld Tryz.prog 45 1=some 1:=by kernel_rfl
@[go_sem] theorem tya_f2_45:tFld Tryz.prog 45 2=some 2:=by kernel_rfl
@[go_sem] theorem tya_f3_45:tFld Tryz.prog 45 3=some 3:=by kernel_rfl
@[go_sem] theorem tya_f4_45:tFld Tryz.prog 45 4=some 4:=by kernel_rfl
@[go_sem] theorem tya_z_45:tZero Tryz.prog 45=some [.str ⟨#[]⟩,.int .i64 0,.int .i64 0,.nils,.bool false,.nils,.nils]:=by kernel_rfl
@[go_sem] theorem tya_s_49:tSz Tryz.prog 49=some (false,1):=by kernel_rfl
@[go_sem] theorem tya_z_49:tZero Tryz.prog 49=some [.raw (.pointer none)]:=by kernel_rfl
@[go_sem] theorem tya_e_54:tElem Tryz.prog 54=some (92,5,48):=by kernel_rfl
@[go_sem] theorem tya_s_54:tSz Tryz.prog 54=some (false,1):=by kernel_rfl
@[go_sem] theorem tya_z_54:tZero Tryz.prog 54=some [.nils]:=by kernel_rfl
@[go_sem] theorem tya_s_55:tSz Tryz.prog 55=some (true,3):=by kernel_rfl
@[go_sem] theorem tya_fl_55:tFlds Tryz.prog 55=some [(0,1),(1,1),(2,1)]:=by kernel_rfl
@[go_sem] theorem tya_f0_55:tFld Tryz.prog 55 0=some 0:=by kernel_rfl
@[go_sem] theorem tya_f1_55:tFld Tryz.prog 55 1=some 1:=by kernel_rfl
@[go_sem] theorem tya_f2_55:tFld Tryz.prog 55 2=some 2:=by kernel_rfl
@[go_sem] theorem tya_z_55:tZero Tryz.prog 55=some [.nils,.int .i64 0,.nilI]:=by kernel_rfl
@[go_sem] theorem tya_s_56:tSz Tryz.prog 56=some (true,3):=by kernel_rfl
@[go_sem] theorem tya_fl_56:tFlds Tryz.prog 56=some [(0,1),(1,1),(2,1)]:=by kernel_rfl
@[go_sem] theorem tya_f0_56:tFld Tryz.prog 56 0=some 0:=by kernel_rfl
@[go_sem] theorem tya_f1_56:tFld Tryz.prog 56 1=some 1:=by kernel_rfl
@[go_sem] theorem tya_f2_56:tFld Tryz.prog 56 2=some 2:=by kernel_rfl
@[go_sem] theorem tya_z_56:tZero Tryz.prog 56=some [.nils,.int .i64 0,.nilI]:=by kernel_rfl
@[go_sem] theorem tya_s_58:tSz Tryz.prog 58=some (false,1):=by kernel_rfl
@[go_sem] theorem tya_z_58:tZero Tryz.prog 58=some [.raw (.pointer none)]:=by kernel_rfl
@[go_sem] theorem tya_s_63:tSz Tryz.prog 63=some (true,2):=by kernel_rfl
@[go_sem] theorem tya_fl_63:tFlds Tryz.prog 63=some [(0,1),(1,1)]:=by kernel_rfl
@[go_sem] theorem tya_f0_63:tFld Tryz.prog 63 0=some 0:=by kernel_rfl
@[go_sem] theorem tya_f1_63:tFld Tryz.prog 63 1=some 1:=by kernel_rfl
@[go_sem] theorem tya_z_63:tZero Tryz.prog 63=some [.nils,.int .i64 0]:=by kernel_rfl
@[go_sem] theorem tya_s_64:tSz Tryz.prog 64=some (true,2):=by kernel_rfl
@[go_sem] theorem tya_fl_64:tFlds Tryz.prog 64=some [(0,1),(1,1)]:=by kernel_rfl
@[go_sem] theorem tya_f0_64:tFld Tryz.prog 64 0=some 0:=by kernel_rfl
@[go_sem] theorem tya_f1_64:tFld Tryz.prog 64 1=some 1:=by kernel_rfl
@[go_sem] theorem tya_z_64:tZero Tryz.prog 64=some [.nils,.int .i64 0]:=by kernel_rfl
@[go_sem] theorem tya_s_73:tSz Tryz.prog 73=some (false,1):=by kernel_rfl
@[go_sem] theorem tya_zi_73:tZI Tryz.prog 73=some (.i64,0):=by kernel_rfl
@[go_sem] theorem tya_i_73:tInt Tryz.prog 73=some .i64:=by kernel_rfl
@[go_sem] theorem tya_z_73:tZero Tryz.prog 73=some [.int .i64 0]:=by kernel_rfl
@[go_sem] theorem tya_e_76:tElem Tryz.prog 76=some (43,3,56):=by kernel_rfl
@[go_sem] theorem tya_s_76:tSz Tryz.prog 76=some (false,1):=by kernel_rfl
@[go_sem] theorem tya_z_76:tZero Tryz.prog 76=some [.nils]:=by kernel_rfl
@[go_sem] theorem tya_s_77:tSz Tryz.prog 77=some (true,4):=by kernel_rfl
@[go_sem] theorem tya_fl_77:tFlds Tryz.prog 77=some [(0,1),(1,1),(2,1),(3,1)]:=by kernel_rfl
@[go_sem] theorem tya_f0_77:tFld Tryz.prog 77 0=some 0:=by kernel_rfl
@[go_sem] theorem tya_f1_77:tFld Tryz.prog 77 1=some 1:=by kernel_rfl
@[go_sem] theorem tya_f2_77:tFld Tryz.prog 77 2=some 2:=by kernel_rfl
@[go_sem] theorem tya_f3_77:tFld Tryz.prog 77 3=some 3:=by kernel_rfl
@[go_sem] theorem tya_z_77:tZero Tryz.prog 77=some [.str ⟨#[]⟩,.int .i64 0,.nils,.nils]:=by kernel_rfl
@[go_sem] theorem tya_s_78:tSz Tryz.prog 78=some (true,4):=by kernel_rfl
@[go_sem] theorem tya_fl_78:tFlds Tryz.prog 78=some [(0,1),(1,1),(2,1),(3,1)]:=by kernel_rfl
@[go_sem] theorem tya_f0_78:tFld Tryz.prog 78 0=some 0:=by kernel_rfl
@[go_sem] theorem tya_f1_78:tFld Tryz.prog 78 1=some 1:=by kernel_rfl
@[go_sem] theorem tya_f2_78:tFld Tryz.prog 78 2=some 2:=by kernel_rfl
@[go_sem] theorem tya_f3_78:tFld Tryz.prog 78 3=some 3:=by kernel_rfl
@[go_sem] theorem tya_z_78:tZero Tryz.prog 78=some [.str ⟨#[]⟩,.int .i64 0,.nils,.nils]:=by kernel_rfl
@[go_sem] theorem tya_e_80:tElem Tryz.prog 80=some (84,4,72):=by kernel_rfl
@[go_sem] theorem tya_s_80:tSz Tryz.prog 80=some (false,1):=by kernel_rfl
@[go_sem] theorem tya_z_80:tZero Tryz.prog 80=some [.nils]:=by kernel_rfl
@[go_sem] theorem tya_s_81:tSz Tryz.prog 81=some (true,3):=by kernel_rfl
@[go_sem] theorem tya_fl_81:tFlds Tryz.prog 81=some [(0,1),(1,1),(2,1)]:=by kernel_rfl
@[go_sem] theorem tya_f0_81:tFld Tryz.prog 81 0=some 0:=by kernel_rfl
@[go_sem] theorem tya_f1_81:tFld Tryz.prog 81 1=some 1:=by kernel_rfl
@[go_sem] theorem tya_f2_81:tFld Tryz.prog 81 2=some 2:=by kernel_rfl
@[go_sem] theorem tya_z_81:tZero Tryz.prog 81=some [.str ⟨#[]⟩,.str ⟨#[]⟩,.nils]:=by kernel_rfl
@[go_sem] theorem tya_s_82:tSz Tryz.prog 82=some (true,3):=by kernel_rfl
@[go_sem] theorem tya_fl_82:tFlds Tryz.prog 82=some [(0,1),(1,1),(2,1)]:=by kernel_rfl
@[go_sem] theorem tya_f0_82:tFld Tryz.prog 82 0=some 0:=by kernel_rfl
@[go_sem] theorem tya_f1_82:tFld Tryz.prog 82 1=some 1:=by kernel_rfl
@[go_sem] theorem tya_f2_82:tFld Tryz.prog 82 2=some 2:=by kernel_rfl
@[go_sem] theorem tya_z_82:tZero Tryz.prog 82=some [.str ⟨#[]⟩,.str ⟨#[]⟩,.nils]:=by kernel_rfl
@[go_sem] theorem tya_s_83:tSz Tryz.prog 83=some (true,4):=by kernel_rfl
@[go_sem] theorem tya_fl_83:tFlds Tryz.prog 83=some [(0,1),(1,3)]:=by kernel_rfl
@[go_sem] theorem tya_f0_83:tFld Tryz.prog 83 0=some 0:=by kernel_rfl
@[go_sem] theorem tya_f1_83:tFld Tryz.prog 83 1=some 1:=by kernel_rfl
@[go_sem] theorem tya_z_83:tZero Tryz.prog 83=some [.str ⟨#[]⟩,.bool false,.nils,.nils]:=by kernel_rfl
@[go_sem] theorem tya_s_84:tSz Tryz.prog 84=some (true,4):=by kernel_rfl
@[go_sem] theorem tya_fl_84:tFlds Tryz.prog 84=some [(0,1),(1,3)]:=by kernel_rfl
@[go_sem] theorem tya_f0_84:tFld Tryz.prog 84 0=some 0:=by kernel_rfl
@[go_sem] theorem tya_f1_84:tFld Tryz.prog 84 1=some 1:=by kernel_rfl
@[go_sem] theorem tya_z_84:tZero Tryz.prog 84=some [.str ⟨#[]⟩,.bool false,.nils,.nils]:=by kernel_rfl
@[go_sem] theorem tya_s_91:tSz Tryz.prog 91=some (true,5):=by kernel_rfl
@[go_sem] theorem tya_fl_91:tFlds Tryz.prog 91=some [(0,1),(1,1),(2,1),(3,1),(4,1)]:=by kernel_rfl
@[go_sem] theorem tya_f0_91:tFld Tryz.prog 91 0=some 0:=by kernel_rfl
@[go_sem] theorem tya_f1_91:tFld Tryz.prog 91 1=some 1:=by kernel_rfl
@[go_sem] theorem tya_f2_91:tFld Tryz.prog 91 2=some 2:=by kernel_rfl
@[go_sem] theorem tya_f3_91:tFld Tryz.prog 91 3=some 3:=by kernel_rfl
@[go_sem] theorem tya_f4_91:tFld Tryz.prog 91 4=some 4:=by kernel_rfl
@[go_sem] theorem tya_z_91:tZero Tryz.prog 91=some [.int .i64 0,.str ⟨#[]⟩,.int .i64 0,.int .i64 0,.int .i64 0]:=by kernel_rfl
@[go_sem] theorem tya_s_92:tSz Tryz.prog 92=some (true,5):=by kernel_rfl
@[go_sem] theorem tya_fl_92:tFlds Tryz.prog 92=some [(0,1),(1,1),(2,1),(3,1),(4,1)]:=by kernel_rfl
@[go_sem] theorem tya_f0_92:tFld Tryz.prog 92 0=some 0:=by kernel_rfl
@[go_sem] theorem tya_f1_92:tFld Tryz.prog 92 1=some 1:=by kernel_rfl
@[go_sem] theorem tya_f2_92:tFld Tryz.prog 92 2=some 2:=by kernel_rfl
@[go_sem] theorem tya_f3_92:tFld Tryz.prog 92 3=some 3:=by kernel_rfl
@[go_sem] theorem tya_f4_92:tFld Tryz.prog 92 4=some 4:=by kernel_rfl
@[go_sem] theorem tya_z_92:tZero Tryz.prog 92=some [.int .i64 0,.str ⟨#[]⟩,.int .i64 0,.int .i64 0,.int .i64 0]:=by kernel_rfl
@[go_sem] theorem tya_s_93:tSz Tryz.prog 93=some (true,11):=by kernel_rfl
@[go_sem] theorem tya_fl_93:tFlds Tryz.prog 93=some [(0,1),(1,3),(4,3),(7,3),(10,1)]:=by kernel_rfl
@[go_sem] theorem tya_f0_93:tFld Tryz.prog 93 0=some 0:=by kernel_rfl
@[go_sem] theorem tya_f1_93:tFld Tryz.prog 93 1=some 1:=by kernel_rfl
@[go_sem] theorem tya_f2_93:tFld Tryz.prog 93 2=some 4:=by kernel_rfl
@[go_sem] theorem tya_f3_93:tFld Tryz.prog 93 3=some 7:=by kernel_rfl
@[go_sem] theorem tya_f4_93:tFld Tryz.prog 93 4=some 10:=by kernel_rfl
@[go_sem] theorem tya_z_93:tZero Tryz.prog 93=some [.str ⟨#[]⟩,.bool false,.nils,.nils,.bool false,.nils,.nils,.bool false,.nils,.nils,.int .i64 0]:=by kernel_rfl
@[go_sem] theorem tya_s_94:tSz Tryz.prog 94=some (true,11):=by kernel_rfl
@[go_sem] theorem tya_fl_94:tFlds Tryz.prog 94=some [(0,1),(1,3),(4,3),(7,3),(10,1)]:=by kernel_rfl
@[go_sem] theorem tya_f0_94:tFld Tryz.prog 94 0=some 0:=by kernel_rfl
@[go_sem] theorem tya_f1_94:tFld Tryz.prog 94 1=some 1:=by kernel_rfl
@[go_sem] theorem tya_f2_94:tFld Tryz.prog 94 2=some 4:=by kernel_rfl
@[go_sem] theorem tya_f3_94:tFld Tryz.prog 94 3=some 7:=by kernel_rfl
@[go_sem] theorem tya_f4_94:tFld Tryz.prog 94 4=some 10:=by kernel_rfl
@[go_sem] theorem tya_z_94:tZero Tryz.prog 94=some [.str ⟨#[]⟩,.bool false,.nils,.nils,.bool false,.nils,.nils,.bool false,.nils,.nils,.int .i64 0]:=by kernel_rfl
@[go_sem] theorem tya_s_96:tSz Tryz.prog 96=some (true,2):=by kernel_rfl
@[go_sem] theorem tya_fl_96:tFlds Tryz.prog 96=some [(0,1),(1,1)]:=by kernel_rfl
@[go_sem] theorem tya_f0_96:tFld Tryz.prog 96 0=some 0:=by kernel_rfl
@[go_sem] theorem tya_f1_96:tFld Tryz.prog 96 1=some 1:=by kernel_rfl
@[go_sem] theorem tya_z_96:tZero Tryz.prog 96=some [.str ⟨#[]⟩,.bool false]:=by kernel_rfl
@[go_sem] theorem tya_s_97:tSz Tryz.prog 97=some (true,2):=by kernel_rfl
@[go_sem] theorem tya_fl_97:tFlds Tryz.prog 97=some [(0,1),(1,1)]:=by kernel_rfl
@[go_sem] theorem tya_f0_97:tFld Tryz.prog 97 0=some 0:=by kernel_rfl
@[go_sem] theorem tya_f1_97:tFld Tryz.prog 97 1=some 1:=by kernel_rfl
@[go_sem] theorem tya_z_97:tZero Tryz.prog 97=some [.str ⟨#[]⟩,.bool false]:=by kernel_rfl
@[go_sem] theorem tya_s_99:tSz Tryz.prog 99=some (true,3):=by kernel_rfl
@[go_sem] theorem tya_fl_99:tFlds Tryz.prog 99=some [(0,1),(1,1),(2,1)]:=by kernel_rfl
@[go_sem] theorem tya_f0_99:tFld Tryz.prog 99 0=some 0:=by kernel_rfl
@[go_sem] theorem tya_f1_99:tFld Tryz.prog 99 1=some 1:=by kernel_rfl
@[go_sem] theorem tya_f2_99:tFld Tryz.prog 99 2=some 2:=by kernel_rfl
@[go_sem] theorem tya_z_99:tZero Tryz.prog 99=some [.str ⟨#[]⟩,.str ⟨#[]⟩,.nils]:=by kernel_rfl
@[go_sem] theorem tya_s_100:tSz Tryz.prog 100=some (true,3):=by kernel_rfl
@[go_sem] theorem tya_fl_100:tFlds Tryz.prog 100=some [(0,1),(1,1),(2,1)]:=by kernel_rfl
@[go_sem] theorem tya_f0_100:tFld Tryz.prog 100 0=some 0:=by kernel_rfl
@[go_sem] theorem tya_f1_100:tFld Tryz.prog 100 1=some 1:=by kernel_rfl
@[go_sem] theorem tya_f2_100:tFld Tryz.prog 100 2=some 2:=by kernel_rfl
@[go_sem] theorem tya_z_100:tZero Tryz.prog 100=some [.str ⟨#[]⟩,.str ⟨#[]⟩,.nils]:=by kernel_rfl
@[go_sem] theorem tya_e_128:tElem Tryz.prog 128=some (3,1,8):=by kernel_rfl
@[go_sem] theorem tya_s_128:tSz Tryz.prog 128=some (false,1):=by kernel_rfl
@[go_sem] theorem tya_z_128:tZero Tryz.prog 128=some [.nils]:=by kernel_rfl
@[go_sem] theorem tya_s_134:tSz Tryz.prog 134=some (false,1):=by kernel_rfl
@[go_sem] theorem tya_z_134:tZero Tryz.prog 134=some [.raw (.map none)]:=by kernel_rfl
@[go_sem] theorem tya_s_148:tSz Tryz.prog 148=some (false,1):=by kernel_rfl
@[go_sem] theorem tya_z_148:tZero Tryz.prog 148=some [.raw (.map none)]:=by kernel_rfl
@[go_sem] theorem tya_s_150:tSz Tryz.prog 150=some (true,3):=by kernel_rfl
@[go_sem] theorem tya_fl_150:tFlds Tryz.prog 150=some [(0,1),(1,1),(2,1)]:=by kernel_rfl
@[go_sem] theorem tya_f0_150:tFld Tryz.prog 150 0=some 0:=by kernel_rfl
@[go_sem] theorem tya_f1_150:tFld Tryz.prog 150 1=some 1:=by kernel_rfl
@[go_sem] theorem tya_f2_150:tFld Tryz.prog 150 2=some 2:=by kernel_rfl
@[go_sem] theorem tya_q_150:tEqS Tryz.prog 150=some 3:=by kernel_rfl
@[go_sem] theorem tya_z_150:tZero Tryz.prog 150=some [.int .i64 0,.int .i64 0,.int .i64 0]:=by kernel_rfl
@[go_sem] theorem tya_s_151:tSz Tryz.prog 151=some (true,3):=by kernel_rfl
@[go_sem] theorem tya_fl_151:tFlds Tryz.prog 151=some [(0,1),(1,1),(2,1)]:=by kernel_rfl
@[go_sem] theorem tya_f0_151:tFld Tryz.prog 151 0=some 0:=by kernel_rfl
@[go_sem] theorem tya_f1_151:tFld Tryz.prog 151 1=some 1:=by kernel_rfl
@[go_sem] theorem tya_f2_151:tFld Tryz.prog 151 2=some 2:=by kernel_rfl
@[go_sem] theorem tya_q_151:tEqS Tryz.prog 151=some 3:=by kernel_rfl
@[go_sem] theorem tya_z_151:tZero Tryz.prog 151=some [.int .i64 0,.int .i64 0,.int .i64 0]:=by kernel_rfl
@[go_sem] theorem tya_s_155:tSz Tryz.prog 155=some (true,4):=by kernel_rfl
@[go_sem] theorem tya_z_155:tZero Tryz.prog 155=some [.bool false,.bool false,.bool false,.bool false]:=by kernel_rfl
@[go_sem] theorem tya_e_163:tElem Tryz.prog 163=some (128,1,24):=by kernel_rfl
@[go_sem] theorem tya_s_163:tSz Tryz.prog 163=some (false,1):=by kernel_rfl
@[go_sem] theorem tya_z_163:tZero Tryz.prog 163=some [.nils]:=by kernel_rfl
@[go_sem] theorem tya_e_165:tElem Tryz.prog 165=some (4,1,1):=by kernel_rfl
@[go_sem] theorem tya_s_165:tSz Tryz.prog 165=some (false,1):=by kernel_rfl
@[go_sem] theorem tya_z_165:tZero Tryz.prog 165=some [.nils]:=by kernel_rfl
@[go_sem] theorem tya_s_166:tSz Tryz.prog 166=some (false,1):=by kernel_rfl
@[go_sem] theorem tya_zi_166:tZI Tryz.prog 166=some (.u32,0):=by kernel_rfl
@[go_sem] theorem tya_i_166:tInt Tryz.prog 166=some .u32:=by kernel_rfl
@[go_sem] theorem tya_z_166:tZero Tryz.prog 166=some [.int .u32 0]:=by kernel_rfl
@[go_sem] theorem tya_s_207:tSz Tryz.prog 207=some (false,1):=by kernel_rfl
@[go_sem] theorem tya_zi_207:tZI Tryz.prog 207=some (.u64,0):=by kernel_rfl
@[go_sem] theorem tya_i_207:tInt Tryz.prog 207=some .u64:=by kernel_rfl
@[go_sem] theorem tya_z_207:tZero Tryz.prog 207=some [.int .u64 0]:=by kernel_rfl
@[go_sem] theorem tya_s_209:tSz Tryz.prog 209=some (false,1):=by kernel_rfl
@[go_sem] theorem tya_zi_209:tZI Tryz.prog 209=some (.u64,0):=by kernel_rfl
@[go_sem] theorem tya_i_209:tInt Tryz.prog 209=some .u64:=by kernel_rfl
@[go_sem] theorem tya_z_209:tZero Tryz.prog 209=some [.int .u64 0]:=by kernel_rfl
@[go_sem] theorem tya_s_231:tSz Tryz.prog 231=some (true,4):=by kernel_rfl
@[go_sem] theorem tya_fl_231:tFlds Tryz.prog 231=some [(0,1),(1,1),(2,1),(3,1)]:=by kernel_rfl
@[go_sem] theorem tya_f0_231:tFld Tryz.prog 231 0=some 0:=by kernel_rfl
@[go_sem] theorem tya_f1_231:tFld Tryz.prog 231 1=some 1:=by kernel_rfl
@[go_sem] theorem tya_f2_231:tFld Tryz.prog 231 2=some 2:=by kernel_rfl
@[go_sem] theorem tya_f3_231:tFld Tryz.prog 231 3=some 3:=by kernel_rfl
@[go_sem] theorem tya_z_231:tZero Tryz.prog 231=some [.raw (.pointer none),.raw (.pointer none),.raw (.pointer none),.str ⟨#[]⟩]:=by kernel_rfl
@[go_sem] theorem tya_s_232:tSz Tryz.prog 232=some (true,4):=by kernel_rfl
@[go_sem] theorem tya_fl_232:tFlds Tryz.prog 232=some [(0,1),(1,1),(2,1),(3,1)]:=by kernel_rfl
@[go_sem] theorem tya_f0_232:tFld Tryz.prog 232 0=some 0:=by kernel_rfl
@[go_sem] theorem tya_f1_232:tFld Tryz.prog 232 1=some 1:=by kernel_rfl
@[go_sem] theorem tya_f2_232:tFld Tryz.prog 232 2=some 2:=by kernel_rfl
@[go_sem] theorem tya_f3_232:tFld Tryz.prog 232 3=some 3:=by kernel_rfl
@[go_sem] theorem tya_z_232:tZero Tryz.prog 232=some [.raw (.pointer none),.raw (.pointer none),.raw (.pointer none),.str ⟨#[]⟩]:=by kernel_rfl
@[go_sem] theorem tya_s_236:tSz Tryz.prog 236=some (false,1):=by kernel_rfl
@[go_sem] theorem tya_zi_236:tZI Tryz.prog 236=some (.u8,0):=by kernel_rfl
@[go_sem] theorem tya_i_236:tInt Tryz.prog 236=some .u8:=by kernel_rfl
@[go_sem] theorem tya_z_236:tZero Tryz.prog 236=some [.int .u8 0]:=by kernel_rfl
@[go_sem] theorem tya_s_237:tSz Tryz.prog 237=some (false,1):=by kernel_rfl
@[go_sem] theorem tya_zi_237:tZI Tryz.prog 237=some (.u8,0):=by kernel_rfl
@[go_sem] theorem tya_i_237:tInt Tryz.prog 237=some .u8:=by kernel_rfl
@[go_sem] theorem tya_z_237:tZero Tryz.prog 237=some [.int .u8 0]:=by kernel_rfl
@[go_sem] theorem tya_s_239:tSz Tryz.prog 239=some (false,1):=by kernel_rfl
@[go_sem] theorem tya_z_239:tZero Tryz.prog 239=some [.raw (.pointer none)]:=by kernel_rfl
@[go_sem] theorem tya_s_240:tSz Tryz.prog 240=some (false,1):=by kernel_rfl
@[go_sem] theorem tya_zi_240:tZI Tryz.prog 240=some (.i32,0):=by kernel_rfl
@[go_sem] theorem tya_i_240:tInt Tryz.prog 240=some .i32:=by kernel_rfl
@[go_sem] theorem tya_z_240:tZero Tryz.prog 240=some [.int .i32 0]:=by kernel_rfl
@[go_sem] theorem tya_s_241:tSz Tryz.prog 241=some (false,1):=by kernel_rfl
@[go_sem] theorem tya_zi_241:tZI Tryz.prog 241=some (.i32,0):=by kernel_rfl
@[go_sem] theorem tya_i_241:tInt Tryz.prog 241=some .i32:=by kernel_rfl
@[go_sem] theorem tya_z_241:tZero Tryz.prog 241=some [.int .i32 0]:=by kernel_rfl
@[go_sem] theorem tya_s_242:tSz Tryz.prog 242=some (true,11):=by kernel_rfl
@[go_sem] theorem tya_fl_242:tFlds Tryz.prog 242=some [(0,1),(1,1),(2,1),(3,1),(4,1),(5,1),(6,1),(7,1),(8,1),(9,1),(10,1)]:=by kernel_rfl
@[go_sem] theorem tya_f0_242:tFld Tryz.prog 242 0=some 0:=by kernel_rfl
@[go_sem] theorem tya_f1_242:tFld Tryz.prog 242 1=some 1:=by kernel_rfl
@[go_sem] theorem tya_f2_242:tFld Tryz.prog 242 2=some 2:=by kernel_rfl
@[go_sem] theorem tya_f3_242:tFld Tryz.prog 242 3=some 3:=by kernel_rfl
@[go_sem] theorem tya_f4_242:tFld Tryz.prog 242 4=some 4:=by kernel_rfl
@[go_sem] theorem tya_f5_242:tFld Tryz.prog 242 5=some 5:=by kernel_rfl
@[go_sem] theorem tya_f6_242:tFld Tryz.prog 242 6=some 6:=by kernel_rfl
@[go_sem] theorem tya_f7_242:tFld Tryz.prog 242 7=some 7:=by kernel_rfl
@[go_sem] theorem tya_f8_242:tFld Tryz.prog 242 8=some 8:=by kernel_rfl
@[go_sem] theorem tya_f9_242:tFld Tryz.prog 242 9=some 9:=by kernel_rfl
@[go_sem] theorem tya_f10_242:tFld Tryz.prog 242 10=some 10:=by kernel_rfl
@[go_sem] theorem tya_z_242:tZero Tryz.prog 242=some [.int .u64 0,.int .u64 0,.int .u32 0,.int .u8 0,.int .u8 0,.int .u8 0,.int .u8 0,.raw .nilFunc,.raw (.pointer none),.int .i32 0,.int .i32 0]:=by kernel_rfl
@[go_sem] theorem tya_s_243:tSz Tryz.prog 243=some (true,11):=by kernel_rfl
@[go_sem] theorem tya_fl_243:tFlds Tryz.prog 243=some [(0,1),(1,1),(2,1),(3,1),(4,1),(5,1),(6,1),(7,1),(8,1),(9,1),(10,1)]:=by kernel_rfl
@[go_sem] theorem tya_f0_243:tFld Tryz.prog 243 0=some 0:=by kernel_rfl
@[go_sem] theorem tya_f1_243:tFld Tryz.prog 243 1=some 1:=by kernel_rfl
@[go_sem] theorem tya_f2_243:tFld Tryz.prog 243 2=some 2:=by kernel_rfl
@[go_sem] theorem tya_f3_243:tFld Tryz.prog 243 3=some 3:=by kernel_rfl
@[go_sem] theorem tya_f4_243:tFld Tryz.prog 243 4=some 4:=by kernel_rfl
@[go_sem] theorem tya_f5_243:tFld Tryz.prog 243 5=some 5:=by kernel_rfl
@[go_sem] theorem tya_f6_243:tFld Tryz.prog 243 6=some 6:=by kernel_rfl
@[go_sem] theorem tya_f7_243:tFld Tryz.prog 243 7=some 7:=by kernel_rfl
@[go_sem] theorem tya_f8_243:tFld Tryz.prog 243 8=some 8:=by kernel_rfl
@[go_sem] theorem tya_f9_243:tFld Tryz.prog 243 9=some 9:=by kernel_rfl
@[go_sem] theorem tya_f10_243:tFld Tryz.prog 243 10=some 10:=by kernel_rfl
@[go_sem] theorem tya_z_243:tZero Tryz.prog 243=some [.int .u64 0,.int .u64 0,.int .u32 0,.int .u8 0,.int .u8 0,.int .u8 0,.int .u8 0,.raw .nilFunc,.raw (.pointer none),.int .i32 0,.int .i32 0]:=by kernel_rfl
@[go_sem] theorem tya_s_244:tSz Tryz.prog 244=some (false,1):=by kernel_rfl
@[go_sem] theorem tya_z_244:tZero Tryz.prog 244=some [.raw (.pointer none)]:=by kernel_rfl
end Go.Proofs.YteehccacfedolaaGreat
namespace Go.Proofs.YteehccacfedolaaGreat
open Go.AI Go.PN
attribute [local irreducible] aw Fa Fh DrK
abbrev rdc (r:RD):List CV:=[.bool r.neg,ws true r.num,ws true r.den]
theorem cmp_one {n:Nat}:(cmpN n (val [1])==0)=decide (n=1):=by
 have:val [1]=1:=rfl
 rw [this]
 unfold cmpN
 by_cases h:n=1
 ·subst h;rfl
 ·have:¬(n=1):=h
  simp only [this,decide_false,if_false]
  by_cases h0:n<1<;>simp [h0]
theorem plain_eq {xs:List Nat} (h0:0<xs.length):plainB xs=(((xs.getD (xs.length-1) 0:Nat):Int) !=0):=by
 simp only [plainB,h0,decide_true,Bool.true_and,bne]
 congr 1
 rw [Bool.eq_iff_iff];simp
theorem plain_no {xs:List Nat} (h0:¬0<xs.length):plainB xs=false:=by simp [plainB,h0]
theorem one_fa:Fa Tryz.prog 144 [] (.c (ws true [1])):=by
 refine fa_of_body Tryz.func144 rfl rfl (by simp [Tryz.ntmps144]) fun C hC=> ?_
 simp only [initS]
 refine xG ?_
 refine aw_buildSlice (xs:=[.const (.int .u32 1)]) (cells:=[.int .u32 1]) rfl rfl rfl ty_e_ws (by rw [envP,ty_z_u32];rfl) rfl om om (by intro x hx;simp only [List.mem_cons,List.not_mem_nil,or_false] at hx;subst hx;exact⟨rfl,rfl,rfl⟩) rfl fun g hg=> ?_
 refine xSGT hC ?_
 exact .one (.c (ler_oslws eE om rfl (fun j hj=>by match j,hj with|0,_=>rfl)))
theorem plain_fa (xs:List Nat) (hlx:xs.length≤68719476738):Fa Tryz.prog 153 [.c (ws false xs)] (.c (.bool (plainB xs))):=by
 refine fa_of_body Tryz.func153 rfl rfl (by simp [Tryz.ntmps153]) fun C hC=> ?_
 simp only [initS,Nat.reduceAdd]
 refine xG ?_
 refine aw_split 6 eE (fun hb=> ?_) (fun hb=> ?_)<;>refine xS ?_
 ·have h0:0<xs.length:=dT hb
  refine xGT hC ?_
  exact .one (.c (ler_bool (plain_eq h0).symm))
 ·have h0:¬0<xs.length:=dF hb
  refine xGT hC ?_
  exact .one (.c (ler_bool (plain_no h0).symm))
theorem valid_zero {r:RD} (h1:((r.num.length:Int)==0)=true) (h2:((r.den.length:Int)==0)=true):(!r.neg)=r.valid:=by
 have h1':r.num.length=0:=by have:=eq_of_beq h1;omega
 have h2':r.den.length=0:=by have:=eq_of_beq h2;omega
 simp [RD.valid,h1',h2']
theorem valid_else {r:RD} (h:((r.num.length:Int)==0)=false∨((r.den.length:Int)==0)=false):r.valid=(plainB r.num&&plainB r.den&&decide (Nat.gcd (val r.num) (val r.den)=1)):=by
 unfold RD.valid
 rw [if_neg]
 rintro ⟨h1,h2⟩
 rcases h with h|h
 ·rw [h1] at h;cases h
 ·rw [h2] at h;cases h
theorem rvalid_fa (r:RD) (hw:r.wf 68719476736):Fa Tryz.prog 121 [.agg (rdc r)] (.c (.bool r.valid)):=by
 have hp1:r.num.length≤68719476738:=by have:=hw.2.2.1;omega
 have hp2:r.den.length≤68719476738:=by have:=hw.2.2.2;omega
 have hg:(words (Nat.gcd (val r.num) (val r.den))).length≤68719476736:=by
  by_cases h:val r.num=0
  ·rw [h,Nat.gcd_zero_left];exact Nat.le_trans (words_val_len _ hw.2.1) hw.2.2.2
  ·exact Nat.le_trans (words_len_mono (Nat.gcd_le_left _ (Nat.pos_of_ne_zero h))) (Nat.le_trans (words_val_len _ hw.1) hw.2.2.1)
 refine fa_of_body Tryz.func121 rfl rfl (by simp [Tryz.ntmps121]) fun C hC=> ?_
 simp only [initS,Nat.reduceAdd]
 refine xG ?_
 refine xB fun g1 hn_g1=>?_
 refine yH hn_g1 ?_
 apply aw_seq
 refine aw_cut (fun _:Unit=>[(1,.c (.optr g1 0))]) (fun _=>[(g1,.cells 43 3 (ofL (rdc r)))]) (fun _=>((r.num.length:Int)==0)=false∨((r.den.length:Int)==0)=false) ?_ ?_
 ·refine yG hn_g1 ?_
  refine aw_split 7 (zE hn_g1) (fun hb=> ?_) (fun hb=> ?_)<;>refine yS hn_g1 ?_
  ·refine yG hn_g1 ?_
   refine yF hn_g1 (fun hd=>?_) fun hd=>?_
   ·refine yGT hC hn_g1 ?_
    exact .one (.c (ler_bool (valid_zero hb hd)))
   ·refine yG hn_g1 ?_
    exact aw_stop ⟨(),(zB hn_g1),zZ,.inr hd⟩
  ·refine yG hn_g1 ?_
   refine yN hn_g1 ?_
   refine yG hn_g1 ?_
   exact aw_stop ⟨(),(zB hn_g1),zZ,.inl hb⟩
 rintro _ hd
 rw [valid_else hd]
 refine yG hn_g1 ?_
 refine yC hn_g1 (plain_fa r.num hp1) ?_
 refine yG hn_g1 ?_
 refine aw_split 19 (zE hn_g1) (fun h1=> ?_) (fun h1=> ?_)<;>refine yS hn_g1 ?_
 ·refine yG hn_g1 ?_
  refine yC hn_g1 (plain_fa r.den hp2) ?_
  refine yG hn_g1 ?_
  refine aw_split 24 (zE hn_g1) (fun h2=> ?_) (fun h2=> ?_)<;>refine yS hn_g1 ?_
  ·refine yG hn_g1 ?_
   refine yC hn_g1 (gcd_fa _ _ hw.1 hw.2.1 hw.2.2.1 hw.2.2.2) ?_
   refine yG hn_g1 ?_
   refine yC hn_g1 (one_fa) ?_
   refine yG hn_g1 ?_
   refine yC hn_g1 (cmp_fa _ [1] (words_lt _) ?_ hg ?_) ?_
   ·simp
   ·simp
   refine yGT hC hn_g1 ?_
   refine .one (.c (ler_bool ?_))
   rw [h1,h2,val_words,cmp_one];rfl
  ·refine yGT hC hn_g1 ?_
   refine .one (.c (ler_bool ?_))
   rw [h2,Bool.and_false,Bool.false_and]
 ·refine yGT hC hn_g1 ?_
  refine .one (.c (ler_bool ?_))
  rw [h1,Bool.false_and,Bool.false_and]
end Go.Proofs.YteehccacfedolaaGreat
namespace Go.Proofs.YteehccacfedolaaGreat
open Go.AI Go.PN
attribute [local irreducible] aw Fa Fh DrK
theorem words_mul_len (m n:Nat):(words (m*n)).length≤(words m).length+(words n).length:=words_len_le (pow_mul_lt (words_pow_lt m) (words_pow_lt n))
theorem words_add_len {m n k:Nat} (hm:(words m).length≤k) (hn:(words n).length≤k):(words (m+n)).length≤k+1:=by
 have h1:=Nat.lt_of_lt_of_le (words_pow_lt m) (Nat.pow_le_pow_right (show 0<4294967296 by omega) hm)
 have h2:=Nat.lt_of_lt_of_le (words_pow_lt n) (Nat.pow_le_pow_right (show 0<4294967296 by omega) hn)
 refine words_len_le ?_
 rw [Nat.pow_succ]
 omega
theorem mulW (a b:Nat) (ha:(words a).length≤68719476736) (hb:(words b).length≤68719476736):Fa Tryz.prog 171 [.c (ws false (words a)),.c (ws false (words b))] (.c (ws true (words (a*b)))):=by
 have:=mul_fa (words a) (words b) (words_lt a) (words_lt b) ha hb
 rwa [val_words,val_words] at this
theorem addW (a b:Nat) (ha:(words a).length≤68719476736) (hb:(words b).length≤68719476736):Fa Tryz.prog 187 [.c (ws false (words a)),.c (ws false (words b))] (.c (ws true (words (a+b)))):=by
 have:=add_fa (words a) (words b) (words_lt a) (words_lt b) ha hb
 rwa [val_words,val_words] at this
theorem subW (a b:Nat) (ha:(words a).length≤68719476736) (hb:(words b).length≤68719476736) (h:b≤a):Fa Tryz.prog 188 [.c (ws false (words a)),.c (ws false (words b))] (.tup [.c (ws true (words (a-b))),.c .nilI]):=by
 have:=sub_fa (words a) (words b) (words_lt a) (words_lt b) ha hb (by rw [val_words,val_words];exact h)
 rwa [val_words,val_words] at this
theorem cmpW (a b:Nat) (ha:(words a).length≤68719476736) (hb:(words b).length≤68719476736):Fa Tryz.prog 122 [.c (ws false (words a)),.c (ws false (words b))] (.c (.int .i64 (cmpN a b))):=by
 have:=cmp_fa (words a) (words b) (words_lt a) (words_lt b) ha hb
 rwa [val_words,val_words] at this
theorem gcdW (a b:Nat) (ha:(words a).length≤68719476736) (hb:(words b).length≤68719476736):Fa Tryz.prog 154 [.c (ws false (words a)),.c (ws false (words b))] (.c (ws true (words (Nat.gcd a b)))):=by
 have:=gcd_fa (words a) (words b) (words_lt a) (words_lt b) ha hb
 rwa [val_words,val_words] at this
theorem divW (a b:Nat) (ha:(words a).length≤68719476736) (hb:(words b).length≤68719476736) (h:b≠0):Fa Tryz.prog 174 [.c (ws false (words a)),.c (ws false (words b))] (.tup [.c (ws true (words (a/b))),.c (ws true (words (a%b))),.c .nilI]):=by
 have:=div_fa (words a) (words b) (words_lt a) (words_lt b) ha hb (by rw [val_words];exact h)
 rwa [val_words,val_words] at this
theorem bitsW (a:Nat) (ha:(words a).length≤68719476736):Fa Tryz.prog 167 [.c (ws false (words a))] (.c (.int .i64 (bitlen a:Nat))):=by
 have:=bits_fa (words a) (words_lt a) ha
 rwa [val_words] at this
theorem some_of {r:RD} (h1:r.valid=true) (h2:((r.num.length:Int)==0)=false):r.some=true:=by
 have:r.num.length≠0:=fun e=>by rw [e] at h2;cases h2
 simp [RD.some,h1,this]
theorem none_of {r:RD} (h:r.valid=false∨((r.num.length:Int)==0)=true):r.some=false:=by
 rcases h with h|h
 ·simp [RD.some,h]
 ·have:r.num.length=0:=by have:=eq_of_beq h;omega
  simp [RD.some,this]
theorem wf_mono {r:RD} {L M:Nat} (h:r.wf L) (hm:L≤M):r.wf M:=⟨h.1,h.2.1,Nat.le_trans h.2.2.1 hm,Nat.le_trans h.2.2.2 hm⟩
abbrev partsAV (r:RD):AV:=.tup [.c (.bool r.ps),.c (ws true (words r.pn)),.c (ws true (words r.pd))]
theorem rparts_fa (r:RD) (hw:r.wf 1073741824):Fa Tryz.prog 143 [.agg (rdc r)] (partsAV r):=by
 refine fa_of_body Tryz.func143 rfl rfl (by simp [Tryz.ntmps143]) fun C hC=> ?_
 simp only [initS,Nat.reduceAdd]
 refine xG ?_
 refine xB fun g1 hn_g1=>?_
 refine yG hn_g1 ?_
 refine yC hn_g1 (rvalid_fa r (wf_mono hw ?_)) ?_
 ·omega
 refine yG hn_g1 ?_
 refine aw_split 8 (zE hn_g1) (fun hv=> ?_) (fun hv=> ?_)<;>refine yS hn_g1 ?_
 ·have hs:=RD.pn_none (none_of (r:=r) (.inl (by simpa using hv)))
  refine yG hn_g1 ?_
  refine yP hn_g1 ?_
  refine yG hn_g1 ?_
  refine yC hn_g1 (one_fa) ?_
  refine yGT hC hn_g1 ?_
  refine .tup ⟨.c (ler_bool hs.2.2.symm),.c ?_,.c ?_,trivial⟩
  ·rw [hs.1];exact .nils
  ·rw [hs.2.1];exact ler_ws
 ·have hv':r.valid=true:=by simpa using hv
  refine yG hn_g1 ?_
  refine yF hn_g1 (fun hn=>?_) fun hn=>?_
  ·have hs:=RD.pn_none (none_of (r:=r) (.inr hn))
   refine yG hn_g1 ?_
   refine yC hn_g1 (one_fa) ?_
   refine yGT hC hn_g1 ?_
   refine .tup ⟨.c (ler_bool hs.2.2.symm),.c ?_,.c ?_,trivial⟩
   ·rw [hs.1];exact .nils
   ·rw [hs.2.1];exact ler_ws
  ·have hs:=RD.pn_words hw (some_of hv' hn)
   refine yG hn_g1 ?_
   refine aw_dr 9 ty_mixed (by kernel_rfl) ?_
   refine yGT hC hn_g1 ?_
   refine .tup ⟨.c (ler_bool hs.2.2.symm),.c ?_,.c ?_,trivial⟩
   ·rw [hs.1];exact ler_ws
   ·rw [hs.2.1];exact ler_ws
theorem lerl_rd {h:Heap} {r:RD}:LeRL h (rdc r) (rdc r):=⟨.bool _,ler_ws,ler_ws,trivial⟩
theorem ler_rd {h:Heap} {r s:RD} (e:r=s):LeRA h (.agg (rdc r)) (.agg (rdc s)):=by subst e;exact .one (.agg lerl_rd)
theorem rform_fa (neg:Bool) (n d:Nat) (hn:(words n).length≤68719476736) (hd:(words d).length≤68719476736) (h0:d≠0):
  Fa Tryz.prog 170 [.c (.bool neg),.c (ws false (words n)),.c (ws false (words d))] (.agg (rdc (rd (sq neg n d)))):=by
 refine fa_of_body Tryz.func170 rfl rfl (by simp [Tryz.ntmps170]) fun C hC=> ?_
 simp only [initS,Nat.reduceAdd]
 refine xG ?_
 refine xA fun g6 hn_g6=>?_
 refine yG hn_g6 ?_
 refine yC hn_g6 (bitsW n hn) ?_
 refine yG hn_g6 ?_
 refine yF hn_g6 (fun hb=>?_) fun hb=>?_
 ·have hz:n=0:=bitlen_zero.1 (by have:=eq_of_beq hb;omega)
  refine yGWSGT hC hn_g6 ?_
  rw [hz,sq_zero,rd_zero]
  exact .one (.agg ⟨.bool _,.nils,.nils,trivial⟩)
 ·have hz:n≠0:=fun e=>by rw [e] at hb;cases hb
  have hg:Nat.gcd n d≠0:=fun e=>h0 (Nat.eq_zero_of_gcd_eq_zero_right e)
  have hgl:(words (Nat.gcd n d)).length≤68719476736:=Nat.le_trans (words_len_mono (Nat.gcd_le_left _ (Nat.pos_of_ne_zero hz))) hn
  refine yG hn_g6 ?_
  refine yC hn_g6 (gcdW n d hn hd) ?_
  refine yG hn_g6 ?_
  refine yC hn_g6 (divW n (Nat.gcd n d) hn hgl hg) ?_
  refine yG hn_g6 ?_
  refine yC hn_g6 (divW d (Nat.gcd n d) hd hgl hg) ?_
  refine yGWSGT hC hn_g6 ?_
  rw [rd_sq hz h0]
  exact .one (.agg ⟨.bool _,ler_ws,ler_ws,trivial⟩)
end Go.Proofs.YteehccacfedolaaGreat
namespace Go.Proofs.YteehccacfedolaaGreat
open Go.AI Go.PN
attribute [local irreducible] aw Fa Fh DrK
theorem words_min:words 9223372036854775808=[0,2147483648]:=by
 rw [words_cons om,words_cons om,show(9223372036854775808/4294967296/4294967296:Nat)=0 from rfl,words_zero]
theorem int_neg {n:Int} (h0: -9223372036854775808<n) (h1:n≤9223372036854775807):wrapZ .i64 (0-n)= -n:=by
 rw [wrapZ_eq,wrap_inRange (k:=.i64) (by simp only [inRange];omega)];omega
theorem words_small {n:Nat} (h:n≤9223372036854775808):(words n).length≤2:=words_len_le (Nat.lt_of_le_of_lt h (by decide))
theorem rsize_fa (n:Int) (h0: -9223372036854775808≤n) (h1:n≤9223372036854775807):Fa Tryz.prog 145 [.c (.int .i64 n)] (.c (ws true (words n.natAbs))):=by
 refine fa_of_body Tryz.func145 rfl rfl (by simp [Tryz.ntmps145]) fun C hC=> ?_
 simp only [initS,Nat.reduceAdd]
 refine xG ?_
 refine xF (fun hb=>?_) fun hb=>?_
 ·have hn:n= -9223372036854775808:=eq_of_beq hb
  refine xG ?_
  refine aw_buildSlice (xs:=[.const (.int .u32 0),.const (.int .u32 2147483648)]) (cells:=[.int .u32 0,.int .u32 2147483648]) rfl rfl rfl ty_e_ws (by rw [envP,ty_z_u32];rfl) rfl om om (by intro x hx;simp only [List.mem_cons,List.not_mem_nil,or_false] at hx;rcases hx with rfl|rfl<;>exact⟨rfl,rfl,rfl⟩) rfl fun g hg=> ?_
  refine xSGT hC ?_
  subst hn
  rw [show((-9223372036854775808:Int).natAbs)=9223372036854775808 from rfl,words_min]
  exact .one (.c (ler_oslws eE (by simp) rfl (fun j hj=>by match j,hj with|0,_=>rfl|1,_=>rfl)))
 ·have hn:n≠ -9223372036854775808:=fun e=>by rw [e] at hb;cases hb
  refine xG ?_
  rw [int_neg om h1]
  have hm:(if-n>n then-n else n)=(n.natAbs:Int):=by split<;>omega
  rw [hm]
  refine xC (of_fa (n.natAbs:Int) ?_ ?_) ?_
  ·omega
  ·omega
  refine xGT hC ?_
  exact .one (.c ler_ws)
theorem sq_int (n:Int):sq (decide (n<0)) n.natAbs 1=(n:Rat):=by
 unfold sq sgn
 rw [Rat.mkRat_one]
 congr 1
 split
 ·rename_i h;simp only [decide_eq_true_eq] at h;omega
 ·rename_i h;simp only [decide_eq_true_eq] at h;omega
theorem rof_fa (n:Int) (h0: -9223372036854775808≤n) (h1:n≤9223372036854775807):Fa Tryz.prog 150 [.c (.int .i64 n)] (.agg (rdc (rd (n:Rat)))):=by
 have hl:=words_small (n:=n.natAbs) om
 refine fa_of_body Tryz.func150 rfl rfl (by simp [Tryz.ntmps150]) fun C hC=> ?_
 simp only [initS,Nat.reduceAdd]
 refine xG ?_
 refine xA fun g2 hn_g2=>?_
 refine yG hn_g2 ?_
 refine yC hn_g2 (rsize_fa n h0 h1) ?_
 refine yG hn_g2 ?_
 refine yC hn_g2 (one_fa) ?_
 refine yG hn_g2 ?_
 rw [show([1]:List Nat)=words 1 from words_one.symm]
 refine yC hn_g2 (rform_fa _ n.natAbs 1 ?_ ?_ ?_) ?_
 ·omega
 ·rw [words_one];simp
 ·omega
 refine yGWSGT hC hn_g2 ?_
 exact ler_rd (by rw [sq_int])
theorem sign_zero {r:RD} {L:Nat} (hw:r.wf L) (h:(((words r.pn).length:Int)==0)=true):0=signQ r.q:=by
 have h1:r.pn=0:=words_eq_nil.1 (List.length_eq_zero_iff.1 (by have:=eq_of_beq h;omega))
 unfold RD.q
 rw [h1,sq_zero];rfl
theorem sign_some {r:RD} {L:Nat} (hw:r.wf L) (h:(((words r.pn).length:Int)==0)=false):signQ r.q=if r.ps then-1 else 1:=by
 have h1:r.pn≠0:=fun e=>by rw [e,words_zero] at h;cases h
 unfold signQ RD.q
 rw [if_neg (sq_ne h1 (RD.pd_ne hw))]
 have:=sq_lt (neg:=r.ps) h1 (RD.pd_ne hw)
 simp only [this]
theorem rsign_fa (r:RD) (hw:r.wf 1073741824):Fa Tryz.prog 123 [.agg (rdc r)] (.c (.int .i64 (signQ r.q))):=by
 refine fa_of_body Tryz.func123 rfl rfl (by simp [Tryz.ntmps123]) fun C hC=> ?_
 simp only [initS,Nat.reduceAdd]
 refine xG ?_
 refine xB fun g1 hn_g1=>?_
 refine yG hn_g1 ?_
 refine yC hn_g1 (rparts_fa r hw) ?_
 refine yG hn_g1 ?_
 refine yF hn_g1 (fun hb=>?_) fun hb=>?_
 ·refine yGT hC hn_g1 ?_
  exact .one (.c (ler_int (sign_zero hw hb)))
 ·refine yG hn_g1 ?_
  refine yF hn_g1 (fun hp=>?_) fun hp=>?_
  ·refine yGT hC hn_g1 ?_
   refine .one (.c (ler_int ?_))
   rw [sign_some hw hb,hp];rfl
  ·refine yGT hC hn_g1 ?_
   refine .one (.c (ler_int ?_))
   rw [sign_some hw hb,hp];rfl
theorem not_of_bne {a b:Bool} (h:(a==b)=false):b= !a:=by cases a<;>cases b<;>simp_all
theorem radd_fa (a b:RD) (ha:a.wf 1073741824) (hb:b.wf 1073741824):Fa Tryz.prog 172 [.agg (rdc a),.agg (rdc b)] (.agg (rdc (rd (a.q+b.q)))):=by
 obtain⟨l1,l2⟩:=RD.p_len ha om
 obtain⟨l3,l4⟩:=RD.p_len hb om
 have d1:=RD.pd_ne ha
 have d2:=RD.pd_ne hb
 have dd:a.pd*b.pd≠0:=Nat.mul_ne_zero d1 d2
 have m1:=words_mul_len a.pn b.pd
 have m2:=words_mul_len b.pn a.pd
 have m3:=words_mul_len a.pd b.pd
 have m4:=words_add_len (m:=a.pn*b.pd) (n:=b.pn*a.pd) (k:=2147483648) om om
 refine fa_of_body Tryz.func172 rfl rfl (by simp [Tryz.ntmps172]) fun C hC=> ?_
 simp only [initS,Nat.reduceAdd]
 refine xG ?_
 refine xB fun g2 hn_g2=>?_
 refine yB hn_g2 fun g3 hn_g3=>?_
 refine yA (oj hn_g2 hn_g3) fun g4 hn_g4=>?_
 have J1:=oj hn_g2 (oj hn_g3 hn_g4)
 refine yG J1 ?_
 refine yC J1 (rparts_fa a ha) ?_
 refine yG J1 ?_
 refine yC J1 (rparts_fa b hb) ?_
 refine yG J1 ?_
 refine yC J1 (mulW a.pn b.pd ?_ ?_) ?_
 ·omega
 ·omega
 refine yG J1 ?_
 refine yC J1 (mulW b.pn a.pd ?_ ?_) ?_
 ·omega
 ·omega
 refine yG J1 ?_
 refine yC J1 (mulW a.pd b.pd ?_ ?_) ?_
 ·omega
 ·omega
 refine yG J1 ?_
 refine yF J1 (fun hs=>?_) fun hs=>?_
 ·have hs':a.ps=b.ps:=eq_of_beq hs
  refine yG J1 ?_
  refine yC J1 (addW _ _ ?_ ?_) ?_
  ·omega
  ·omega
  refine yG J1 ?_
  refine yC J1 (rform_fa _ _ _ ?_ ?_ dd) ?_
  ·omega
  ·omega
  refine yGWSGT hC J1 ?_
  refine ler_rd ?_
  rw [sq_add_same _ d1 d2]
  unfold RD.q;rw [hs']
 ·have hs':b.ps= !a.ps:=not_of_bne hs
  refine yG J1 ?_
  refine yC J1 (cmpW _ _ ?_ ?_) ?_
  ·omega
  ·omega
  refine yG J1 ?_
  refine yF J1 (fun hc=>?_) fun hc=>?_
  ·have hle:b.pn*a.pd≤a.pn*b.pd:=by
    have:=of_decide_eq_true hc
    unfold cmpN at this
    split at this
    ·omega
    ·omega
   have hl5:=words_len_mono (Nat.sub_le (a.pn*b.pd) (b.pn*a.pd))
   refine yG J1 ?_
   refine yC J1 (subW _ _ ?_ ?_ hle) ?_
   ·omega
   ·omega
   refine yG J1 ?_
   refine yC J1 (rform_fa _ _ _ ?_ ?_ dd) ?_
   ·omega
   ·omega
   refine yGWSGT hC J1 ?_
   refine ler_rd ?_
   rw [sq_add_ge _ d1 d2 hle]
   unfold RD.q;rw [hs']
  ·have hle:a.pn*b.pd≤b.pn*a.pd:=by
    have:=of_decide_eq_false hc
    unfold cmpN at this
    split at this
    ·omega
    ·split at this<;>omega
   have hl5:=words_len_mono (Nat.sub_le (b.pn*a.pd) (a.pn*b.pd))
   refine yG J1 ?_
   refine yC J1 (subW _ _ ?_ ?_ hle) ?_
   ·omega
   ·omega
   refine yG J1 ?_
   refine yC J1 (rform_fa _ _ _ ?_ ?_ dd) ?_
   ·omega
   ·omega
   refine yGWSGT hC J1 ?_
   refine ler_rd ?_
   rw [hs',sq_add_lt _ d1 d2 hle]
   unfold RD.q;rw [hs']
theorem rmul_fa (a b:RD) (ha:a.wf 1073741824) (hb:b.wf 1073741824):Fa Tryz.prog 151 [.agg (rdc a),.agg (rdc b)] (.agg (rdc (rd (a.q*b.q)))):=by
 obtain⟨l1,l2⟩:=RD.p_len ha om
 obtain⟨l3,l4⟩:=RD.p_len hb om
 have d1:=RD.pd_ne ha
 have d2:=RD.pd_ne hb
 have dd:a.pd*b.pd≠0:=Nat.mul_ne_zero d1 d2
 have m1:=words_mul_len a.pn b.pn
 have m3:=words_mul_len a.pd b.pd
 refine fa_of_body Tryz.func151 rfl rfl (by simp [Tryz.ntmps151]) fun C hC=> ?_
 simp only [initS,Nat.reduceAdd]
 refine xG ?_
 refine xB fun g2 hn_g2=>?_
 refine yB hn_g2 fun g3 hn_g3=>?_
 refine yA (oj hn_g2 hn_g3) fun g4 hn_g4=>?_
 have J1:=oj hn_g2 (oj hn_g3 hn_g4)
 refine yG J1 ?_
 refine yC J1 (rparts_fa a ha) ?_
 refine yG J1 ?_
 refine yC J1 (rparts_fa b hb) ?_
 refine yG J1 ?_
 refine yC J1 (mulW _ _ ?_ ?_) ?_
 ·omega
 ·omega
 refine yG J1 ?_
 refine yC J1 (mulW _ _ ?_ ?_) ?_
 ·omega
 ·omega
 refine yG J1 ?_
 refine yC J1 (rform_fa _ _ _ ?_ ?_ dd) ?_
 ·omega
 ·omega
 refine yGWSGT hC J1 ?_
 exact ler_rd (by rw [sq_mul];rfl)
theorem neg_wf {r:RD} (hw:r.wf 1073741824):(rd (-r.q)).wf 1073741824:=rd_wf (fits_neg (RD.fits hw om))
end Go.Proofs.YteehccacfedolaaGreat
namespace Go.Proofs.YteehccacfedolaaGreat
open Go.AI Go.PN
attribute [local irreducible] aw Fa Fh DrK
theorem val_ext {xs ys:List Nat} (h:∀j,xs.getD j 0=ys.getD j 0):val xs=val ys:=by
 induction xs generalizing ys with
 |nil=>
  refine(val_zero fun y hy=> ?_).symm
  obtain⟨i,hi,rfl⟩:=List.mem_iff_getElem.1 hy
  have:=h i
  rw [List.getD_eq_getElem?_getD,List.getD_eq_getElem?_getD,List.getElem?_eq_getElem hi] at this
  simpa using this.symm
 |cons x xs ih=>
  cases ys with
  |nil=>
   refine val_zero fun y hy=> ?_
   obtain⟨i,hi,rfl⟩:=List.mem_iff_getElem.1 hy
   have:=h i
   rw [List.getD_eq_getElem?_getD,List.getD_eq_getElem?_getD,List.getElem?_eq_getElem hi] at this
   simpa using this
  |cons y ys=>
   have h0:=h 0
   simp only [List.getD_cons_zero] at h0
   have h1:=ih (ys:=ys) fun j=>by have:=h (j+1);simpa only [List.getD_cons_succ] using this
   simp only [val,h0,h1]
theorem val_lt_of {xs ys:List Nat} {i:Nat} (hx:∀x∈xs,x<4294967296) (hlt:xs.getD i 0<ys.getD i 0) (hz:∀j,i<j→xs.getD j 0=ys.getD j 0):val xs<val ys:=by
 induction xs generalizing ys i with
 |nil=>
  have hy0:val ys≠0:=fun e=>by
   have:∀(l:List Nat) (k:Nat),val l=0→l.getD k 0=0:=by
    intro l
    induction l with
    |nil=>intro k _;simp
    |cons a l ih=>
     intro k hk
     simp only [val] at hk
     cases k with
     |zero=>simp only [List.getD_cons_zero];omega
     |succ k=>simp only [List.getD_cons_succ];exact ih k om
   rw [this ys i e] at hlt
   omega
  simp only [val];omega
 |cons x xs ih=>
  have hxl:x<4294967296:=hx x (by simp)
  cases ys with
  |nil=>simp at hlt
  |cons y ys=>
   cases i with
   |zero=>
    simp only [List.getD_cons_zero] at hlt
    have:=val_ext (xs:=xs) (ys:=ys) fun j=>by have:=hz (j+1) om;simpa only [List.getD_cons_succ] using this
    simp only [val,this];omega
   |succ i=>
    simp only [List.getD_cons_succ] at hlt
    have:=ih (ys:=ys) (i:=i) (fun z hz=>hx z (by simp [hz])) hlt (fun j hj=>by have:=hz (j+1) om;simpa only [List.getD_cons_succ] using this)
    simp only [val];omega
theorem word_lt' {xs ys:List Nat} {i:Nat} (hx:∀x∈xs,x<4294967296) (_hy:∀x∈ys,x<4294967296) (hlt:xs.getD i 0<ys.getD i 0) (hz:∀j,i<j→xs.getD j 0=ys.getD j 0):val xs<val ys:=val_lt_of hx hlt hz
theorem qword_fa (xs:List Nat) (i:Nat) (hx:∀x∈xs,x<4294967296):Fa Tryz.prog 180 [.c (ws false xs),.c (.int .i64 i)] (.c (.int .u64 (xs.getD i 0:Nat))):=by
 have hb:=getD_lt hx i
 refine fa_of_body Tryz.func180 rfl rfl (by simp [Tryz.ntmps180]) fun C hC=> ?_
 simp only [initS,Nat.reduceAdd]
 refine xG ?_
 refine xF (fun hb=>?_) fun hb=>?_
 ·simp only [decide_eq_true_eq] at hb
  refine xGT hC ?_
  exact .one (.c (ler_int rfl))
 ·simp only [decide_eq_false_iff_not] at hb
  refine xGT hC ?_
  refine .one (.c (ler_int ?_))
  rw [getD_ge om];rfl
theorem qtrim_fa (xs:List Nat) (hx:∀x∈xs,x<4294967296) (hl:xs.length≤1099511627776):Fa Tryz.prog 181 [.c (ws false xs)] (.c (ws true (words (val xs)))):=by
 refine fa_of_body Tryz.func181 rfl rfl (by simp [Tryz.ntmps181]) fun C hC=> ?_
 simp only [initS,Nat.reduceAdd]
 apply aw_seq
 apply aw_region
 refine xH ?_
 apply aw_seq
 apply aw_region
 refine xH ?_
 apply aw_seq
 refine aw_cut (fun m:Nat=>[(0,.c (ws false xs)),(3,.c (.int .i64 m))]) (fun _=>[]) (fun m=>m≤xs.length∧words (val xs)=xs.take m) ?_ ?_
 ·apply aw_block
  refine aw_lp (fun m:Nat=>[(0,.c (ws false xs)),(3,.c (.int .i64 m))]) (fun _=>[]) (fun m=>m≤xs.length∧(∀j,m≤j→xs.getD j 0=0)) id xs.length eB zZ ⟨Nat.le_refl _,fun j hj=>getD_ge hj⟩ ?_
  rintro m ⟨hm,hz⟩
  have hend:(m=0∨xs.getD (m-1) 0≠0)→words (val xs)=xs.take m:=trim_eq xs m hx hm hz
  refine xG ?_
  refine aw_split 8 eE (fun h0=> ?_) (fun h0=> ?_)<;>refine xS ?_
  ·have h0':0<m:=dT h0
   refine xG ?_
   refine xF (fun hb=>?_) fun hb=>?_
   ·have hb':xs.getD (m-1) 0=0:=by have:=eq_of_beq hb;omega
    refine xG ?_
    refine aw_stop ⟨m-1,by simp only [id];omega,eB,zZ,by omega,fun j hj=> ?_⟩
    by_cases hjm:j=m-1
    ·rw [hjm];exact hb'
    ·exact hz j om
   ·have hb':xs.getD (m-1) 0≠0:=fun e=>by rw [e] at hb;cases hb
    refine xG ?_
    exact aw_stop ⟨m,eB,zZ,hm,hend (.inr hb')⟩
  ·have h0':m=0:=dF h0
   refine xG ?_
   refine xN ?_
   refine xG ?_
   exact aw_stop ⟨m,eB,zZ,hm,hend (.inl h0')⟩
 rintro m ⟨hm,hw⟩
 refine xG ?_
 refine aw_buildSlice (xs:=[]) (cells:=[]) rfl rfl rfl ty_e_ws (by rw [envP,ty_z_u32];rfl) rfl om om (by simp) rfl fun g hg=> ?_
 refine xSG ?_
 by_cases h0:0<m
 ·refine aw_append rfl rfl rfl ty_e_ws ty_z_u32 rfl om eE eE om eE .row (fun _ _=>rfl) h0 (by unfold maxLen;omega) om eE fun g' hg'=> ?_
  refine xSGT hC ?_
  refine .one (.c ?_)
  rw [hw]
  refine ler_oslws eE om (by simp;omega) (fun j hj=> ?_)
  simp only [appF,Nat.not_lt_zero,if_false,Nat.sub_zero,Nat.zero_add]
  rw [getD_take hj]
 ·have hm0:m=0:=by omega
  subst hm0
  refine aw_append0 rfl rfl rfl ty_e_ws eE rfl eE .row eE ?_
  refine xSGT hC ?_
  refine .one (.c ?_)
  rw [hw]
  exact ler_oslws eE om rfl (fun j hj=>by omega)
theorem qcmp_fa (xs ys:List Nat) (hx:∀x∈xs,x<4294967296) (hy:∀x∈ys,x<4294967296) (hlx:xs.length≤68719476736) (hly:ys.length≤68719476736):
  Fa Tryz.prog 160 [.c (ws false xs),.c (ws false ys)] (.c (.int .i64 (cmpN (val xs) (val ys)))):=by
 refine fa_of_body Tryz.func160 rfl rfl (by simp [Tryz.ntmps160]) fun C hC=> ?_
 simp only [initS,Nat.reduceAdd]
 refine xG ?_
 have hmx:(if(ys.length:Int)>xs.length then(ys.length:Int) else xs.length)=((max xs.length ys.length:Nat):Int):=by split<;>omega
 rw [hmx]
 refine aw_lp (fun m:Nat=>[(0,.c (ws false xs)),(1,.c (ws false ys)),(5,.c (.int .i64 ((m:Int)-1)))]) (fun _=>[]) (fun m=>m≤max xs.length ys.length∧∀j,m≤j→xs.getD j 0=ys.getD j 0) id (max xs.length ys.length) eB zZ ⟨Nat.le_refl _,fun j hj=>by rw [getD_ge om,getD_ge om]⟩ ?_
 rintro m ⟨hm,hz⟩
 refine xG ?_
 refine xF (fun hb=>?_) fun hb=>?_
 ·obtain⟨i,rfl⟩:∃i,m=i+1:=⟨m-1,dT hb⟩
  have e14:((i+1:Nat):Int)-1=(i:Int):=by omega
  rw [e14]
  refine xG ?_
  refine xC (qword_fa xs i hx) ?_
  refine xG ?_
  refine xC (qword_fa ys i hy) ?_
  refine xG ?_
  refine xF (fun hlt=>?_) fun hlt=>?_
  ·have hlt':xs.getD i 0<ys.getD i 0:=dT hlt
   refine xGT hC ?_
   refine .one (.c (ler_int ?_))
   rw [cmpN,if_pos (word_lt' hx hy hlt' (fun j hj=>hz j om))]
  ·refine xG ?_
   refine xC (qword_fa xs i hx) ?_
   refine xG ?_
   refine xC (qword_fa ys i hy) ?_
   refine xG ?_
   refine xF (fun hgt=>?_) fun hgt=>?_
   ·have hgt':ys.getD i 0<xs.getD i 0:=dT hgt
    have hv:=word_lt' hy hx hgt' (fun j hj=>(hz j om).symm)
    refine xGT hC ?_
    refine .one (.c (ler_int ?_))
    rw [cmpN,if_neg om,if_neg om]
   ·have heq:xs.getD i 0=ys.getD i 0:=by have:=of_decide_eq_false hgt;have:=of_decide_eq_false hlt;omega
    refine xG ?_
    refine aw_stop ⟨i,by simp only [id];omega,eB,zZ,by omega,fun j hj=> ?_⟩
    by_cases hji:j=i
    ·rw [hji];exact heq
    ·exact hz j om
 ·have hm0:m=0:=dF hb
  subst hm0
  refine xGT hC ?_
  refine .one (.c (ler_int ?_))
  rw [cmpN,val_ext (fun j=>hz j om)];simp
end Go.Proofs.YteehccacfedolaaGreat
namespace Go.Proofs.YteehccacfedolaaGreat
open Go.AI Go.PN
attribute [local irreducible] aw Fa Fh DrK
theorem set_push {zs:List Nat} {i v:Nat} (h:zs.length=i):((zs++[0]).set i v).take (i+1)=zs++[v]:=by
 subst h
 rw [List.set_append_right _ _ (Nat.le_refl _),List.take_of_length_le (by simp)]
 simp
theorem take_push {zs:List Nat} {i:Nat} (h:zs.length=i):(zs++[0]).take i=zs:=by subst h;simp
theorem push_lt {zs:List Nat} {v:Nat} (hz:∀x∈zs,x<4294967296) (hv:v<4294967296):∀x∈zs++[v],x<4294967296:=fun x hx=>by
 rcases List.mem_append.1 hx with h|h
 ·exact hz x h
 ·rw [List.mem_singleton.1 h];exact hv
theorem some_ne {g:Nat} {n:Nat}:(some g:Option Nat)=none→n=0:=fun e=>by cases e
theorem qadd_fa (xs ys:List Nat) (hx:∀x∈xs,x<4294967296) (hy:∀x∈ys,x<4294967296) (hlx:xs.length≤68719476736) (hly:ys.length≤68719476736):
  Fa Tryz.prog 178 [.c (ws false xs),.c (ws false ys)] (.c (ws true (words (val xs+val ys)))):=by
 refine fa_of_body Tryz.func178 rfl rfl (by simp [Tryz.ntmps178]) fun C hC=> ?_
 simp only [initS,Nat.reduceAdd]
 refine xG ?_
 have hmx:(if(ys.length:Int)>xs.length then(ys.length:Int) else xs.length)+1=((max xs.length ys.length+1:Nat):Int):=by split<;>omega
 rw [hmx]
 generalize hn:max xs.length ys.length+1=n
 refine aw_lp (fun x:Option Nat×Nat×Nat×List Nat=>[(0,.c (ws false xs)),(1,.c (ws false ys)),(5,.c (gs x.1 1 x.2.1)),(6,.c (.int .u64 x.2.2.1)),(14,.c (.int .i64 n)),(15,.c (.int .i64 x.2.1))]) (fun x=>gh x.1 166 x.2.1 (wf x.2.2.2))
  (fun x=>(x.1=none→x.2.1=0)∧x.2.1≤n∧x.2.2.1≤1∧x.2.2.2.length=x.2.1∧(∀y∈x.2.2.2,y<4294967296)∧val x.2.2.2+4294967296^x.2.1*x.2.2.1=val (xs.take x.2.1)+val (ys.take x.2.1)) (fun x=>n-x.2.1) (none,0,0,[]) eB zZ
  ⟨fun _=>rfl,Nat.zero_le _,Nat.zero_le _,rfl,by simp,by simp [val]⟩ ?_
 rintro ⟨og,i,c,zs⟩ ⟨hog,hi,hc,hzl,hz,hv⟩
 dsimp only at hog hi hc hzl hz hv⊢
 refine xG ?_
 refine xF (fun hb=>?_) fun hb=>?_
 ·have hin:i<n:=dT hb
  have hxi:=getD_lt hx i
  have hyi:=getD_lt hy i
  refine xG ?_
  refine xC (qword_fa xs i hx) ?_
  refine xG ?_
  refine xC (qword_fa ys i hy) ?_
  refine xG ?_
  have ew:wrapZ .u32 ((((xs.getD i 0:Nat):Int)+((ys.getD i 0:Nat):Int))+(c:Int))=(((c+(xs.getD i 0+ys.getD i 0))%4294967296:Nat):Int):=by rw [wrapZ_eq,IntKind.wrap_u32];omega
  rw [ew]
  have hst:=add_step (zs:=zs++[0]) (i:=i) (c:=c) (xs:=xs) (ys:=ys) (by simp;omega) (by rw [take_push hzl];exact hv)
  rw [set_push hzl] at hst
  refine aw_push (pre:=[]) rfl rfl rfl rfl rfl rfl rfl eE eE (by rfl) om om eE om (by exact hog) eE (by rfl) (by rfl) (by first|rfl|simp only [Nat.mul_one,List.nil_append,List.cons_append]<;>rfl) (by unfold maxLen;omega) om (by exact wf_push hzl _) fun g hn_g=> ?_
  replace hn_g:=Heap.ne_of hn_g
  first|dsimp only [Heap.ne,gh] at hn_g|dsimp only [Heap.ne] at hn_g|skip
  refine ySG hn_g ?_
  refine aw_stop ⟨(some g,i+1,(c+(xs.getD i 0+ys.getD i 0))/4294967296,zs++[(c+(xs.getD i 0+ys.getD i 0))%4294967296]),by dsimp only;omega,(zB hn_g),zZ,some_ne,by dsimp only;omega,by dsimp only;omega,by simp;omega,push_lt hz om,hst⟩
 ·have hin:i=n:=dF hb
  subst hin
  refine xG ?_
  refine aw_callq (qtrim_fa zs hz om) rfl rfl rfl ⟨.c (le_gsw hog hzl),trivial⟩ ?_
  refine xSGT hC ?_
  rw [add_end hx hy om (by rw [hzl,List.take_of_length_le om];exact hv)]
  exact .one (.c ler_ws)
theorem qsub_fa (xs ys:List Nat) (hx:∀x∈xs,x<4294967296) (hy:∀x∈ys,x<4294967296) (hlx:xs.length≤68719476736) (hly:ys.length≤68719476736) (hle:val ys≤val xs):
  Fa Tryz.prog 179 [.c (ws false xs),.c (ws false ys)] (.tup [.c (ws true (words (val xs-val ys))),.c (.int .i64 0)]):=by
 refine fa_of_body Tryz.func179 rfl rfl (by simp [Tryz.ntmps179]) fun C hC=> ?_
 simp only [initS,Nat.reduceAdd]
 refine xG ?_
 refine xC (qcmp_fa xs ys hx hy hlx hly) ?_
 refine xG ?_
 refine xF (fun hb=>?_) fun hb=>?_
 ·have:=of_decide_eq_true hb
  unfold cmpN at this
  split at this
  ·omega
  ·split at this<;>omega
 refine xG ?_
 refine aw_lp (fun x:Option Nat×Nat×Nat×List Nat=>[(0,.c (ws false xs)),(1,.c (ws false ys)),(6,.c (gs x.1 1 x.2.1)),(7,.c (.int .u64 x.2.2.1)),(15,.c (.int .i64 xs.length)),(16,.c (.int .i64 x.2.1))]) (fun x=>gh x.1 166 x.2.1 (wf x.2.2.2))
  (fun x=>(x.1=none→x.2.1=0)∧x.2.1≤xs.length∧x.2.2.1≤1∧x.2.2.2.length=x.2.1∧(∀y∈x.2.2.2,y<4294967296)∧val x.2.2.2+val (ys.take x.2.1)=val (xs.take x.2.1)+4294967296^x.2.1*x.2.2.1) (fun x=>xs.length-x.2.1) (none,0,0,[]) eB zZ
  ⟨fun _=>rfl,Nat.zero_le _,Nat.zero_le _,rfl,by simp,by simp [val]⟩ ?_
 rintro ⟨og,i,b,zs⟩ ⟨hog,hi,hbb,hzl,hz,hv⟩
 dsimp only at hog hi hbb hzl hz hv⊢
 refine xG ?_
 refine xF (fun hb=>?_) fun hb=>?_
 ·have hin:i<xs.length:=dT hb
  have hxi:=getD_lt hx i
  have hyi:=getD_lt hy i
  refine xG ?_
  refine xC (qword_fa xs i hx) ?_
  refine xG ?_
  refine xC (qword_fa ys i hy) ?_
  (refine aw_2q false rfl (fun R hR=> ?_);simp only [go_sem];(with_reducible refine hR _ _ ?_ ?_);(focus (((try simp only [inRange])<;>and_intros<;>first|exact True.intro|omega|trivial);done));clear hR R)
  refine xG ?_
  (refine aw_2q false rfl (fun R hR=> ?_);simp only [go_sem];(with_reducible refine hR _ _ ?_ ?_);(focus (((try simp only [inRange])<;>and_intros<;>first|exact True.intro|omega|trivial);done));clear hR R)
  rw [wrap_subD hxi hyi hbb]
  obtain⟨st1,st2⟩:=sub_step (zs:=zs++[0]) (i:=i) (by simp;omega) hxi hyi hbb (by rw [take_push hzl];exact hv)
  rw [set_push hzl] at st1
  generalize subD (xs.getD i 0) (ys.getD i 0) b=D at st1 st2⊢
  obtain⟨v,b2,e1,e2,hvl,st⟩:∃v b2:Nat,wrapZ .u32 (D:Int)=(v:Int)∧shrZ .u64 (D:Int) 63=(b2:Int)∧v<4294967296∧(val (zs++[v])+val (ys.take (i+1))=val (xs.take (i+1))+4294967296^(i+1)*b2∧b2≤1):=
   ⟨_,_,wrap_u32_nat D,shr63_nat D,Nat.mod_lt _ om,st1,st2⟩
  clear st1 st2
  refine xG ?_
  rw [e1]
  refine aw_push (pre:=[]) rfl rfl rfl rfl rfl rfl rfl eE eE (by rfl) om om eE om (by exact hog) eE (by rfl) (by rfl) (by first|rfl|simp only [Nat.mul_one,List.nil_append,List.cons_append]<;>rfl) (by unfold maxLen;omega) om (by exact wf_push hzl _) fun g hn_g=> ?_
  replace hn_g:=Heap.ne_of hn_g
  first|dsimp only [Heap.ne,gh] at hn_g|dsimp only [Heap.ne] at hn_g|skip
  refine yS hn_g ?_
  refine yG (oj hn_g e2) ?_
  refine aw_stop ⟨(some g,i+1,b2,zs++[v]),by dsimp only;omega,(zB (oj hn_g e2)),zZ,some_ne,by dsimp only;omega,st.2,by simp;omega,push_lt hz hvl,st.1⟩
 ·have hin:i=xs.length:=dF hb
  subst hin
  refine xG ?_
  refine aw_callq (qtrim_fa zs hz om) rfl rfl rfl ⟨.c (le_gsw hog hzl),trivial⟩ ?_
  refine xSGT hC ?_
  rw [sub_end hx hz hzl hle (by rw [List.take_of_length_le om];exact hv)]
  exact .tup ⟨.c ler_ws,.c (.int _ _),trivial⟩
theorem qmul_fa (xs ys:List Nat) (hx:∀x∈xs,x<4294967296) (hy:∀x∈ys,x<4294967296) (hlx:xs.length≤68719476736) (hly:ys.length≤68719476736):
  Fa Tryz.prog 177 [.c (ws false xs),.c (ws false ys)] (.c (ws true (words (val xs*val ys)))):=by
 refine fa_of_body Tryz.func177 rfl rfl (by simp [Tryz.ntmps177]) fun C hC=> ?_
 simp only [initS,Nat.reduceAdd]
 refine xG ?_
 have hn0:(xs.length:Int)+(ys.length:Int)+1=((xs.length+ys.length+1:Nat):Int):=by omega
 rw [hn0]
 generalize hn:xs.length+ys.length+1=n
 refine aw_make (n:=n) (c:=n) rfl rfl rfl ty_e_ws ty_z_u32 rfl om eE eE rfl rfl om om om fun g hg=> ?_
 rw [make_wf n]
 refine xSG ?_
 refine aw_lp (fun x:Nat×List Nat=>[(1,.c (ws false ys)),(5,.c (.osl g 1 0 n)),(18,.c (ws false xs)),(19,.c (.int .i64 xs.length)),(20,.c (.int .i64 x.1))]) (fun x=>[(g,.cells 166 n (wf x.2))])
  (fun x=>x.1≤xs.length∧x.2.length=n∧(∀y∈x.2,y<4294967296)∧val x.2=val (xs.take x.1)*val ys) (fun x=>xs.length-x.1) (0,List.replicate n 0) eB zZ
  ⟨Nat.zero_le _,by simp,replicate_lt _,by simp [val,val_replicate]⟩ ?_
 rintro ⟨i,z0⟩ ⟨hi,hzl0,hz0,hv0⟩
 dsimp only at hi hzl0 hz0 hv0⊢
 refine xG ?_
 refine xF (fun hb=>?_) fun hb=>?_
 ·have hin:i<xs.length:=dT hb
  have hxi:=getD_lt hx i
  have hz0':val z0<4294967296^(i+ys.length):=by
   rw [hv0,Nat.pow_add]
   exact Nat.mul_lt_mul_of_lt_of_lt (val_take_lt xs hx i om) (val_lt ys hy)
  refine xG ?_
  generalize hxx:xs.getD i 0=x at*
  refine aw_lp (fun s:Nat×Nat×List Nat=>[(1,.c (ws false ys)),(5,.c (.osl g 1 0 n)),(6,.c (.int .i64 i)),(7,.c (.int .u32 x)),(8,.c (.int .u64 s.2.1)),(18,.c (ws false xs)),(19,.c (.int .i64 xs.length)),(20,.c (.int .i64 i)),(27,.c (.int .i64 ((ys.length:Int)+1))),(28,.c (.int .i64 s.1))]) (fun s=>[(g,.cells 166 n (wf s.2.2))])
   (fun s=>s.1≤ys.length+1∧s.2.1<4294967296∧s.2.2.length=n∧(∀y∈s.2.2,y<4294967296)∧(∀j,i+s.1≤j→s.2.2.getD j 0=z0.getD j 0)∧(s.1=ys.length+1→s.2.1=0)∧val s.2.2+4294967296^(i+s.1)*s.2.1=val z0+4294967296^i*(x*val (ys.take s.1))) (fun s=>ys.length+1-s.1) (0,0,z0) eB zZ
   ⟨Nat.zero_le _,by simp,hzl0,hz0,fun _ _=>rfl,fun _=>rfl,by simp [val]⟩ ?_
  rintro ⟨k,c,zs⟩ ⟨hk,hc,hzl,hz,hzz,hce,hv⟩
  dsimp only at hk hc hzl hz hzz hce hv⊢
  refine xG ?_
  refine xF (fun hb=>?_) fun hb=>?_
  ·have hkn:k<ys.length+1:=dT hb
   have hyk:=getD_lt hy k
   have hzk:=getD_lt hz (i+k)
   have hst:=mul_step (ys:=ys) (x:=x) (zs:=zs) (c:=c) om hv
   have hmb:=mul_bound hxi hyk
   have hmb2:(0:Int)≤(x:Int)*((ys.getD k 0:Nat):Int)∧(x:Int)*((ys.getD k 0:Nat):Int)≤18446744065119617025:=by rw [←Int.natCast_mul];omega
   have hlast:k=ys.length→(c+(x*ys.getD k 0+zs.getD (i+k) 0))/4294967296=0:=fun e=>by
    subst e
    rw [getD_ge (Nat.le_refl _),hzz _ (Nat.le_refl _),getD_zero_of_lt hz0' (Nat.le_refl _)]
    omega
   refine xG ?_
   refine aw_dr 17 ty_mixed (by kernel_rfl) ?_
   refine xG ?_
   refine xD (qword_fa ys k hy) ?_
   refine xG ?_
   have ew:(x:Int)*((ys.getD k 0:Nat):Int)+((zs.getD (i+k) 0:Nat):Int)+(c:Int)=((c+(x*ys.getD k 0+zs.getD (i+k) 0):Nat):Int):=by simp;omega
   rw [ew,wrap_u32_nat]
   refine xW ?_
   refine xS ?_
   rw [updF_wf om]
   refine xG ?_
   refine aw_stop ⟨(k+1,(c+(x*ys.getD k 0+zs.getD (i+k) 0))/4294967296,zs.set (i+k) ((c+(x*ys.getD k 0+zs.getD (i+k) 0))%4294967296)),by dsimp only;omega,eB,zZ,by dsimp only;omega,by dsimp only;omega,by simpa using hzl,set_lt hz om,fun j hj=> ?_,fun e=>hlast (by simpa using e),hst⟩
   dsimp only at hj⊢
   rw [Go.PN.getD_set_ne om]
   exact hzz j om
  ·have hkn:k=ys.length+1:=dF hb
   subst hkn
   refine xG ?_
   rw [hce rfl,Nat.mul_zero,Nat.add_zero,hv0,List.take_of_length_le (l:=ys) om] at hv
   refine aw_stop ⟨(i+1,zs),by dsimp only;omega,eB,zZ,by dsimp only;omega,hzl,hz,?_⟩
   dsimp only
   rw [hv,val_take_succ,hxx,Nat.add_mul,Nat.mul_assoc]
 ·have hin:i=xs.length:=dF hb
  subst hin
  refine xG ?_
  refine aw_callq (qtrim_fa z0 hz0 om) rfl rfl rfl (by refine xS ?_;exact .c (lec_oslws eE om om (fun j _=>by rw [Nat.zero_add];rfl))) ?_
  refine xSGT hC ?_
  rw [hv0,List.take_length]
  exact .one (.c ler_ws)
end Go.Proofs.YteehccacfedolaaGreat
namespace Go.Proofs.YteehccacfedolaaGreat
open Go.AI Go.PN
attribute [local irreducible] aw Fa Fh DrK
theorem bitlen_top {n m:Nat} (h1:2^m≤n) (h2:n<2^(m+1)):bitlen n=m+1:=by
 have:=bitlen_div h1
 have h3:n/2^m=1:=by
  rw [Nat.pow_succ] at h2
  exact Nat.div_eq_of_lt_le om om
 rw [this,h3];rfl
theorem shr_u32 (x n:Nat) (hn:n≤32):shrZ .u32 (x:Int) (n:Int)=((x/2^n:Nat):Int):=by
 rw [shrZ_eq]
 have h1:min (n:Int).toNat IntKind.u32.bits=n:=by show min (n:Int).toNat 32=n;omega
 rw [h1,Int.fdiv_eq_ediv_of_nonneg _ (by exact Int.le_of_lt (Int.pow_pos om))]
 rw [Int.natCast_ediv,Int.natCast_pow];rfl
theorem and_u32_1 (x:Nat) (hx:x<4294967296):andZ .u32 (x:Int) 1=((x%2:Nat):Int):=by
 rw [andZ_eq]
 show IntKind.u32.wrap (((BitVec.ofInt 32 (x:Int)&&&BitVec.ofInt 32 1).toNat:Nat):Int)=_
 have:(BitVec.ofInt 32 (x:Int)&&&BitVec.ofInt 32 1).toNat=x%2:=by
  rw [BitVec.toNat_and]
  have e1:(BitVec.ofInt 32 (x:Int)).toNat=x:=by rw [BitVec.ofInt_natCast,BitVec.toNat_ofNat];omega
  have e2:(BitVec.ofInt 32 1).toNat=1:=rfl
  rw [e1,e2,Nat.and_one_is_mod]
 rw [this,IntKind.wrap_u32];omega
theorem bit_step {x k:Nat}:x%2^(k+1)=x%2^k+2^k*(x/2^k%2):=by
 rw [Nat.pow_succ,Nat.mod_mul]
theorem bits_some {V i x k:Nat} (hV:V<4294967296^i) (hb:x/2^k%2=1):bitlen (V+4294967296^i*(x%2^(k+1)))=32*i+k+1:=by
 have hp:(4294967296:Nat)^i=2^(32*i):=by rw [Nat.pow_mul]
 rw [bit_step,hb,Nat.mul_one]
 have hm:x%2^k<2^k:=Nat.mod_lt _ (Nat.two_pow_pos k)
 rw [hp] at hV⊢
 have e1:2^(32*i+k)=2^(32*i)*2^k:=Nat.pow_add ..
 refine bitlen_top ?_ ?_
 ·rw [e1,Nat.mul_add];omega
 ·rw [Nat.pow_succ,e1,Nat.mul_add]
  have:=Nat.mul_le_mul_left (2^(32*i)) (show x%2^k+1≤2^k from hm)
  rw [Nat.mul_add,Nat.mul_one] at this
  omega
theorem qbits_fa (xs:List Nat) (hx:∀x∈xs,x<4294967296) (hlx:xs.length≤68719476736):Fa Tryz.prog 162 [.c (ws false xs)] (.c (.int .i64 (bitlen (val xs):Nat))):=by
 refine fa_of_body Tryz.func162 rfl rfl (by simp [Tryz.ntmps162]) fun C hC=> ?_
 simp only [initS,Nat.reduceAdd]
 refine xG ?_
 refine aw_lp (fun i:Nat=>[(3,.c (.int .i64 (bitlen (val (xs.take i)):Nat))),(7,.c (ws false xs)),(8,.c (.int .i64 xs.length)),(9,.c (.int .i64 i))]) (fun _=>[]) (fun i=>i≤xs.length) (fun i=>xs.length-i) 0 eB zZ (Nat.zero_le _) ?_
 rintro i hi
 refine xG ?_
 refine xF (fun hb=>?_) fun hb=>?_
 ·have hin:i<xs.length:=dT hb
  have hxi:=getD_lt hx i
  have hvt:=val_take_lt xs hx i om
  refine xG ?_
  generalize hxx:xs.getD i 0=x at*
  refine aw_lp (fun k:Nat=>[(3,.c (.int .i64 (bitlen (val (xs.take i)+4294967296^i*(x%2^k)):Nat))),(4,.c (.int .i64 i)),(5,.c (.int .u32 x)),(7,.c (ws false xs)),(8,.c (.int .i64 xs.length)),(9,.c (.int .i64 i)),(14,.c (.int .i64 k))]) (fun _=>[]) (fun k=>k≤32) (fun k=>32-k) 0 (by refine xS ?_;and_intros<;>first|exact True.intro|rfl|(rw [Nat.pow_zero,Nat.mod_one,Nat.mul_zero,Nat.add_zero])) zZ (Nat.zero_le _) ?_
  rintro k hk
  refine xG ?_
  refine xF (fun hb=>?_) fun hb=>?_
  ·have hk':k<32:=dT hb
   have hd:x/2^k<4294967296:=Nat.lt_of_le_of_lt (Nat.div_le_self _ _) hxi
   have e1:=shr_u32 x k om
   have e2:=and_u32_1 (x/2^k) hd
   have J1:=oj e1 e2
   refine yG J1 ?_
   refine yF J1 (fun hc=>?_) fun hc=>?_
   ·have hc':x/2^k%2=1:=by have:=eq_of_beq hc;omega
    refine yG J1 ?_
    refine aw_stop ⟨k+1,by omega,(by refine yS J1 ?_;and_intros<;>first|exact True.intro|rfl|exact c_int (by rw [bits_some hvt hc'];omega)),zZ,by omega⟩
   ·have hc':x/2^k%2=0:=by
     have h1:¬(((x/2^k%2:Nat):Int)=1):=fun e=>by rw [e] at hc;cases hc
     omega
    refine yG J1 ?_
    refine aw_stop ⟨k+1,by omega,(by refine yS J1 ?_;and_intros<;>first|exact True.intro|rfl|(rw [bit_step,hc',Nat.mul_zero,Nat.add_zero])),zZ,by omega⟩
  ·have hk':k=32:=dF hb
   subst hk'
   refine xG ?_
   refine aw_stop ⟨i+1,by omega,(by refine xS ?_;and_intros<;>first|exact True.intro|rfl|(rw [val_take_succ,hxx,Nat.mod_eq_of_lt (show x<2^32 from hxi)])),zZ,by omega⟩
 ·have hin:i=xs.length:=dF hb
  subst hin
  refine xGT hC ?_
  rw [List.take_length]
  exact .one (.c (.int _ _))
theorem up_step {xs zs:List Nat} {i s c:Nat} (h:val zs+4294967296^i*c=val (xs.take i)*2^s) (hl:zs.length=i):
  val (zs++[(c+xs.getD i 0*2^s)%4294967296])+4294967296^(i+1)*((c+xs.getD i 0*2^s)/4294967296)=val (xs.take (i+1))*2^s:=by
 rw [val_append,hl,val_take_succ]
 simp only [val,Nat.mul_zero,Nat.add_zero]
 have e:=Nat.mod_add_div (c+xs.getD i 0*2^s) 4294967296
 generalize (c+xs.getD i 0*2^s)%4294967296=v at*
 generalize (c+xs.getD i 0*2^s)/4294967296=d at*
 rw [Nat.add_mul,←h,Nat.pow_succ,Nat.mul_assoc,Nat.mul_assoc,Nat.add_assoc,←Nat.mul_add,e,Nat.mul_add,Nat.add_assoc]
theorem or_carry {c x s:Nat} (hc:c<2^s):c|||x*2^s=c+x*2^s:=by
 rw [Nat.or_comm,Nat.mul_comm,←Nat.two_pow_add_eq_or_of_lt hc,Nat.add_comm]
theorem up_carry {c x s:Nat} (hc:c<2^s) (hx:x<4294967296):(c+x*2^s)/4294967296<2^s:=by
 rw [Nat.div_lt_iff_lt_mul om]
 have:=Nat.mul_le_mul_right (2^s) (show x+1≤4294967296 from hx)
 rw [Nat.add_mul,Nat.one_mul] at this
 rw [Nat.mul_comm (2^s)]
 omega
theorem up_lt {c x s:Nat} (hc:c<2^s) (hx:x<4294967296) (hs:s<32):c+x*2^s<18446744073709551616:=by
 have h1:=Nat.mul_le_mul_right (2^s) (show x+1≤4294967296 from hx)
 rw [Nat.add_mul,Nat.one_mul] at h1
 have h2:=Nat.mul_le_mul_left 4294967296 (pow_lt_32 (show s≤32 from by omega))
 omega
theorem qup_fa (xs:List Nat) (s:Nat) (hx:∀x∈xs,x<4294967296) (hlx:xs.length≤68719476736) (hs:s<32):Fa Tryz.prog 195 [.c (ws false xs),.c (.int .i64 s)] (.c (ws true (words (val xs*2^s)))):=by
 refine fa_of_body Tryz.func195 rfl rfl (by simp [Tryz.ntmps195]) fun C hC=> ?_
 simp only [initS,Nat.reduceAdd]
 refine xG ?_
 refine aw_lp (fun x:Option Nat×Nat×Nat×List Nat=>[(1,.c (.int .i64 s)),(5,.c (gs x.1 1 x.2.1)),(6,.c (.int .u64 x.2.2.1)),(9,.c (ws false xs)),(10,.c (.int .i64 xs.length)),(11,.c (.int .i64 x.2.1))]) (fun x=>gh x.1 166 x.2.1 (wf x.2.2.2))
  (fun x=>(x.1=none→x.2.1=0)∧x.2.1≤xs.length∧x.2.2.1<2^s∧x.2.2.2.length=x.2.1∧(∀y∈x.2.2.2,y<4294967296)∧val x.2.2.2+4294967296^x.2.1*x.2.2.1=val (xs.take x.2.1)*2^s) (fun x=>xs.length-x.2.1) (none,0,0,[]) eB zZ
  ⟨fun _=>rfl,Nat.zero_le _,Nat.two_pow_pos s,rfl,by simp,by simp [val]⟩ ?_
 rintro ⟨og,i,c,zs⟩ ⟨hog,hi,hc,hzl,hz,hv⟩
 dsimp only at hog hi hc hzl hz hv⊢
 have hp:=pow_lt_32 (show s≤32 from by omega)
 refine xG ?_
 refine xF (fun hb=>?_) fun hb=>?_
 ·have hin:i<xs.length:=dT hb
  have hxi:=getD_lt hx i
  have hlt:=up_lt hc hxi hs
  have e1:=shl_u64 (xs.getD i 0) s hxi om
  have e2:orZ .u64 (c:Int) ((xs.getD i 0*2^s:Nat):Int)=((c+xs.getD i 0*2^s:Nat):Int):=by
   rw [or_u64 _ _ om om,or_carry hc]
  have e3:=wrap_u32_nat (c+xs.getD i 0*2^s)
  have e4:=nat_div_32 (c+xs.getD i 0*2^s)
  have hst:=up_step (xs:=xs) hv hzl
  have hcc:=up_carry hc hxi
  have J1:=oj e1 (oj e2 (oj e3 e4))
  refine yG J1 ?_
  refine aw_push (pre:=[]) rfl rfl rfl rfl rfl rfl rfl (zE J1) (zE J1) (by rfl) om om (zE J1) om (by exact hog) (zE J1) (by rfl) (by rfl) (by first|rfl|simp only [Nat.mul_one,List.nil_append,List.cons_append]<;>rfl) (by unfold maxLen;omega) om (by exact wf_push hzl _) fun g hn_g=> ?_
  replace hn_g:=Heap.ne_of hn_g
  first|dsimp only [Heap.ne,gh] at hn_g|dsimp only [Heap.ne] at hn_g|skip
  have J2:=oj e1 (oj e2 (oj e3 (oj e4 hn_g)))
  refine ySG J2 ?_
  refine aw_stop ⟨(some g,i+1,(c+xs.getD i 0*2^s)/4294967296,zs++[(c+xs.getD i 0*2^s)%4294967296]),by dsimp only;omega,(zB J2),zZ,some_ne,by dsimp only;omega,hcc,by simp;omega,push_lt hz om,hst⟩
 ·have hin:i=xs.length:=dF hb
  subst hin
  have e3:wrapZ .u32 (c:Int)=(c:Int):=by rw [wrap_u32_nat,Nat.mod_eq_of_lt om]
  refine yG e3 ?_
  refine aw_push (pre:=[]) rfl rfl rfl rfl rfl rfl rfl (zE e3) (zE e3) (by rfl) om om (zE e3) om (by exact hog) (zE e3) (by rfl) (by rfl) (by first|rfl|simp only [Nat.mul_one,List.nil_append,List.cons_append]<;>rfl) (by unfold maxLen;omega) om (by exact wf_push hzl _) fun g hn_g=> ?_
  replace hn_g:=Heap.ne_of hn_g
  first|dsimp only [Heap.ne,gh] at hn_g|dsimp only [Heap.ne] at hn_g|skip
  have J3:=oj e3 hn_g
  refine ySG J3 ?_
  refine aw_callq (qtrim_fa (zs++[c]) (push_lt hz om) (by simp;omega)) rfl rfl rfl ⟨.c (le_gsw some_ne (by simp;omega)),trivial⟩ ?_
  refine ySGT hC J3 ?_
  rw [val_append,hzl]
  simp only [val,Nat.mul_zero,Nat.add_zero]
  rw [hv,List.take_length]
  exact .one (.c ler_ws)
theorem rgt_take {s:Nat} {xs zs:List Nat} {i:Nat} (hi:i<xs.length) (hl:zs=(rgt s xs).take i):zs++[(xs.getD i 0+xs.getD (i+1) 0*4294967296)/2^s%4294967296]=(rgt s xs).take (i+1):=by
 rw [←rgt_getD s xs i hi,hl]
 have hil:i<(rgt s xs).length:=by rw [rgt_length];exact hi
 rw [List.take_succ_eq_append_getElem hil]
 congr 2
 rw [List.getD_eq_getElem?_getD,List.getElem?_eq_getElem hil];rfl
theorem qdown_fa (xs:List Nat) (s:Nat) (hx:∀x∈xs,x<4294967296) (hlx:xs.length≤68719476736) (hs:s<32):Fa Tryz.prog 196 [.c (ws false xs),.c (.int .i64 s)] (.c (ws true (words (val xs/2^s)))):=by
 refine fa_of_body Tryz.func196 rfl rfl (by simp [Tryz.ntmps196]) fun C hC=> ?_
 simp only [initS,Nat.reduceAdd]
 refine xG ?_
 refine aw_lp (fun x:Option Nat×Nat×List Nat=>[(0,.c (ws false xs)),(1,.c (.int .i64 s)),(5,.c (gs x.1 1 x.2.1)),(7,.c (ws false xs)),(8,.c (.int .i64 xs.length)),(9,.c (.int .i64 x.2.1))]) (fun x=>gh x.1 166 x.2.1 (wf x.2.2))
  (fun x=>(x.1=none→x.2.1=0)∧x.2.1≤xs.length∧x.2.2=(rgt s xs).take x.2.1) (fun x=>xs.length-x.2.1) (none,0,[]) eB zZ
  ⟨fun _=>rfl,Nat.zero_le _,by simp⟩ ?_
 rintro ⟨og,i,zs⟩ ⟨hog,hi,hzs⟩
 dsimp only at hog hi hzs⊢
 have hzl:zs.length=i:=by rw [hzs,List.length_take,rgt_length];omega
 refine xG ?_
 refine xF (fun hb=>?_) fun hb=>?_
 ·have hin:i<xs.length:=dT hb
  have hxi:=getD_lt hx i
  have hxj:=getD_lt hx (i+1)
  refine xG ?_
  refine xC (qword_fa xs i hx) ?_
  refine xG ?_
  refine xC (qword_fa xs (i+1) hx) ?_
  have e1:=shl_u64_32 (xs.getD (i+1) 0) hxj
  have e2:=or_u64_join' (xs.getD (i+1) 0) (xs.getD i 0) hxj hxi
  have e3:=shr_u64 (xs.getD (i+1) 0*4294967296+xs.getD i 0) s om
  have e4:=wrap_u32_nat ((xs.getD (i+1) 0*4294967296+xs.getD i 0)/2^s)
  have e5:=rgt_take (s:=s) hin hzs
  rw [Nat.add_comm (xs.getD i 0)] at e5
  have J1:=oj e1 (oj e2 (oj e3 e4))
  refine yG J1 ?_
  refine aw_push (pre:=[]) rfl rfl rfl rfl rfl rfl rfl (zE J1) (zE J1) (by rfl) om om (zE J1) om (by exact hog) (zE J1) (by rfl) (by rfl) (by first|rfl|simp only [Nat.mul_one,List.nil_append,List.cons_append]<;>rfl) (by unfold maxLen;omega) om (by exact wf_push hzl _) fun g hn_g=> ?_
  replace hn_g:=Heap.ne_of hn_g
  first|dsimp only [Heap.ne,gh] at hn_g|dsimp only [Heap.ne] at hn_g|skip
  have J2:=oj e1 (oj e2 (oj e3 (oj e4 hn_g)))
  refine ySG J2 ?_
  refine aw_stop ⟨(some g,i+1,zs++[(xs.getD (i+1) 0*4294967296+xs.getD i 0)/2^s%4294967296]),by dsimp only;omega,(zB J2),zZ,some_ne,by dsimp only;omega,e5⟩
 ·have hin:i=xs.length:=dF hb
  subst hin
  rw [List.take_of_length_le (by rw [rgt_length];omega)] at hzs
  refine xG ?_
  refine aw_callq (qtrim_fa zs (by rw [hzs];exact rgt_lt s xs) om) rfl rfl rfl ⟨.c (le_gsw hog hzl),trivial⟩ ?_
  refine xSGT hC ?_
  rw [hzs,rgt_val om xs hx]
  exact .one (.c ler_ws)
end Go.Proofs.YteehccacfedolaaGreat
namespace Go.PN
theorem pow32 (k:Nat):(0:Nat)<4294967296^k:=Nat.pow_pos om
theorem ref_guess {R V rt bt D:Nat} (hR:R<(rt+1)*D) (hV:bt*D≤V) (hb:0<bt) (hV0:0<V):R/V≤rt/bt:=by
 rw [Nat.le_div_iff_mul_le hb]
 have h1:R/V*V≤R:=Nat.div_mul_le_self R V
 have h2:R/V*bt*D<(rt+1)*D:=by
  refine Nat.lt_of_le_of_lt ?_ hR
  refine Nat.le_trans ?_ h1
  rw [Nat.mul_assoc]
  exact Nat.mul_le_mul_left _ hV
 have h3:R/V*bt<rt+1:=Nat.lt_of_mul_lt_mul_right h2
 omega
theorem top_lt (xs:List Nat) (hx:∀x∈xs,x<4294967296) (n:Nat) (hl:xs.length≤n+2):val xs<(xs.getD (n+1) 0*4294967296+xs.getD n 0+1)*4294967296^n:=by
 have h1:val xs=val (xs.take (n+2)):=by rw [List.take_of_length_le hl]
 have h2:=val_take_succ xs (n+1)
 have h3:=val_take_succ xs n
 have h4:val (xs.take n)<4294967296^n:=by
  by_cases hc:n≤xs.length
  ·exact val_take_lt xs hx n hc
  ·rw [List.take_of_length_le om]
   exact Nat.lt_of_lt_of_le (val_lt xs hx) (Nat.pow_le_pow_right om om)
 rw [h1,show n+2=n+1+1 from rfl,h2,h3,Nat.pow_succ]
 generalize 4294967296^n=D at*
 generalize xs.getD (n+1) 0=a
 generalize xs.getD n 0=b
 rw [Nat.add_mul,Nat.add_mul,Nat.one_mul,Nat.mul_assoc a,Nat.mul_comm D b,Nat.mul_comm (D*4294967296) a,Nat.mul_comm D 4294967296]
 omega
theorem top_le (ys:List Nat) (n:Nat):ys.getD n 0*4294967296^n≤val (ys.take (n+1)):=by
 rw [val_take_succ,Nat.mul_comm];omega
theorem ref_next {A V m r:Nat} (hV:0<V) (hr:r=A/4294967296^(m+1)%V):(A/4294967296^m%4294967296+4294967296*r)%V=A/4294967296^m%V∧A/4294967296^m/V=(A/4294967296^m%4294967296+4294967296*r)/V+4294967296*(A/4294967296^(m+1)/V):=by
 have e:A/4294967296^(m+1)=A/4294967296^m/4294967296:=by rw [Nat.pow_succ,Nat.div_div_eq_div_mul]
 rw [e] at hr⊢
 generalize A/4294967296^m=T at*
 have h1:=Nat.div_add_mod T 4294967296
 have h2:=Nat.div_add_mod (T/4294967296) V
 rw [←hr] at h2
 generalize T/4294967296/V=q at*
 have h3:T=(T%4294967296+4294967296*r)+V*(4294967296*q):=by
  have:4294967296*(V*q+r)=4294967296*(T/4294967296):=by rw [h2]
  rw [Nat.mul_add,←Nat.mul_assoc,Nat.mul_comm 4294967296 V,Nat.mul_assoc] at this
  omega
 constructor
 ·conv=>rhs;rw [h3]
  rw [Nat.add_mul_mod_self_left]
 ·conv=>lhs;rw [h3]
  rw [Nat.add_mul_div_left _ _ hV]
theorem word_at (xs:List Nat) (hx:∀x∈xs,x<4294967296) (m:Nat):val xs/4294967296^m%4294967296=xs.getD m 0:=by
 by_cases hm:m<xs.length
 ·have h1:=val_split xs m om
  have h2:=val_take_lt xs hx m om
  rw [h1,Nat.add_mul_div_left _ _ (pow32 m),Nat.div_eq_of_lt h2,Nat.zero_add,val_drop,Nat.add_mul_mod_self_left]
  exact Nat.mod_eq_of_lt (getD_lt hx m)
 ·have h1:=Nat.lt_of_lt_of_le (val_lt xs hx) (Nat.pow_le_pow_right (show 0<4294967296 by omega) (show xs.length≤m by omega))
  rw [Nat.div_eq_of_lt h1,getD_ge om]
theorem drop_val (xs:List Nat) (hx:∀x∈xs,x<4294967296) (m:Nat) (hm:m≤xs.length):val (xs.drop m)=val xs/4294967296^m:=by
 have h1:=val_split xs m hm
 have h2:=val_take_lt xs hx m hm
 rw [h1,Nat.add_mul_div_left _ _ (pow32 m),Nat.div_eq_of_lt h2,Nat.zero_add]
theorem val_set_drop {qs:List Nat} {m v:Nat} (hm:m<qs.length):val ((qs.set m v).drop m)=v+4294967296*val (qs.drop (m+1)):=by
 rw [drop_set hm];rfl
theorem shift_len {b n s:Nat} (hl:(words b).length=n+1) (hs:(words b).getD n 0*2^s<4294967296):(words (b*2^s)).length=n+1:=by
 have hb0:b≠0:=fun e=>by rw [e,words_zero] at hl;cases hl
 have hv:=val_words b
 have h1:val ((words b).take (n+1))=b:=by rw [List.take_of_length_le om,hv]
 rw [val_take_succ] at h1
 have h2:=val_take_lt (words b) (words_lt b) n om
 have hle:b*2^s<4294967296^(n+1):=by
  have h3:b<4294967296^n*((words b).getD n 0+1):=by rw [Nat.mul_add,Nat.mul_one];omega
  have h4:b*2^s<4294967296^n*((words b).getD n 0+1)*2^s:=Nat.mul_lt_mul_of_pos_right h3 (Nat.two_pow_pos s)
  refine Nat.lt_of_lt_of_le h4 ?_
  rw [Nat.mul_assoc,Nat.pow_succ]
  refine Nat.mul_le_mul_left _ ?_
  have h5:((words b).getD n 0+1)*2^s≤4294967296:=by
   by_cases hs32:s≤32
   ·have h6:=two_pow_split hs32
    rw [h6] at hs⊢
    rw [Nat.mul_comm (2^s) (2^(32-s))] at hs⊢
    have:=Nat.lt_of_mul_lt_mul_right hs
    exact Nat.mul_le_mul_right _ this
   ·have h7:(words b).getD n 0≠0:=by
     have:=(words_plain b).resolve_left (fun e=>hb0 (words_eq_nil.1 e))
     rwa [hl] at this
    exfalso
    have h8:(2:Nat)^32≤2^s:=Nat.pow_le_pow_right om om
    have h9:=Nat.mul_le_mul (show 1≤(words b).getD n 0 by omega) h8
    omega
  exact h5
 have hge:b≤b*2^s:=Nat.le_mul_of_pos_right _ (Nat.two_pow_pos s)
 have:=words_len_mono hge
 have:=words_len_le hle
 omega
theorem and_top_zero {y:Nat} (hy:y<4294967296) (h:y&&&2147483648=0):y<2147483648:=by
 have h1:(y&&&2147483648).testBit 31=false:=by rw [h];simp
 rw [Nat.testBit_and,show(2147483648:Nat).testBit 31=true from by decide,Bool.and_true,Nat.testBit_eq_decide_div_mod_eq] at h1
 simp at h1
 omega
end Go.PN
namespace Go.Proofs.YteehccacfedolaaGreat
open Go.AI Go.PN
attribute [local irreducible] aw Fa Fh DrK
attribute [local irreducible] DrB
theorem shl_u32 (x s:Nat) (hs:s≤32):shlZ .u32 (x:Int) (s:Int)=((x*2^s%4294967296:Nat):Int):=by
 rw [shlZ_eq]
 have h1:min (s:Int).toNat IntKind.u32.bits=s:=by show min (s:Int).toNat 32=s;omega
 rw [h1,IntKind.wrap_u32,Int.natCast_emod,Int.natCast_mul,Int.natCast_pow];rfl
theorem and_u32 (x y:Nat) (hx:x<4294967296) (hy:y<4294967296):andZ .u32 (x:Int) (y:Int)=((x&&&y:Nat):Int):=by
 rw [andZ_eq]
 show IntKind.u32.wrap (((BitVec.ofInt 32 (x:Int)&&&BitVec.ofInt 32 (y:Int)).toNat:Nat):Int)=_
 have:(BitVec.ofInt 32 (x:Int)&&&BitVec.ofInt 32 (y:Int)).toNat=x&&&y:=by
  rw [BitVec.toNat_and]
  have e1:∀z:Nat,z<4294967296→(BitVec.ofInt 32 (z:Int)).toNat=z:=fun z hz=>by rw [BitVec.ofInt_natCast,BitVec.toNat_ofNat];omega
  rw [e1 x hx,e1 y hy]
 have hlt:x&&&y<4294967296:=Nat.lt_of_le_of_lt Nat.and_le_left hx
 rw [this,IntKind.wrap_u32];omega
theorem and_u32_top (x:Nat) (hx:x<4294967296):andZ .u32 (x:Int) 2147483648=((x&&&2147483648:Nat):Int):=and_u32 x 2147483648 hx om
theorem drop_f (xs:List Nat) (m j:Nat):xs.getD (m+j) 0=(xs.drop m).getD j 0:=by
 rw [List.getD_eq_getElem?_getD,List.getD_eq_getElem?_getD,List.getElem?_drop]
theorem mul_div_pow (a b s:Nat):a*2^s/(b*2^s)=a/b:=Nat.mul_div_mul_right a b (Nat.two_pow_pos s)
theorem mod_div_pow (a b s:Nat):a*2^s%(b*2^s)/2^s=a%b:=by
 rw [Nat.mul_mod_mul_right,Nat.mul_div_cancel _ (Nat.two_pow_pos s)]
theorem make_wf' (n:Nat):(fun j=>([CV.int .u32 0][j%1]?).getD .any)=wf (List.replicate n 0):=by
 funext j
 show _=CV.int .u32 ((List.replicate n 0).getD j 0:Nat)
 rw [Nat.mod_one,List.getD_eq_getElem?_getD,List.getElem?_replicate]
 split<;>rfl
theorem drop_row (xs:List Nat) (m:Nat):(CV.row true 1 (xs.length-m) fun j=>.int .u32 ((xs.getD (m+j) 0:Nat):Int))=ws true (xs.drop m):=by
 simp only [drop_f]
 show _=CV.row true 1 (xs.drop m).length _
 rw [List.length_drop]
theorem cons_f (x:Nat) (rs:List Nat):∀j,appF (ofL [.int .u32 (x:Int)]) 1 (fun j=>.int .u32 ((rs.getD j 0:Nat):Int)) j=CV.int .u32 (((x::rs).getD j 0:Nat):Int)
 |0=>rfl
 |j+1=>by simp [appF]
theorem qdiv_fa (xs ys:List Nat) (hx:∀x∈xs,x<4294967296) (hy:∀x∈ys,x<4294967296) (hlx:xs.length≤34359738368) (hly:ys.length≤34359738368) (h0:val ys≠0):
  Fa Tryz.prog 182 [.c (ws false xs),.c (ws false ys)] (.tup [.c (ws true (words (val xs/val ys))),.c (ws true (words (val xs%val ys))),.c (.int .i64 0)]):=by
 refine fa_of_body Tryz.func182 rfl rfl (by simp [Tryz.ntmps182]) fun C hC=> ?_
 simp only [initS,Nat.reduceAdd]
 refine xG ?_
 refine xC (qtrim_fa ys hy ?_) ?_
 ·omega
 generalize hb0:val ys=b at h0
 have hbl:(words b).length≤34359738368:=by rw [←hb0];exact Nat.le_trans (words_val_len ys hy) hly
 have hbw:=words_lt b
 obtain⟨n,hn⟩:∃n,(words b).length=n+1:=⟨(words b).length-1,by have:(words b).length≠0:=fun e=>h0 (words_eq_nil.1 (List.length_eq_zero_iff.1 e));omega⟩
 have htop:(words b).getD n 0≠0:=by
  have:=(words_plain b).resolve_left (fun e=>h0 (words_eq_nil.1 e))
  rwa [hn] at this
 have htl:=getD_lt hbw n
 refine xG ?_
 refine xF (fun hb=>?_) fun hb=>?_
 ·have:=eq_of_beq hb;omega
 refine xH ?_
 apply aw_skip
 apply aw_seq
 apply aw_region
 refine xH ?_
 apply aw_seq
 refine aw_cut (fun s:Nat=>[(0,.c (ws false xs)),(1,.c (ws true (words b))),(7,.c (.int .i64 ((n+1:Nat):Int))),(8,.c (.int .i64 s))]) (fun _=>[]) (fun s=>(words b).getD n 0*2^s<4294967296∧s<32) ?_ ?_
 ·as_aux_lemma=>
  apply aw_block
  have hnl:((words b).length:Int)=((n+1:Nat):Int):=by rw [hn]
  refine aw_lp (fun s:Nat=>[(0,.c (ws false xs)),(1,.c (ws true (words b))),(7,.c (.int .i64 ((n+1:Nat):Int))),(8,.c (.int .i64 s))]) (fun _=>[]) (fun s=>(words b).getD n 0*2^s<4294967296∧s<32) (fun s=>32-s) 0 (zB hnl) zZ ⟨by simpa using htl,by omega⟩ ?_
  rintro s ⟨hs1,hs2⟩
  have e1:=shl_u32 ((words b).getD n 0) s om
  rw [Nat.mod_eq_of_lt hs1] at e1
  have e2:=and_u32_top _ hs1
  have e3:(((n+1:Nat):Int)-1).toNat=n:=by omega
  have J1:=oj hnl (oj e1 (oj e2 e3))
  refine yG J1 ?_
  refine yF J1 (fun hc=>?_) fun hc=>?_
  ·have hc':(words b).getD n 0*2^s&&&2147483648=0:=by have:=eq_of_beq hc;omega
   have hlt:=and_top_zero hs1 hc'
   have hs3:s<31:=by
    rcases Nat.lt_or_ge s 31 with h|h
    ·exact h
    ·exfalso
     have h8:(2:Nat)^31≤2^s:=Nat.pow_le_pow_right om h
     have h9:=Nat.mul_le_mul (show 1≤(words b).getD n 0 by omega) h8
     omega
   refine yG J1 ?_
   refine aw_stop ⟨s+1,by omega,(zB J1),zZ,?_,by omega⟩
   rw [Nat.pow_succ,←Nat.mul_assoc];omega
  ·refine yG J1 ?_
   exact aw_stop ⟨s,(zB J1),zZ,hs1,hs2⟩
 as_aux_lemma=>
 rintro s ⟨hs1,hs2⟩
 have hVl:=shift_len hn hs1
 refine xG ?_
 refine xC (qup_fa xs s hx ?_ hs2) ?_
 ·omega
 refine xG ?_
 refine xC (qup_fa (words b) s hbw ?_ hs2) ?_
 ·omega
 rw [val_words]
 have hq1:=(mul_div_pow (val xs) b s).symm
 have hq2:=(mod_div_pow (val xs) b s).symm
 have hV0:b*2^s≠0:=Nat.mul_ne_zero h0 (Nat.pos_iff_ne_zero.1 (Nat.two_pow_pos s))
 have hAl:(words (val xs*2^s)).length≤34359738369:=by
  have h0:(words (val xs*2^s)).length≤xs.length+1:=by
   refine words_len_le ?_
   rw [Nat.pow_succ]
   have h2:2^s≤4294967296:=pow_lt_32 om
   exact Nat.lt_of_lt_of_le (Nat.mul_lt_mul_of_pos_right (val_lt xs hx) (Nat.two_pow_pos s)) (Nat.mul_le_mul_left _ h2)
  omega
 rw [hq1,hq2]
 clear hq1 hq2
 generalize hA:val xs*2^s=A at hAl⊢
 generalize hV:b*2^s=V at hVl hV0⊢
 have hn9:n≤34359738368:=by omega
 clear htop htl hbl hbw hs1 hA hV hb0 hb h0 hn
 have hVpos:0<V:=Nat.pos_of_ne_zero hV0
 have hAw:=words_lt A
 have hVw:=words_lt V
 have hVlo:4294967296^n≤V:=by have:=words_pow_le hV0;rwa [hVl] at this
 have hVhi:V<4294967296^(n+1):=by have:=words_pow_lt V;rwa [hVl] at this
 have hAhi:=words_pow_lt A
 generalize hla:(words A).length=la at hAl hAhi
 refine xH ?_
 apply aw_seq
 refine aw_drB 13 ty_mixed (by kernel_rfl) ?_
 repeat first|(refine drb_2q true rfl (fun R hR=> ?_);simp only [go_sem];(with_reducible refine hR _ _ ?_ ?_);(focus (((try simp only [inRange])<;>and_intros<;>first|exact True.intro|omega|trivial);done));clear hR R)|fail
 refine drb_new rfl (NewX.make (n:=la) (c:=la) rfl rfl rfl ty_e_ws ty_z_u32 rfl om eE eE (by rw [hla]) (by rw [hla]) om om om) (by kernel_rfl) ?_
 refine xS ?_
 refine drb_calm (CalmX.empty rfl rfl rfl ty_e_ws) ?_
 refine xS ?_
 have hmx:(if((words A).length:Int)-((n+1:Nat):Int)+1>0 then((words A).length:Int)-((n+1:Nat):Int)+1 else 0)=((la-n:Nat):Int):=by rw [hla];split<;>omega
 repeat first|(refine drb_2q true rfl (fun R hR=> ?_);simp only [go_sem,hmx];(with_reducible refine hR _ _ ?_ ?_);(focus (((try simp only [inRange])<;>and_intros<;>first|exact True.intro|omega|trivial);done));clear hR R)|fail
 refine drb_calm (CalmX.copy rfl rfl rfl ty_e_ws ty_z_u32 rfl om (zE hmx) (zE hmx) .row (by unfold maxLen;omega) om) ?_
 refine yS hmx ?_
 refine drb_nil fun γ=> ?_
 refine yS hmx ?_
 rw [make_wf' la]
 generalize γ 2=gq
 rw [drop_row]
 have hr0:=drop_val (words A) hAw (la-n) om
 rw [val_words] at hr0
 have hrV:A/4294967296^(la-n)<V:=by
  refine Nat.lt_of_lt_of_le ((Nat.div_lt_iff_lt_mul (pow32 _)).2 ?_) hVlo
  rw [←Nat.pow_add]
  exact Nat.lt_of_lt_of_le hAhi (Nat.pow_le_pow_right om om)
 have hrw:∀x∈(words A).drop (la-n),x<4294967296:=fun x hx=>hAw x (List.mem_of_mem_drop hx)
 have hrl:((words A).drop (la-n)).length≤n+1:=by rw [List.length_drop];omega
 generalize (words A).drop (la-n)=rs0 at hr0 hrw hrl⊢
 refine yG hmx ?_
 refine aw_lp (fun x:Int×Nat×List Nat×List Nat=>[(0,.c (ws true (words A))),(1,.c (ws true (words V))),(7,.c (.int .i64 ((n+1:Nat):Int))),(8,.c (.int .i64 s)),(9,.c (.osl gq 1 0 la)),(10,.c (ws true x.2.2.1)),(11,.c (.int .i64 x.1))]) (fun x=>[(gq,.cells 166 la (wf x.2.2.2))])
  (fun x=>x.2.1=(x.1+1).toNat∧x.1<34359738370∧ -34359738370<x.1∧x.2.1≤la∧val x.2.2.1=A/4294967296^x.2.1%V∧(∀y∈x.2.2.1,y<4294967296)∧x.2.2.1.length≤n+1∧x.2.2.2.length=la∧(∀y∈x.2.2.2,y<4294967296)∧val (x.2.2.2.drop x.2.1)=A/4294967296^x.2.1/V) (fun x=>x.2.1) ((la:Int)-((n+1:Nat):Int),la-n,rs0,List.replicate la 0) (zB hmx) zZ
  ⟨by dsimp only;omega,by dsimp only;omega,by dsimp only;omega,by dsimp only;omega,by dsimp only;rw [hr0,Nat.mod_eq_of_lt hrV],hrw,hrl,by simp,replicate_lt _,by dsimp only;rw [Nat.div_eq_of_lt hrV];exact val_zero fun x hx=>(List.mem_replicate.1 (List.mem_of_mem_drop hx)).2⟩ ?_
 clear hr0 hrV hrw hrl
 clear rs0
 as_aux_lemma=>
 rintro ⟨v,m,rs,qs⟩ ⟨hm,hv1,hv2,hml,hrs,hrw,hrl,hql,hqw,hqs⟩
 dsimp only at hm hv1 hv2 hml hrs hrw hrl hql hqw hqs⊢
 refine yG hmx ?_
 refine yF hmx (fun hb=>?_) fun hb=>?_
 ·have hv0:0≤v:=of_decide_eq_true hb
  obtain⟨k,rfl⟩:∃k:Nat,v=k:=⟨v.toNat,by omega⟩
  have hmk:m=k+1:=by omega
  subst hmk
  have hwk:=word_at (words A) hAw k
  rw [val_words] at hwk
  have hak:=getD_lt hAw k
  obtain⟨nx1,nx2⟩:=ref_next (A:=A) (m:=k) hVpos hrs
  rw [hwk] at nx1 nx2
  apply aw_skip
  apply aw_seq
  apply aw_block
  apply aw_seq
  have hRl:((words A).getD k 0::rs).length≤n+2:=by simp;omega
  have hRw:∀x∈(words A).getD k 0::rs,x<4294967296:=fun x hx=>by
   rcases List.mem_cons.1 hx with rfl|hx
   ·exact hak
   ·exact hrw x hx
  refine aw_cut (fun _:Unit=>[(0,.c (ws true (words A))),(1,.c (ws true (words V))),(7,.c (.int .i64 ((n+1:Nat):Int))),(8,.c (.int .i64 s)),(9,.c (.osl gq 1 0 la)),(10,.c (ws true (words ((words A).getD k 0+4294967296*val rs)))),(11,.c (.int .i64 k))]) (fun _=>[(gq,.cells 166 la (wf qs))]) (fun _=>k<la) ?_ ?_
  ·as_aux_lemma=>
   apply aw_region
   refine yH hmx ?_
   refine aw_buildSlice (xs:=[.tmp 61]) (cells:=[.int .u32 ((words A).getD k 0:Nat)]) rfl rfl rfl ty_e_ws (by rw [envP,ty_z_u32];rfl) rfl om om (by intro x hx;simp only [List.mem_singleton] at hx;subst hx;exact⟨rfl,rfl,rfl⟩) (zE hmx) fun g hg=> ?_
   replace hg:=Heap.ne_of hg
   dsimp only [Heap.ne] at hg
   have J2:=oj hmx hg
   refine yS J2 ?_
   refine yH J2 ?_
   by_cases hr0:0<rs.length
   ·refine aw_append rfl rfl rfl ty_e_ws ty_z_u32 rfl om (zE J2) (zE J2) om (zE J2) .row (fun _ _=>rfl) hr0 (by unfold maxLen;omega) om (zE J2) fun g' hg'=> ?_
    replace hg':=Heap.ne_of hg'
    dsimp only [Heap.ne] at hg'
    have J3:=oj hmx (oj hg hg')
    refine yS J3 ?_
    refine yH J3 ?_
    refine aw_callq (qtrim_fa ((words A).getD k 0::rs) hRw om) rfl rfl rfl (by refine yS J3 ?_;exact .c (lec_oslws (zE J3) om (by simp;omega) (fun j _=>by rw [Nat.zero_add];exact cons_f _ _ j))) ?_
    refine yS J3 ?_
    refine yH J3 ?_
    exact aw_stop ⟨(),(zB J3),List.Sublist.cons _ (List.Sublist.refl _),by omega⟩
   ·have hrn:rs=[]:=List.length_eq_zero_iff.1 om
    subst hrn
    refine aw_append0 rfl rfl rfl ty_e_ws (zE J2) rfl (zE J2) .row (zE J2) ?_
    refine yS J2 ?_
    refine yH J2 ?_
    refine aw_callq (qtrim_fa ((words A).getD k 0::[]) hRw om) rfl rfl rfl (by refine yS J2 ?_;exact .c (lec_oslws (zE J2) om rfl (fun j hj=>by match j,hj with|0,_=>rfl))) ?_
    refine yS J2 ?_
    refine yH J2 ?_
    exact aw_stop ⟨(),(zB J2),List.Sublist.cons _ (List.Sublist.refl _),by omega⟩
  as_aux_lemma=>
  rintro _ hkl
  have hRV:val ((words A).getD k 0::rs)<V*4294967296:=by
   simp only [val]
   rw [hrs]
   have:=Nat.mod_lt (A/4294967296^(k+1)) hVpos
   omega
  have hRv:val ((words A).getD k 0::rs)=(words A).getD k 0+4294967296*val rs:=rfl
  rw [hRv] at hRV
  generalize hR:(words A).getD k 0+4294967296*val rs=R at nx1 nx2 hRV⊢
  have hRwl:(words R).length≤n+2:=by
   rw [←hR,←hRv];exact Nat.le_trans (words_val_len _ hRw) hRl
  have hRww:=words_lt R
  have hw1:=getD_lt hRww (n+1)
  have hw2:=getD_lt hRww n
  have hw3:=getD_lt hVw n
  have hVtop:(words V).getD n 0≠0:=by
   have:=(words_plain V).resolve_left (fun e=>hV0 (words_eq_nil.1 e))
   rwa [hVl] at this
  have hg0:R/V≤((words R).getD (n+1) 0*4294967296+(words R).getD n 0)/(words V).getD n 0:=by
   refine ref_guess (D:=4294967296^n) ?_ ?_ om hVpos
   ·have:=top_lt (words R) hRww n hRwl
    rwa [val_words] at this
   ·have:=top_le (words V) n
    rwa [List.take_of_length_le om,val_words] at this
  have hg1:R/V≤4294967295:=by
   have:R/V<4294967296:=(Nat.div_lt_iff_lt_mul hVpos).2 (by rw [Nat.mul_comm];exact hRV)
   omega
  have e3:(((n+1:Nat):Int)-1)=(n:Int):=by omega
  refine yG hmx ?_
  refine yC hmx (qword_fa (words R) (n+1) hRww) ?_
  refine yG (oj hmx e3) ?_
  refine yC (oj hmx e3) (qword_fa (words R) n hRww) ?_
  as_aux_lemma=>
  have e4:=shl_u64_32 ((words R).getD (n+1) 0) hw1
  have e5:=or_u64_j32 ((words R).getD (n+1) 0) ((words R).getD n 0) hw1 hw2
  have J4:=oj hmx (oj e3 (oj e4 e5))
  refine yG J4 ?_
  as_aux_lemma=>
  refine yC J4 (qword_fa (words V) n hVw) ?_
  have hjl:j32 ((words R).getD (n+1) 0) ((words R).getD n 0)<18446744073709551616:=by unfold j32;omega
  have e6:=quo_u64 (j32 ((words R).getD (n+1) 0) ((words R).getD n 0)) ((words V).getD n 0) hjl
  replace hg0:R/V≤j32 ((words R).getD (n+1) 0) ((words R).getD n 0)/(words V).getD n 0:=hg0
  have J5:=oj hmx (oj e3 (oj e4 (oj e5 e6)))
  refine yO J5 ?_
  generalize j32 ((words R).getD (n+1) 0) ((words R).getD n 0)/(words V).getD n 0=G at hg0⊢
  have e7:(if(4294967295:Int)<(G:Int) then(4294967295:Int) else(G:Int))=((min G 4294967295:Nat):Int):=by split<;>omega
  as_aux_lemma=>
  refine yO J5 ?_
  rw [e7]
  have hgl:min G 4294967295<4294967296:=by omega
  replace hg0:R/V≤min G 4294967295:=by omega
  generalize min G 4294967295=g0 at hgl hg0⊢
  have e8:wrapZ .u32 (g0:Int)=(g0:Int):=by rw [wrap_u32_nat,Nat.mod_eq_of_lt hgl]
  as_aux_lemma=>
  have J6:=oj hmx (oj e3 (oj e4 (oj e5 (oj e6 e8))))
  refine yG J6 ?_
  as_aux_lemma=>
  refine aw_buildSlice (xs:=[.tmp 83]) (cells:=[.int .u32 (g0:Nat)]) rfl rfl rfl ty_e_ws (by rw [envP,ty_z_u32];rfl) rfl om om (by intro x hx;simp only [List.mem_singleton] at hx;subst hx;exact⟨rfl,rfl,rfl⟩) (zE J6) fun g hg=> ?_
  replace hg:=Heap.ne_of hg
  dsimp only [Heap.ne] at hg
  have J7:=oj hmx (oj e3 (oj e4 (oj e5 (oj e6 (oj e8 hg)))))
  refine ySG J7 ?_
  as_aux_lemma=>
  refine aw_callq (qmul_fa (words V) [g0] hVw (by intro x hx;simp only [List.mem_singleton] at hx;subst hx;exact hgl) om (by simp)) rfl rfl rfl (by refine yS J7 ?_;exact⟨.c (le_ws (by simp)),.c (lec_oslws (zE J7) (by simp) rfl (fun j hj=>by match j,hj with|0,_=>rfl))⟩) ?_
  rw [val_words,val_one]
  refine yS J7 ?_
  refine yH J7 ?_
  apply aw_seq
  refine aw_cut (fun _:Unit=>[(0,.c (ws true (words A))),(1,.c (ws true (words V))),(7,.c (.int .i64 ((n+1:Nat):Int))),(8,.c (.int .i64 s)),(9,.c (.osl gq 1 0 la)),(10,.c (ws true (words R))),(11,.c (.int .i64 k)),(12,.c (.int .u64 (R/V:Nat))),(13,.c (ws true (words (V*(R/V)))))]) (fun _=>[(gq,.cells 166 la (wf qs))]) (fun _=>k<la) ?_ ?_
  ·as_aux_lemma=>
   apply aw_block
   refine aw_lp (fun q:Nat=>[(0,.c (ws true (words A))),(1,.c (ws true (words V))),(7,.c (.int .i64 ((n+1:Nat):Int))),(8,.c (.int .i64 s)),(9,.c (.osl gq 1 0 la)),(10,.c (ws true (words R))),(11,.c (.int .i64 k)),(12,.c (.int .u64 q)),(13,.c (ws true (words (V*q))))]) (fun _=>[(gq,.cells 166 la (wf qs))]) (fun q=>R/V≤q∧q<4294967296) (fun q=>q) g0 (zB J7) (List.Sublist.cons _ (List.Sublist.refl _)) ⟨hg0,hgl⟩ ?_
   rintro q ⟨hq1,hq2⟩
   have hpl:(words (V*q)).length≤34359738380:=by
    have h1:=words_mul_len V q
    have h2:(words q).length≤2:=words_small om
    omega
   refine yG J7 ?_
   refine yC J7 (qcmp_fa (words (V*q)) (words R) (words_lt _) hRww ?_ ?_) ?_
   ·omega
   ·omega
   rw [val_words,val_words]
   refine yG J7 ?_
   refine yF J7 (fun hc=>?_) fun hc=>?_
   ·have hgt:R<V*q:=by
     have:=of_decide_eq_true hc
     unfold cmpN at this
     split at this
     ·omega
     ·split at this<;>omega
    have hq0:R/V<q:=(Nat.div_lt_iff_lt_mul hVpos).2 (by rw [Nat.mul_comm];exact hgt)
    have hsub:V*q-V=V*(q-1):=by rw [Nat.mul_sub,Nat.mul_one]
    have hq9:0<q:=Nat.lt_of_le_of_lt (Nat.zero_le _) hq0
    have hge:V≤V*q:=Nat.le_mul_of_pos_right _ hq9
    have e9:((q:Int)-1)=((q-1:Nat):Int):=by omega
    have J8:=oj hmx (oj e3 (oj e4 (oj e5 (oj e6 (oj e8 (oj hg e9))))))
    refine yG J8 ?_
    refine yC J8 (qsub_fa (words (V*q)) (words V) (words_lt _) hVw ?_ ?_ ?_) ?_
    ·omega
    ·omega
    ·rw [val_words,val_words];exact hge
    rw [val_words,val_words,hsub]
    refine yG J8 ?_
    exact aw_stop ⟨q-1,by omega,(zB J8),zZ,Nat.le_sub_one_of_lt hq0,by omega⟩
   ·have hle:V*q≤R:=by
     have:=of_decide_eq_false hc
     unfold cmpN at this
     split at this
     ·omega
     ·split at this<;>omega
    have hqe:q=R/V:=Nat.le_antisymm ((Nat.le_div_iff_mul_le hVpos).2 (by rw [Nat.mul_comm];exact hle)) hq1
    subst hqe
    refine yG J7 ?_
    exact aw_stop ⟨(),(zB J7),zZ,hkl⟩
  as_aux_lemma=>
  rintro _ _
  have hmd:=Nat.div_add_mod R V
  have hml2:=Nat.mod_lt R hVpos
  have hpl:(words (V*(R/V))).length≤n+2:=Nat.le_trans (words_len_mono (Nat.mul_div_le R V)) hRwl
  refine yG J7 ?_
  refine yC J7 (qsub_fa (words R) (words (V*(R/V))) hRww (words_lt _) ?_ ?_ ?_) ?_
  ·omega
  ·omega
  ·rw [val_words,val_words];omega
  rw [val_words,val_words,show R-V*(R/V)=R%V from by omega]
  have e8:wrapZ .u32 ((R/V:Nat):Int)=((R/V:Nat):Int):=by rw [wrap_u32_nat,Nat.mod_eq_of_lt om]
  have J9:=oj hmx (oj e3 (oj e4 (oj e5 (oj e6 (oj e8 (oj hg e8))))))
  refine yG J9 ?_
  refine yW J9 ?_
  refine yS J9 ?_
  rw [updF_wf om]
  refine yG J9 ?_
  have hrm:(words (R%V)).length≤n+1:=words_len_le (Nat.lt_trans hml2 hVhi)
  refine aw_stop ⟨((k:Int)-1,k,words (R%V),qs.set k (R/V)),by dsimp only;omega,(zB J9),zZ,by dsimp only;omega,by dsimp only;omega,by dsimp only;omega,by dsimp only;omega,by dsimp only;rw [val_words,nx1],words_lt _,hrm,by simpa using hql,set_lt hqw om,?_⟩
  dsimp only
  rw [val_set_drop om,hqs,nx2]
 ·have hm0:m=0:=dF hb
  subst hm0
  rw [List.drop_zero,Nat.pow_zero,Nat.div_one] at hqs
  rw [Nat.pow_zero,Nat.div_one] at hrs
  refine yG hmx ?_
  refine aw_callq (qtrim_fa qs hqw om) rfl rfl rfl (by refine yS hmx ?_;exact .c (lec_oslws (zE hmx) om om (fun j _=>by rw [Nat.zero_add];rfl))) ?_
  refine ySG hmx ?_
  refine yC hmx (qdown_fa rs s hrw ?_ hs2) ?_
  ·omega
  refine yGT hC hmx ?_
  rw [hqs,hrs]
  exact .tup ⟨.c ler_ws,.c ler_ws,.c (.int _ _),trivial⟩
theorem qgcd_fa (xs ys:List Nat) (hx:∀x∈xs,x<4294967296) (hy:∀x∈ys,x<4294967296) (hlx:xs.length≤34359738368) (hly:ys.length≤34359738368):
  Fa Tryz.prog 163 [.c (ws false xs),.c (ws false ys)] (.c (ws true (words (Nat.gcd (val xs) (val ys))))):=by
 refine fa_of_body Tryz.func163 rfl rfl (by simp [Tryz.ntmps163]) fun C hC=> ?_
 simp only [initS,Nat.reduceAdd]
 refine xG ?_
 refine xC (qtrim_fa xs hx ?_) ?_
 ·omega
 refine xG ?_
 refine xC (qtrim_fa ys hy ?_) ?_
 ·omega
 have hla:(words (val xs)).length≤34359738368:=Nat.le_trans (words_val_len xs hx) hlx
 have hlb:(words (val ys)).length≤34359738368:=Nat.le_trans (words_val_len ys hy) hly
 refine xI ?_
 apply aw_block
 refine aw_lp (fun x:Nat×Nat=>[(0,.c (ws true (words x.1))),(1,.c (ws true (words x.2)))]) (fun _=>[]) (fun x=>(words x.1).length≤34359738368∧(words x.2).length≤34359738368∧Nat.gcd x.1 x.2=Nat.gcd (val xs) (val ys)) (fun x=>x.2) (val xs,val ys) eB zZ ⟨hla,hlb,rfl⟩ ?_
 rintro ⟨a,b⟩ ⟨hla,hlb,hg⟩
 dsimp only at hla hlb hg⊢
 refine xG ?_
 refine xF (fun hb=>?_) fun hb=>?_
 ·have hb0:b≠0:=fun e=>by have:=of_decide_eq_true hb;rw [e,words_zero] at this;simp at this
  refine xG ?_
  refine xC (qdiv_fa (words a) (words b) (words_lt a) (words_lt b) hla hlb ?_) ?_
  ·rw [val_words];exact hb0
  rw [val_words,val_words]
  refine xG ?_
  have hlt:a%b<b:=Nat.mod_lt _ (Nat.pos_of_ne_zero hb0)
  refine aw_stop ⟨(b,a%b),hlt,eB,zZ,hlb,Nat.le_trans (words_len_mono (Nat.le_of_lt hlt)) hlb,?_⟩
  dsimp only
  rw [←hg,Nat.gcd_comm a b,Nat.gcd_rec b a,Nat.gcd_comm]
 ·have hb0:b=0:=by
   have:=of_decide_eq_false hb
   exact words_eq_nil.1 (List.length_eq_zero_iff.1 om)
  subst hb0
  refine xGT hC ?_
  rw [←hg,Nat.gcd_zero_right]
  exact .one (.c ler_ws)
end Go.Proofs.YteehccacfedolaaGreat
