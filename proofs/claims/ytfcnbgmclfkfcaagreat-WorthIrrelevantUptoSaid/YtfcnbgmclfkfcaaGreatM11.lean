/- Parts of one proof, laid by a program. -/
import Derived.Test.YtfcnbgmclfkfcaaGreatM00
import Derived.Test.YtfcnbgmclfkfcaaGreatM10
import Derived.Test.YtfcnbgmclfkfcaaGreatProg
import Derived.KernelRfl
set_option linter.unusedSimpArgs false
set_option linter.unusedVariables false
namespace Go.Proofs.YtfcnbgmclfkfcaaGreat
open Go.AI
@[go_sem] theorem tya_s_2:tSz Tryz.prog 2=some (false,1):=by kernel_rfl
@[go_sem] theorem tya_zi_2:tZI Tryz.prog 2=some (.i64,0):=by kernel_rfl
@[go_sem] theorem tya_i_2:tInt Tryz.prog 2=some .i64:=by kernel_rfl
@[go_sem] theorem tya_z_2:tZero Tryz.prog 2=some [.int .i64 0]:=by kernel_rfl
@[go_sem] theorem tya_s_3:tSz Tryz.prog 3=some (false,1):=by kernel_rfl
@[go_sem] theorem tya_zi_3:tZI Tryz.prog 3=some (.i64,0):=by kernel_rfl
@[go_sem] theorem tya_i_3:tInt Tryz.prog 3=some .i64:=by kernel_rfl
@[go_sem] theorem tya_z_3:tZero Tryz.prog 3=some [.int .i64 0]:=by kernel_rfl
@[go_sem] theorem tya_s_4:tSz Tryz.prog 4=some (false,1):=by kernel_rfl
@[go_sem] theorem tya_b_4:tBool Tryz.prog 4=true:=by kernel_rfl
@[go_sem] theorem tya_z_4:tZero Tryz.prog 4=some [.bool false]:=by kernel_rfl
@[go_sem] theorem tya_s_5:tSz Tryz.prog 5=some (false,1):=by kernel_rfl
@[go_sem] theorem tya_zi_5:tZI Tryz.prog 5=some (.u8,0):=by kernel_rfl
@[go_sem] theorem tya_i_5:tInt Tryz.prog 5=some .u8:=by kernel_rfl
@[go_sem] theorem tya_z_5:tZero Tryz.prog 5=some [.int .u8 0]:=by kernel_rfl
@[go_sem] theorem tya_s_6:tSz Tryz.prog 6=some (false,1):=by kernel_rfl
@[go_sem] theorem tya_zi_6:tZI Tryz.prog 6=some (.u8,0):=by kernel_rfl
@[go_sem] theorem tya_i_6:tInt Tryz.prog 6=some .u8:=by kernel_rfl
@[go_sem] theorem tya_z_6:tZero Tryz.prog 6=some [.int .u8 0]:=by kernel_rfl
@[go_sem] theorem tya_s_7:tSz Tryz.prog 7=some (true,4):=by kernel_rfl
@[go_sem] theorem tya_fl_7:tFlds Tryz.prog 7=some [(0,1),(1,1),(2,1),(3,1)]:=by kernel_rfl
@[go_sem] theorem tya_f0_7:tFld Tryz.prog 7 0=some 0:=by kernel_rfl
@[go_sem] theorem tya_f1_7:tFld Tryz.prog 7 1=some 1:=by kernel_rfl
@[go_sem] theorem tya_f2_7:tFld Tryz.prog 7 2=some 2:=by kernel_rfl
@[go_sem] theorem tya_f3_7:tFld Tryz.prog 7 3=some 3:=by kernel_rfl
@[go_sem] theorem tya_z_7:tZero Tryz.prog 7=some [.int .i64 0,.int .i64 0,.bool false,.int .u8 0]:=by kernel_rfl
@[go_sem] theorem tya_s_8:tSz Tryz.prog 8=some (true,4):=by kernel_rfl
@[go_sem] theorem tya_fl_8:tFlds Tryz.prog 8=some [(0,1),(1,1),(2,1),(3,1)]:=by kernel_rfl
@[go_sem] theorem tya_f0_8:tFld Tryz.prog 8 0=some 0:=by kernel_rfl
@[go_sem] theorem tya_f1_8:tFld Tryz.prog 8 1=some 1:=by kernel_rfl
@[go_sem] theorem tya_f2_8:tFld Tryz.prog 8 2=some 2:=by kernel_rfl
@[go_sem] theorem tya_f3_8:tFld Tryz.prog 8 3=some 3:=by kernel_rfl
@[go_sem] theorem tya_z_8:tZero Tryz.prog 8=some [.int .i64 0,.int .i64 0,.bool false,.int .u8 0]:=by kernel_rfl
@[go_sem] theorem tya_s_9:tSz Tryz.prog 9=some (false,1):=by kernel_rfl
@[go_sem] theorem tya_z_9:tZero Tryz.prog 9=some [.str ⟨#[]⟩]:=by kernel_rfl
@[go_sem] theorem tya_s_10:tSz Tryz.prog 10=some (false,1):=by kernel_rfl
@[go_sem] theorem tya_z_10:tZero Tryz.prog 10=some [.str ⟨#[]⟩]:=by kernel_rfl
@[go_sem] theorem tya_s_11:tSz Tryz.prog 11=some (false,1):=by kernel_rfl
@[go_sem] theorem tya_z_11:tZero Tryz.prog 11=some [.str ⟨#[]⟩]:=by kernel_rfl
@[go_sem] theorem tya_s_12:tSz Tryz.prog 12=some (false,1):=by kernel_rfl
@[go_sem] theorem tya_zi_12:tZI Tryz.prog 12=some (.u64,0):=by kernel_rfl
@[go_sem] theorem tya_i_12:tInt Tryz.prog 12=some .u64:=by kernel_rfl
@[go_sem] theorem tya_z_12:tZero Tryz.prog 12=some [.int .u64 0]:=by kernel_rfl
@[go_sem] theorem tya_s_13:tSz Tryz.prog 13=some (true,2):=by kernel_rfl
@[go_sem] theorem tya_fl_13:tFlds Tryz.prog 13=some [(0,1),(1,1)]:=by kernel_rfl
@[go_sem] theorem tya_f0_13:tFld Tryz.prog 13 0=some 0:=by kernel_rfl
@[go_sem] theorem tya_f1_13:tFld Tryz.prog 13 1=some 1:=by kernel_rfl
@[go_sem] theorem tya_z_13:tZero Tryz.prog 13=some [.str ⟨#[]⟩,.int .u64 0]:=by kernel_rfl
@[go_sem] theorem tya_s_14:tSz Tryz.prog 14=some (true,2):=by kernel_rfl
@[go_sem] theorem tya_fl_14:tFlds Tryz.prog 14=some [(0,1),(1,1)]:=by kernel_rfl
@[go_sem] theorem tya_f0_14:tFld Tryz.prog 14 0=some 0:=by kernel_rfl
@[go_sem] theorem tya_f1_14:tFld Tryz.prog 14 1=some 1:=by kernel_rfl
@[go_sem] theorem tya_z_14:tZero Tryz.prog 14=some [.str ⟨#[]⟩,.int .u64 0]:=by kernel_rfl
@[go_sem] theorem tya_s_15:tSz Tryz.prog 15=some (false,1):=by kernel_rfl
@[go_sem] theorem tya_z_15:tZero Tryz.prog 15=some [.raw (.pointer none)]:=by kernel_rfl
@[go_sem] theorem tya_s_16:tSz Tryz.prog 16=some (false,1):=by kernel_rfl
@[go_sem] theorem tya_z_16:tZero Tryz.prog 16=some [.raw (.pointer none)]:=by kernel_rfl
@[go_sem] theorem tya_s_17:tSz Tryz.prog 17=some (false,1):=by kernel_rfl
@[go_sem] theorem tya_z_17:tZero Tryz.prog 17=some [.raw (.pointer none)]:=by kernel_rfl
@[go_sem] theorem tya_s_18:tSz Tryz.prog 18=some (true,1):=by kernel_rfl
@[go_sem] theorem tya_fl_18:tFlds Tryz.prog 18=some [(0,1)]:=by kernel_rfl
@[go_sem] theorem tya_f0_18:tFld Tryz.prog 18 0=some 0:=by kernel_rfl
@[go_sem] theorem tya_z_18:tZero Tryz.prog 18=some [.raw (.pointer none)]:=by kernel_rfl
@[go_sem] theorem tya_s_19:tSz Tryz.prog 19=some (true,1):=by kernel_rfl
@[go_sem] theorem tya_fl_19:tFlds Tryz.prog 19=some [(0,1)]:=by kernel_rfl
@[go_sem] theorem tya_f0_19:tFld Tryz.prog 19 0=some 0:=by kernel_rfl
@[go_sem] theorem tya_z_19:tZero Tryz.prog 19=some [.raw (.pointer none)]:=by kernel_rfl
@[go_sem] theorem tya_s_20:tSz Tryz.prog 20=some (false,1):=by kernel_rfl
@[go_sem] theorem tya_c_20:tIfc Tryz.prog 20=true:=by kernel_rfl
@[go_sem] theorem tya_z_20:tZero Tryz.prog 20=some [.nilI]:=by kernel_rfl
@[go_sem] theorem tya_s_21:tSz Tryz.prog 21=some (false,1):=by kernel_rfl
@[go_sem] theorem tya_zi_21:tZI Tryz.prog 21=some (.i32,0):=by kernel_rfl
@[go_sem] theorem tya_i_21:tInt Tryz.prog 21=some .i32:=by kernel_rfl
@[go_sem] theorem tya_z_21:tZero Tryz.prog 21=some [.int .i32 0]:=by kernel_rfl
@[go_sem] theorem tya_e_22:tElem Tryz.prog 22=some (106,3,40):=by kernel_rfl
@[go_sem] theorem tya_s_22:tSz Tryz.prog 22=some (false,1):=by kernel_rfl
@[go_sem] theorem tya_z_22:tZero Tryz.prog 22=some [.nils]:=by kernel_rfl
@[go_sem] theorem tya_s_23:tSz Tryz.prog 23=some (true,3):=by kernel_rfl
@[go_sem] theorem tya_fl_23:tFlds Tryz.prog 23=some [(0,1),(1,1),(2,1)]:=by kernel_rfl
@[go_sem] theorem tya_f0_23:tFld Tryz.prog 23 0=some 0:=by kernel_rfl
@[go_sem] theorem tya_f1_23:tFld Tryz.prog 23 1=some 1:=by kernel_rfl
@[go_sem] theorem tya_f2_23:tFld Tryz.prog 23 2=some 2:=by kernel_rfl
@[go_sem] theorem tya_z_23:tZero Tryz.prog 23=some [.int .i64 0,.nils,.int .i64 0]:=by kernel_rfl
@[go_sem] theorem tya_s_24:tSz Tryz.prog 24=some (true,3):=by kernel_rfl
@[go_sem] theorem tya_fl_24:tFlds Tryz.prog 24=some [(0,1),(1,1),(2,1)]:=by kernel_rfl
@[go_sem] theorem tya_f0_24:tFld Tryz.prog 24 0=some 0:=by kernel_rfl
@[go_sem] theorem tya_f1_24:tFld Tryz.prog 24 1=some 1:=by kernel_rfl
@[go_sem] theorem tya_f2_24:tFld Tryz.prog 24 2=some 2:=by kernel_rfl
@[go_sem] theorem tya_z_24:tZero Tryz.prog 24=some [.int .i64 0,.nils,.int .i64 0]:=by kernel_rfl
@[go_sem] theorem tya_e_25:tElem Tryz.prog 25=some (30,3,56):=by kernel_rfl
@[go_sem] theorem tya_s_25:tSz Tryz.prog 25=some (false,1):=by kernel_rfl
@[go_sem] theorem tya_z_25:tZero Tryz.prog 25=some [.nils]:=by kernel_rfl
@[go_sem] theorem tya_e_28:tElem Tryz.prog 28=some (130,1,4):=by kernel_rfl
@[go_sem] theorem tya_s_28:tSz Tryz.prog 28=some (false,1):=by kernel_rfl
@[go_sem] theorem tya_z_28:tZero Tryz.prog 28=some [.nils]:=by kernel_rfl
@[go_sem] theorem tya_s_29:tSz Tryz.prog 29=some (true,3):=by kernel_rfl
@[go_sem] theorem tya_fl_29:tFlds Tryz.prog 29=some [(0,1),(1,1),(2,1)]:=by kernel_rfl
@[go_sem] theorem tya_f0_29:tFld Tryz.prog 29 0=some 0:=by kernel_rfl
@[go_sem] theorem tya_f1_29:tFld Tryz.prog 29 1=some 1:=by kernel_rfl
@[go_sem] theorem tya_f2_29:tFld Tryz.prog 29 2=some 2:=by kernel_rfl
@[go_sem] theorem tya_z_29:tZero Tryz.prog 29=some [.bool false,.nils,.nils]:=by kernel_rfl
@[go_sem] theorem tya_s_30:tSz Tryz.prog 30=some (true,3):=by kernel_rfl
@[go_sem] theorem tya_fl_30:tFlds Tryz.prog 30=some [(0,1),(1,1),(2,1)]:=by kernel_rfl
@[go_sem] theorem tya_f0_30:tFld Tryz.prog 30 0=some 0:=by kernel_rfl
@[go_sem] theorem tya_f1_30:tFld Tryz.prog 30 1=some 1:=by kernel_rfl
@[go_sem] theorem tya_f2_30:tFld Tryz.prog 30 2=some 2:=by kernel_rfl
@[go_sem] theorem tya_z_30:tZero Tryz.prog 30=some [.bool false,.nils,.nils]:=by kernel_rfl
@[go_sem] theorem tya_s_31:tSz Tryz.prog 31=some (false,1):=by kernel_rfl
@[go_sem] theorem tya_c_31:tIfc Tryz.prog 31=true:=by kernel_rfl
@[go_sem] theorem tya_z_31:tZero Tryz.prog 31=some [.nilI]:=by kernel_rfl
@[go_sem] theorem tya_s_32:tSz Tryz.prog 32=some (false,1):=by kernel_rfl
@[go_sem] theorem tya_c_32:tIfc Tryz.prog 32=true:=by kernel_rfl
@[go_sem] theorem tya_z_32:tZero Tryz.prog 32=some [.nilI]:=by kernel_rfl
@[go_sem] theorem tya_s_51:tSz Tryz.prog 51=some (false,1):=by kernel_rfl
@[go_sem] theorem tya_zi_51:tZI Tryz.prog 51=some (.i64,0):=by kernel_rfl
@[go_sem] theorem tya_i_51:tInt Tryz.prog 51=some .i64:=by kernel_rfl
@[go_sem] theorem tya_z_51:tZero Tryz.prog 51=some [.int .i64 0]:=by kernel_rfl
@[go_sem] theorem tya_e_52:tElem Tryz.prog 52=some (3,1,8):=by kernel_rfl
@[go_sem] theorem tya_s_52:tSz Tryz.prog 52=some (false,1):=by kernel_rfl
@[go_sem] theorem tya_z_52:tZero Tryz.prog 52=some [.nils]:=by kernel_rfl
@[go_sem] theorem tya_e_53:tElem Tryz.prog 53=some (145,3,24):=by kernel_rfl
@[go_sem] theorem tya_s_53:tSz Tryz.prog 53=some (false,1):=by kernel_rfl
@[go_sem] theorem tya_z_53:tZero Tryz.prog 53=some [.nils]:=by kernel_rfl
@[go_sem] theorem tya_s_54:tSz Tryz.prog 54=some (true,3):=by kernel_rfl
@[go_sem] theorem tya_fl_54:tFlds Tryz.prog 54=some [(0,1),(1,1),(2,1)]:=by kernel_rfl
@[go_sem] theorem tya_f0_54:tFld Tryz.prog 54 0=some 0:=by kernel_rfl
@[go_sem] theorem tya_f1_54:tFld Tryz.prog 54 1=some 1:=by kernel_rfl
@[go_sem] theorem tya_f2_54:tFld Tryz.prog 54 2=some 2:=by kernel_rfl
@[go_sem] theorem tya_z_54:tZero Tryz.prog 54=some [.nils,.nils,.int .i64 0]:=by kernel_rfl
@[go_sem] theorem tya_s_55:tSz Tryz.prog 55=some (true,3):=by kernel_rfl
@[go_sem] theorem tya_fl_55:tFlds Tryz.prog 55=some [(0,1),(1,1),(2,1)]:=by kernel_rfl
@[go_sem] theorem tya_f0_55:tFld Tryz.prog 55 0=some 0:=by kernel_rfl
@[go_sem] theorem tya_f1_55:tFld Tryz.prog 55 1=some 1:=by kernel_rfl
@[go_sem] theorem tya_f2_55:tFld Tryz.prog 55 2=some 2:=by kernel_rfl
@[go_sem] theorem tya_z_55:tZero Tryz.prog 55=some [.nils,.nils,.int .i64 0]:=by kernel_rfl
@[go_sem] theorem tya_s_71:tSz Tryz.prog 71=some (false,1):=by kernel_rfl
@[go_sem] theorem tya_z_71:tZero Tryz.prog 71=some [.raw (.pointer none)]:=by kernel_rfl
@[go_sem] theorem tya_s_75:tSz Tryz.prog 75=some (true,11):=by kernel_rfl
@[go_sem] theorem tya_fl_75:tFlds Tryz.prog 75=some [(0,3),(3,1),(4,1),(5,3),(8,3)]:=by kernel_rfl
@[go_sem] theorem tya_f0_75:tFld Tryz.prog 75 0=some 0:=by kernel_rfl
@[go_sem] theorem tya_f1_75:tFld Tryz.prog 75 1=some 3:=by kernel_rfl
@[go_sem] theorem tya_f2_75:tFld Tryz.prog 75 2=some 4:=by kernel_rfl
@[go_sem] theorem tya_f3_75:tFld Tryz.prog 75 3=some 5:=by kernel_rfl
@[go_sem] theorem tya_f4_75:tFld Tryz.prog 75 4=some 8:=by kernel_rfl
@[go_sem] theorem tya_z_75:tZero Tryz.prog 75=some [.int .i64 0,.nils,.int .i64 0,.nils,.nils,.nils,.nils,.int .i64 0,.bool false,.nils,.nils]:=by kernel_rfl
@[go_sem] theorem tya_s_76:tSz Tryz.prog 76=some (true,11):=by kernel_rfl
@[go_sem] theorem tya_fl_76:tFlds Tryz.prog 76=some [(0,3),(3,1),(4,1),(5,3),(8,3)]:=by kernel_rfl
@[go_sem] theorem tya_f0_76:tFld Tryz.prog 76 0=some 0:=by kernel_rfl
@[go_sem] theorem tya_f1_76:tFld Tryz.prog 76 1=some 3:=by kernel_rfl
@[go_sem] theorem tya_f2_76:tFld Tryz.prog 76 2=some 4:=by kernel_rfl
@[go_sem] theorem tya_f3_76:tFld Tryz.prog 76 3=some 5:=by kernel_rfl
@[go_sem] theorem tya_f4_76:tFld Tryz.prog 76 4=some 8:=by kernel_rfl
@[go_sem] theorem tya_z_76:tZero Tryz.prog 76=some [.int .i64 0,.nils,.int .i64 0,.nils,.nils,.nils,.nils,.int .i64 0,.bool false,.nils,.nils]:=by kernel_rfl
@[go_sem] theorem tya_s_88:tSz Tryz.prog 88=some (false,1):=by kernel_rfl
@[go_sem] theorem tya_z_88:tZero Tryz.prog 88=some [.raw (.pointer none)]:=by kernel_rfl
@[go_sem] theorem tya_e_94:tElem Tryz.prog 94=some (4,1,1):=by kernel_rfl
@[go_sem] theorem tya_s_94:tSz Tryz.prog 94=some (false,1):=by kernel_rfl
@[go_sem] theorem tya_z_94:tZero Tryz.prog 94=some [.nils]:=by kernel_rfl
@[go_sem] theorem tya_s_105:tSz Tryz.prog 105=some (true,3):=by kernel_rfl
@[go_sem] theorem tya_fl_105:tFlds Tryz.prog 105=some [(0,1),(1,1),(2,1)]:=by kernel_rfl
@[go_sem] theorem tya_f0_105:tFld Tryz.prog 105 0=some 0:=by kernel_rfl
@[go_sem] theorem tya_f1_105:tFld Tryz.prog 105 1=some 1:=by kernel_rfl
@[go_sem] theorem tya_f2_105:tFld Tryz.prog 105 2=some 2:=by kernel_rfl
@[go_sem] theorem tya_z_105:tZero Tryz.prog 105=some [.int .i64 0,.int .i64 0,.nils]:=by kernel_rfl
@[go_sem] theorem tya_s_106:tSz Tryz.prog 106=some (true,3):=by kernel_rfl
@[go_sem] theorem tya_fl_106:tFlds Tryz.prog 106=some [(0,1),(1,1),(2,1)]:=by kernel_rfl
@[go_sem] theorem tya_f0_106:tFld Tryz.prog 106 0=some 0:=by kernel_rfl
@[go_sem] theorem tya_f1_106:tFld Tryz.prog 106 1=some 1:=by kernel_rfl
@[go_sem] theorem tya_f2_106:tFld Tryz.prog 106 2=some 2:=by kernel_rfl
@[go_sem] theorem tya_z_106:tZero Tryz.prog 106=some [.int .i64 0,.int .i64 0,.nils]:=by kernel_rfl
@[go_sem] theorem tya_s_130:tSz Tryz.prog 130=some (false,1):=by kernel_rfl
@[go_sem] theorem tya_zi_130:tZI Tryz.prog 130=some (.u32,0):=by kernel_rfl
@[go_sem] theorem tya_i_130:tInt Tryz.prog 130=some .u32:=by kernel_rfl
@[go_sem] theorem tya_z_130:tZero Tryz.prog 130=some [.int .u32 0]:=by kernel_rfl
@[go_sem] theorem tya_s_132:tSz Tryz.prog 132=some (true,2):=by kernel_rfl
@[go_sem] theorem tya_fl_132:tFlds Tryz.prog 132=some [(0,1),(1,1)]:=by kernel_rfl
@[go_sem] theorem tya_f0_132:tFld Tryz.prog 132 0=some 0:=by kernel_rfl
@[go_sem] theorem tya_f1_132:tFld Tryz.prog 132 1=some 1:=by kernel_rfl
@[go_sem] theorem tya_z_132:tZero Tryz.prog 132=some [.nils,.int .i64 0]:=by kernel_rfl
@[go_sem] theorem tya_s_133:tSz Tryz.prog 133=some (true,2):=by kernel_rfl
@[go_sem] theorem tya_fl_133:tFlds Tryz.prog 133=some [(0,1),(1,1)]:=by kernel_rfl
@[go_sem] theorem tya_f0_133:tFld Tryz.prog 133 0=some 0:=by kernel_rfl
@[go_sem] theorem tya_f1_133:tFld Tryz.prog 133 1=some 1:=by kernel_rfl
@[go_sem] theorem tya_z_133:tZero Tryz.prog 133=some [.nils,.int .i64 0]:=by kernel_rfl
@[go_sem] theorem tya_s_137:tSz Tryz.prog 137=some (false,1):=by kernel_rfl
@[go_sem] theorem tya_z_137:tZero Tryz.prog 137=some [.raw (.map none)]:=by kernel_rfl
@[go_sem] theorem tya_s_138:tSz Tryz.prog 138=some (false,1):=by kernel_rfl
@[go_sem] theorem tya_z_138:tZero Tryz.prog 138=some [.raw (.map none)]:=by kernel_rfl
@[go_sem] theorem tya_s_139:tSz Tryz.prog 139=some (true,5):=by kernel_rfl
@[go_sem] theorem tya_fl_139:tFlds Tryz.prog 139=some [(0,1),(1,1),(2,1),(3,1),(4,1)]:=by kernel_rfl
@[go_sem] theorem tya_f0_139:tFld Tryz.prog 139 0=some 0:=by kernel_rfl
@[go_sem] theorem tya_f1_139:tFld Tryz.prog 139 1=some 1:=by kernel_rfl
@[go_sem] theorem tya_f2_139:tFld Tryz.prog 139 2=some 2:=by kernel_rfl
@[go_sem] theorem tya_f3_139:tFld Tryz.prog 139 3=some 3:=by kernel_rfl
@[go_sem] theorem tya_f4_139:tFld Tryz.prog 139 4=some 4:=by kernel_rfl
@[go_sem] theorem tya_z_139:tZero Tryz.prog 139=some [.nils,.nils,.nils,.raw (.map none),.raw (.map none)]:=by kernel_rfl
@[go_sem] theorem tya_s_140:tSz Tryz.prog 140=some (true,5):=by kernel_rfl
@[go_sem] theorem tya_fl_140:tFlds Tryz.prog 140=some [(0,1),(1,1),(2,1),(3,1),(4,1)]:=by kernel_rfl
@[go_sem] theorem tya_f0_140:tFld Tryz.prog 140 0=some 0:=by kernel_rfl
@[go_sem] theorem tya_f1_140:tFld Tryz.prog 140 1=some 1:=by kernel_rfl
@[go_sem] theorem tya_f2_140:tFld Tryz.prog 140 2=some 2:=by kernel_rfl
@[go_sem] theorem tya_f3_140:tFld Tryz.prog 140 3=some 3:=by kernel_rfl
@[go_sem] theorem tya_f4_140:tFld Tryz.prog 140 4=some 4:=by kernel_rfl
@[go_sem] theorem tya_z_140:tZero Tryz.prog 140=some [.nils,.nils,.nils,.raw (.map none),.raw (.map none)]:=by kernel_rfl
@[go_sem] theorem tya_s_142:tSz Tryz.prog 142=some (false,1):=by kernel_rfl
@[go_sem] theorem tya_z_142:tZero Tryz.prog 142=some [.raw (.map none)]:=by kernel_rfl
@[go_sem] theorem tya_s_144:tSz Tryz.prog 144=some (true,3):=by kernel_rfl
@[go_sem] theorem tya_fl_144:tFlds Tryz.prog 144=some [(0,1),(1,1),(2,1)]:=by kernel_rfl
@[go_sem] theorem tya_f0_144:tFld Tryz.prog 144 0=some 0:=by kernel_rfl
@[go_sem] theorem tya_f1_144:tFld Tryz.prog 144 1=some 1:=by kernel_rfl
@[go_sem] theorem tya_f2_144:tFld Tryz.prog 144 2=some 2:=by kernel_rfl
@[go_sem] theorem tya_q_144:tEqS Tryz.prog 144=some 3:=by kernel_rfl
@[go_sem] theorem tya_z_144:tZero Tryz.prog 144=some [.int .i64 0,.int .i64 0,.int .i64 0]:=by kernel_rfl
@[go_sem] theorem tya_s_145:tSz Tryz.prog 145=some (true,3):=by kernel_rfl
@[go_sem] theorem tya_fl_145:tFlds Tryz.prog 145=some [(0,1),(1,1),(2,1)]:=by kernel_rfl
@[go_sem] theorem tya_f0_145:tFld Tryz.prog 145 0=some 0:=by kernel_rfl
@[go_sem] theorem tya_f1_145:tFld Tryz.prog 145 1=some 1:=by kernel_rfl
@[go_sem] theorem tya_f2_145:tFld Tryz.prog 145 2=some 2:=by kernel_rfl
@[go_sem] theorem tya_q_145:tEqS Tryz.prog 145=some 3:=by kernel_rfl
@[go_sem] theorem tya_z_145:tZero Tryz.prog 145=some [.int .i64 0,.int .i64 0,.int .i64 0]:=by kernel_rfl
@[go_sem] theorem tya_s_153:tSz Tryz.prog 153=some (true,2):=by kernel_rfl
@[go_sem] theorem tya_fl_153:tFlds Tryz.prog 153=some [(0,1),(1,1)]:=by kernel_rfl
@[go_sem] theorem tya_f0_153:tFld Tryz.prog 153 0=some 0:=by kernel_rfl
@[go_sem] theorem tya_f1_153:tFld Tryz.prog 153 1=some 1:=by kernel_rfl
@[go_sem] theorem tya_q_153:tEqS Tryz.prog 153=some 2:=by kernel_rfl
@[go_sem] theorem tya_z_153:tZero Tryz.prog 153=some [.int .i64 0,.int .i64 0]:=by kernel_rfl
@[go_sem] theorem tya_s_154:tSz Tryz.prog 154=some (true,2):=by kernel_rfl
@[go_sem] theorem tya_fl_154:tFlds Tryz.prog 154=some [(0,1),(1,1)]:=by kernel_rfl
@[go_sem] theorem tya_f0_154:tFld Tryz.prog 154 0=some 0:=by kernel_rfl
@[go_sem] theorem tya_f1_154:tFld Tryz.prog 154 1=some 1:=by kernel_rfl
@[go_sem] theorem tya_q_154:tEqS Tryz.prog 154=some 2:=by kernel_rfl
@[go_sem] theorem tya_z_154:tZero Tryz.prog 154=some [.int .i64 0,.int .i64 0]:=by kernel_rfl
@[go_sem] theorem tya_s_157:tSz Tryz.prog 157=some (false,1):=by kernel_rfl
@[go_sem] theorem tya_z_157:tZero Tryz.prog 157=some [.raw (.map none)]:=by kernel_rfl
@[go_sem] theorem tya_s_159:tSz Tryz.prog 159=some (false,1):=by kernel_rfl
@[go_sem] theorem tya_z_159:tZero Tryz.prog 159=some [.raw (.map none)]:=by kernel_rfl
@[go_sem] theorem tya_s_170:tSz Tryz.prog 170=some (false,1):=by kernel_rfl
@[go_sem] theorem tya_zi_170:tZI Tryz.prog 170=some (.u64,0):=by kernel_rfl
@[go_sem] theorem tya_i_170:tInt Tryz.prog 170=some .u64:=by kernel_rfl
@[go_sem] theorem tya_z_170:tZero Tryz.prog 170=some [.int .u64 0]:=by kernel_rfl
@[go_sem] theorem tya_s_172:tSz Tryz.prog 172=some (false,1):=by kernel_rfl
@[go_sem] theorem tya_zi_172:tZI Tryz.prog 172=some (.u64,0):=by kernel_rfl
@[go_sem] theorem tya_i_172:tInt Tryz.prog 172=some .u64:=by kernel_rfl
@[go_sem] theorem tya_z_172:tZero Tryz.prog 172=some [.int .u64 0]:=by kernel_rfl
@[go_sem] theorem tya_s_181:tSz Tryz.prog 181=some (false,1):=by kernel_rfl
@[go_sem] theorem tya_z_181:tZero Tryz.prog 181=some [.raw (.pointer none)]:=by kernel_rfl
@[go_sem] theorem tya_s_187:tSz Tryz.prog 187=some (true,3):=by kernel_rfl
@[go_sem] theorem tya_z_187:tZero Tryz.prog 187=some [.int .i64 0,.int .i64 0,.int .i64 0]:=by kernel_rfl
@[go_sem] theorem tya_s_196:tSz Tryz.prog 196=some (false,1):=by kernel_rfl
@[go_sem] theorem tya_z_196:tZero Tryz.prog 196=some [.raw (.map none)]:=by kernel_rfl
@[go_sem] theorem tya_s_200:tSz Tryz.prog 200=some (false,1):=by kernel_rfl
@[go_sem] theorem tya_z_200:tZero Tryz.prog 200=some [.raw (.pointer none)]:=by kernel_rfl
@[go_sem] theorem tya_s_201:tSz Tryz.prog 201=some (true,5):=by kernel_rfl
@[go_sem] theorem tya_fl_201:tFlds Tryz.prog 201=some [(0,3),(3,1),(4,1)]:=by kernel_rfl
@[go_sem] theorem tya_f0_201:tFld Tryz.prog 201 0=some 0:=by kernel_rfl
@[go_sem] theorem tya_f1_201:tFld Tryz.prog 201 1=some 3:=by kernel_rfl
@[go_sem] theorem tya_f2_201:tFld Tryz.prog 201 2=some 4:=by kernel_rfl
@[go_sem] theorem tya_z_201:tZero Tryz.prog 201=some [.int .i64 0,.nils,.int .i64 0,.nils,.nils]:=by kernel_rfl
@[go_sem] theorem tya_s_202:tSz Tryz.prog 202=some (true,5):=by kernel_rfl
@[go_sem] theorem tya_fl_202:tFlds Tryz.prog 202=some [(0,3),(3,1),(4,1)]:=by kernel_rfl
@[go_sem] theorem tya_f0_202:tFld Tryz.prog 202 0=some 0:=by kernel_rfl
@[go_sem] theorem tya_f1_202:tFld Tryz.prog 202 1=some 3:=by kernel_rfl
@[go_sem] theorem tya_f2_202:tFld Tryz.prog 202 2=some 4:=by kernel_rfl
@[go_sem] theorem tya_z_202:tZero Tryz.prog 202=some [.int .i64 0,.nils,.int .i64 0,.nils,.nils]:=by kernel_rfl
@[go_sem] theorem tya_e_218:tElem Tryz.prog 218=some (133,2,32):=by kernel_rfl
@[go_sem] theorem tya_s_218:tSz Tryz.prog 218=some (false,1):=by kernel_rfl
@[go_sem] theorem tya_z_218:tZero Tryz.prog 218=some [.nils]:=by kernel_rfl
@[go_sem] theorem tya_s_222:tSz Tryz.prog 222=some (false,1):=by kernel_rfl
@[go_sem] theorem tya_z_222:tZero Tryz.prog 222=some [.raw (.map none)]:=by kernel_rfl
@[go_sem] theorem tya_s_223:tSz Tryz.prog 223=some (true,3):=by kernel_rfl
@[go_sem] theorem tya_fl_223:tFlds Tryz.prog 223=some [(0,1),(1,1),(2,1)]:=by kernel_rfl
@[go_sem] theorem tya_f0_223:tFld Tryz.prog 223 0=some 0:=by kernel_rfl
@[go_sem] theorem tya_f1_223:tFld Tryz.prog 223 1=some 1:=by kernel_rfl
@[go_sem] theorem tya_f2_223:tFld Tryz.prog 223 2=some 2:=by kernel_rfl
@[go_sem] theorem tya_z_223:tZero Tryz.prog 223=some [.nils,.raw (.map none),.raw (.map none)]:=by kernel_rfl
@[go_sem] theorem tya_s_224:tSz Tryz.prog 224=some (true,3):=by kernel_rfl
@[go_sem] theorem tya_fl_224:tFlds Tryz.prog 224=some [(0,1),(1,1),(2,1)]:=by kernel_rfl
@[go_sem] theorem tya_f0_224:tFld Tryz.prog 224 0=some 0:=by kernel_rfl
@[go_sem] theorem tya_f1_224:tFld Tryz.prog 224 1=some 1:=by kernel_rfl
@[go_sem] theorem tya_f2_224:tFld Tryz.prog 224 2=some 2:=by kernel_rfl
@[go_sem] theorem tya_z_224:tZero Tryz.prog 224=some [.nils,.raw (.map none),.raw (.map none)]:=by kernel_rfl
@[go_sem] theorem tya_s_233:tSz Tryz.prog 233=some (true,3):=by kernel_rfl
@[go_sem] theorem tya_fl_233:tFlds Tryz.prog 233=some [(0,1),(1,1),(2,1)]:=by kernel_rfl
@[go_sem] theorem tya_f0_233:tFld Tryz.prog 233 0=some 0:=by kernel_rfl
@[go_sem] theorem tya_f1_233:tFld Tryz.prog 233 1=some 1:=by kernel_rfl
@[go_sem] theorem tya_f2_233:tFld Tryz.prog 233 2=some 2:=by kernel_rfl
@[go_sem] theorem tya_q_233:tEqS Tryz.prog 233=some 3:=by kernel_rfl
@[go_sem] theorem tya_z_233:tZero Tryz.prog 233=some [.int .u8 0,.int .i64 0,.int .i64 0]:=by kernel_rfl
@[go_sem] theorem tya_s_234:tSz Tryz.prog 234=some (true,3):=by kernel_rfl
@[go_sem] theorem tya_fl_234:tFlds Tryz.prog 234=some [(0,1),(1,1),(2,1)]:=by kernel_rfl
@[go_sem] theorem tya_f0_234:tFld Tryz.prog 234 0=some 0:=by kernel_rfl
@[go_sem] theorem tya_f1_234:tFld Tryz.prog 234 1=some 1:=by kernel_rfl
@[go_sem] theorem tya_f2_234:tFld Tryz.prog 234 2=some 2:=by kernel_rfl
@[go_sem] theorem tya_q_234:tEqS Tryz.prog 234=some 3:=by kernel_rfl
@[go_sem] theorem tya_z_234:tZero Tryz.prog 234=some [.int .u8 0,.int .i64 0,.int .i64 0]:=by kernel_rfl
@[go_sem] theorem tya_s_235:tSz Tryz.prog 235=some (false,1):=by kernel_rfl
@[go_sem] theorem tya_zi_235:tZI Tryz.prog 235=some (.i64,0):=by kernel_rfl
@[go_sem] theorem tya_i_235:tInt Tryz.prog 235=some .i64:=by kernel_rfl
@[go_sem] theorem tya_z_235:tZero Tryz.prog 235=some [.int .i64 0]:=by kernel_rfl
@[go_sem] theorem tya_s_242:tSz Tryz.prog 242=some (false,1):=by kernel_rfl
@[go_sem] theorem tya_zi_242:tZI Tryz.prog 242=some (.u64,0):=by kernel_rfl
@[go_sem] theorem tya_i_242:tInt Tryz.prog 242=some .u64:=by kernel_rfl
@[go_sem] theorem tya_z_242:tZero Tryz.prog 242=some [.int .u64 0]:=by kernel_rfl
@[go_sem] theorem tya_s_246:tSz Tryz.prog 246=some (false,1):=by kernel_rfl
@[go_sem] theorem tya_z_246:tZero Tryz.prog 246=some [.raw (.pointer none)]:=by kernel_rfl
@[go_sem] theorem tya_s_248:tSz Tryz.prog 248=some (false,1):=by kernel_rfl
@[go_sem] theorem tya_z_248:tZero Tryz.prog 248=some [.raw (.pointer none)]:=by kernel_rfl
@[go_sem] theorem tya_s_251:tSz Tryz.prog 251=some (true,4):=by kernel_rfl
@[go_sem] theorem tya_fl_251:tFlds Tryz.prog 251=some [(0,1),(1,1),(2,1),(3,1)]:=by kernel_rfl
@[go_sem] theorem tya_f0_251:tFld Tryz.prog 251 0=some 0:=by kernel_rfl
@[go_sem] theorem tya_f1_251:tFld Tryz.prog 251 1=some 1:=by kernel_rfl
@[go_sem] theorem tya_f2_251:tFld Tryz.prog 251 2=some 2:=by kernel_rfl
@[go_sem] theorem tya_f3_251:tFld Tryz.prog 251 3=some 3:=by kernel_rfl
@[go_sem] theorem tya_z_251:tZero Tryz.prog 251=some [.raw (.pointer none),.raw (.pointer none),.raw (.pointer none),.str ⟨#[]⟩]:=by kernel_rfl
@[go_sem] theorem tya_s_252:tSz Tryz.prog 252=some (true,4):=by kernel_rfl
@[go_sem] theorem tya_fl_252:tFlds Tryz.prog 252=some [(0,1),(1,1),(2,1),(3,1)]:=by kernel_rfl
@[go_sem] theorem tya_f0_252:tFld Tryz.prog 252 0=some 0:=by kernel_rfl
@[go_sem] theorem tya_f1_252:tFld Tryz.prog 252 1=some 1:=by kernel_rfl
@[go_sem] theorem tya_f2_252:tFld Tryz.prog 252 2=some 2:=by kernel_rfl
@[go_sem] theorem tya_f3_252:tFld Tryz.prog 252 3=some 3:=by kernel_rfl
@[go_sem] theorem tya_z_252:tZero Tryz.prog 252=some [.raw (.pointer none),.raw (.pointer none),.raw (.pointer none),.str ⟨#[]⟩]:=by kernel_rfl
@[go_sem] theorem tya_s_256:tSz Tryz.prog 256=some (false,1):=by kernel_rfl
@[go_sem] theorem tya_zi_256:tZI Tryz.prog 256=some (.u8,0):=by kernel_rfl
@[go_sem] theorem tya_i_256:tInt Tryz.prog 256=some .u8:=by kernel_rfl
@[go_sem] theorem tya_z_256:tZero Tryz.prog 256=some [.int .u8 0]:=by kernel_rfl
@[go_sem] theorem tya_s_257:tSz Tryz.prog 257=some (false,1):=by kernel_rfl
@[go_sem] theorem tya_zi_257:tZI Tryz.prog 257=some (.u8,0):=by kernel_rfl
@[go_sem] theorem tya_i_257:tInt Tryz.prog 257=some .u8:=by kernel_rfl
@[go_sem] theorem tya_z_257:tZero Tryz.prog 257=some [.int .u8 0]:=by kernel_rfl
@[go_sem] theorem tya_s_259:tSz Tryz.prog 259=some (false,1):=by kernel_rfl
@[go_sem] theorem tya_z_259:tZero Tryz.prog 259=some [.raw (.pointer none)]:=by kernel_rfl
@[go_sem] theorem tya_s_260:tSz Tryz.prog 260=some (false,1):=by kernel_rfl
@[go_sem] theorem tya_zi_260:tZI Tryz.prog 260=some (.i32,0):=by kernel_rfl
@[go_sem] theorem tya_i_260:tInt Tryz.prog 260=some .i32:=by kernel_rfl
@[go_sem] theorem tya_z_260:tZero Tryz.prog 260=some [.int .i32 0]:=by kernel_rfl
@[go_sem] theorem tya_s_261:tSz Tryz.prog 261=some (false,1):=by kernel_rfl
@[go_sem] theorem tya_zi_261:tZI Tryz.prog 261=some (.i32,0):=by kernel_rfl
@[go_sem] theorem tya_i_261:tInt Tryz.prog 261=some .i32:=by kernel_rfl
@[go_sem] theorem tya_z_261:tZero Tryz.prog 261=some [.int .i32 0]:=by kernel_rfl
@[go_sem] theorem tya_s_262:tSz Tryz.prog 262=some (true,11):=by kernel_rfl
@[go_sem] theorem tya_fl_262:tFlds Tryz.prog 262=some [(0,1),(1,1),(2,1),(3,1),(4,1),(5,1),(6,1),(7,1),(8,1),(9,1),(10,1)]:=by kernel_rfl
@[go_sem] theorem tya_f0_262:tFld Tryz.prog 262 0=some 0:=by kernel_rfl
@[go_sem] theorem tya_f1_262:tFld Tryz.prog 262 1=some 1:=by kernel_rfl
@[go_sem] theorem tya_f2_262:tFld Tryz.prog 262 2=some 2:=by kernel_rfl
@[go_sem] theorem tya_f3_262:tFld Tryz.prog 262 3=some 3:=by kernel_rfl
@[go_sem] theorem tya_f4_262:tFld Tryz.prog 262 4=some 4:=by kernel_rfl
@[go_sem] theorem tya_f5_262:tFld Tryz.prog 262 5=some 5:=by kernel_rfl
@[go_sem] theorem tya_f6_262:tFld Tryz.prog 262 6=some 6:=by kernel_rfl
@[go_sem] theorem tya_f7_262:tFld Tryz.prog 262 7=some 7:=by kernel_rfl
@[go_sem] theorem tya_f8_262:tFld Tryz.prog 262 8=some 8:=by kernel_rfl
@[go_sem] theorem tya_f9_262:tFld Tryz.prog 262 9=some 9:=by kernel_rfl
@[go_sem] theorem tya_f10_262:tFld Tryz.prog 262 10=some 10:=by kernel_rfl
@[go_sem] theorem tya_z_262:tZero Tryz.prog 262=some [.int .u64 0,.int .u64 0,.int .u32 0,.int .u8 0,.int .u8 0,.int .u8 0,.int .u8 0,.raw .nilFunc,.raw (.pointer none),.int .i32 0,.int .i32 0]:=by kernel_rfl
@[go_sem] theorem tya_s_263:tSz Tryz.prog 263=some (true,11):=by kernel_rfl
@[go_sem] theorem tya_fl_263:tFlds Tryz.prog 263=some [(0,1),(1,1),(2,1),(3,1),(4,1),(5,1),(6,1),(7,1),(8,1),(9,1),(10,1)]:=by kernel_rfl
@[go_sem] theorem tya_f0_263:tFld Tryz.prog 263 0=some 0:=by kernel_rfl
@[go_sem] theorem tya_f1_263:tFld Tryz.prog 263 1=some 1:=by kernel_rfl
@[go_sem] theorem tya_f2_263:tFld Tryz.prog 263 2=some 2:=by kernel_rfl
@[go_sem] theorem tya_f3_263:tFld Tryz.prog 263 3=some 3:=by kernel_rfl
@[go_sem] theorem tya_f4_263:tFld Tryz.prog 263 4=some 4:=by kernel_rfl
@[go_sem] theorem tya_f5_263:tFld Tryz.prog 263 5=some 5:=by kernel_rfl
@[go_sem] theorem tya_f6_263:tFld Tryz.prog 263 6=some 6:=by kernel_rfl
@[go_sem] theorem tya_f7_263:tFld Tryz.prog 263 7=some 7:=by kernel_rfl
@[go_sem] theorem tya_f8_263:tFld Tryz.prog 263 8=some 8:=by kernel_rfl
@[go_sem] theorem tya_f9_263:tFld Tryz.prog 263 9=some 9:=by kernel_rfl
@[go_sem] theorem tya_f10_263:tFld Tryz.prog 263 10=some 10:=by kernel_rfl
@[go_sem] theorem tya_z_263:tZero Tryz.prog 263=some [.int .u64 0,.int .u64 0,.int .u32 0,.int .u8 0,.int .u8 0,.int .u8 0,.int .u8 0,.raw .nilFunc,.raw (.pointer none),.int .i32 0,.int .i32 0]:=by kernel_rfl
@[go_sem] theorem tya_s_264:tSz Tryz.prog 264=some (false,1):=by kernel_rfl
@[go_sem] theorem tya_z_264:tZero Tryz.prog 264=some [.raw (.pointer none)]:=by kernel_rfl
end Go.Proofs.YtfcnbgmclfkfcaaGreat
namespace Go.Proofs.YtfcnbgmclfkfcaaGreat
open Go.AI Go.PN
attribute [local irreducible] aw Fa Fh DrK
abbrev rdc (r:RD):List CV:=[.bool r.neg,ws true r.num,ws true r.den]
theorem cmp_one {n:Nat}:(cmpN n (val [1])==0)=decide (n=1):=by
 have:val [1]=1:=rfl
 rw [this]
 unfold cmpN
 by_cases h:n=1
 ·subst h;rfl
 ·have:¬(n=1):=h
  simp only [this,decide_false,if_false]
  by_cases h0:n<1<;>simp [h0]
theorem plain_eq {xs:List Nat} (h0:0<xs.length):plainB xs=(((xs.getD (xs.length-1) 0:Nat):Int) !=0):=by
 simp only [plainB,h0,decide_true,Bool.true_and,bne]
 congr 1
 rw [Bool.eq_iff_iff];simp
theorem plain_no {xs:List Nat} (h0:¬0<xs.length):plainB xs=false:=by simp [plainB,h0]
set_option maxHeartbeats 400000 in
theorem one_fa:Fa Tryz.prog 116 [] (.c (ws true [1])):=by
 refine fa_of_body Tryz.func116 rfl rfl (by simp [Tryz.ntmps116]) fun C hC=> ?_
 simp only [initS]
 refine xG ?_
 refine aw_buildSlice (xs:=[.const (.int .u32 1)]) (cells:=[.int .u32 1]) rfl rfl rfl ty_e_ws (by rw [envP,ty_z_u32];rfl) rfl om om (by intro x hx;simp only [List.mem_cons,List.not_mem_nil,or_false] at hx;subst hx;exact⟨rfl,rfl,rfl⟩) rfl fun g hg=> ?_
 refine xSGT hC ?_
 exact .one (.c (ler_oslws eE om rfl (fun j hj=>by match j,hj with|0,_=>rfl)))
set_option maxHeartbeats 400000 in
theorem plain_fa (xs:List Nat) (hlx:xs.length≤68719476738):Fa Tryz.prog 185 [.c (ws false xs)] (.c (.bool (plainB xs))):=by
 refine fa_of_body Tryz.func185 rfl rfl (by simp [Tryz.ntmps185]) fun C hC=> ?_
 simp only [initS,Nat.reduceAdd]
 refine xG ?_
 refine aw_split 6 eE (fun hb=> ?_) (fun hb=> ?_)<;>refine xS ?_
 ·have h0:0<xs.length:=dT hb
  refine xGT hC ?_
  exact .one (.c (ler_bool (plain_eq h0).symm))
 ·have h0:¬0<xs.length:=dF hb
  refine xGT hC ?_
  exact .one (.c (ler_bool (plain_no h0).symm))
theorem valid_zero {r:RD} (h1:((r.num.length:Int)==0)=true) (h2:((r.den.length:Int)==0)=true):(!r.neg)=r.valid:=by
 have h1':r.num.length=0:=by have:=eq_of_beq h1;omega
 have h2':r.den.length=0:=by have:=eq_of_beq h2;omega
 simp [RD.valid,h1',h2']
theorem valid_else {r:RD} (h:((r.num.length:Int)==0)=false∨((r.den.length:Int)==0)=false):r.valid=(plainB r.num&&plainB r.den&&decide (Nat.gcd (val r.num) (val r.den)=1)):=by
 unfold RD.valid
 rw [if_neg]
 rintro ⟨h1,h2⟩
 rcases h with h|h
 ·rw [h1] at h;cases h
 ·rw [h2] at h;cases h
set_option maxHeartbeats 1600000 in
theorem rvalid_fa (r:RD) (hw:r.wf 68719476736):Fa Tryz.prog 147 [.agg (rdc r)] (.c (.bool r.valid)):=by
 have hp1:r.num.length≤68719476738:=by have:=hw.2.2.1;omega
 have hp2:r.den.length≤68719476738:=by have:=hw.2.2.2;omega
 have hg:(words (Nat.gcd (val r.num) (val r.den))).length≤68719476736:=by
  by_cases h:val r.num=0
  ·rw [h,Nat.gcd_zero_left];exact Nat.le_trans (words_val_len _ hw.2.1) hw.2.2.2
  ·exact Nat.le_trans (words_len_mono (Nat.gcd_le_left _ (Nat.pos_of_ne_zero h))) (Nat.le_trans (words_val_len _ hw.1) hw.2.2.1)
 refine fa_of_body Tryz.func147 rfl rfl (by simp [Tryz.ntmps147]) fun C hC=> ?_
 simp only [initS,Nat.reduceAdd]
 refine xG ?_
 refine xB fun g1 hn_g1=>?_
 refine yH hn_g1 ?_
 apply aw_seq
 refine aw_cut (fun _:Unit=>[(1,.c (.optr g1 0))]) (fun _=>[(g1,.cells 30 3 (ofL (rdc r)))]) (fun _=>((r.num.length:Int)==0)=false∨((r.den.length:Int)==0)=false) ?_ ?_
 ·refine yG hn_g1 ?_
  refine aw_split 7 (zE hn_g1) (fun hb=> ?_) (fun hb=> ?_)<;>refine yS hn_g1 ?_
  ·refine yG hn_g1 ?_
   refine yF hn_g1 (fun hd=>?_) fun hd=>?_
   ·refine yGT hC hn_g1 ?_
    exact .one (.c (ler_bool (valid_zero hb hd)))
   ·refine yG hn_g1 ?_
    exact aw_stop ⟨(),(zB hn_g1),zZ,.inr hd⟩
  ·refine yGNG hn_g1 ?_
   exact aw_stop ⟨(),(zB hn_g1),zZ,.inl hb⟩
 rintro _ hd
 rw [valid_else hd]
 refine yG hn_g1 ?_
 refine yC hn_g1 (plain_fa r.num hp1) ?_
 refine yG hn_g1 ?_
 refine aw_split 19 (zE hn_g1) (fun h1=> ?_) (fun h1=> ?_)<;>refine yS hn_g1 ?_
 ·refine yG hn_g1 ?_
  refine yC hn_g1 (plain_fa r.den hp2) ?_
  refine yG hn_g1 ?_
  refine aw_split 24 (zE hn_g1) (fun h2=> ?_) (fun h2=> ?_)<;>refine yS hn_g1 ?_
  ·refine yG hn_g1 ?_
   refine yC hn_g1 (gcd_fa _ _ hw.1 hw.2.1 hw.2.2.1 hw.2.2.2) ?_
   refine yG hn_g1 ?_
   refine yC hn_g1 (one_fa) ?_
   refine yG hn_g1 ?_
   refine yC hn_g1 (cmp_fa _ [1] (words_lt _) ?_ hg ?_) ?_
   ·simp
   ·simp
   refine yGT hC hn_g1 ?_
   refine .one (.c (ler_bool ?_))
   rw [h1,h2,val_words,cmp_one];rfl
  ·refine yGT hC hn_g1 ?_
   refine .one (.c (ler_bool ?_))
   rw [h2,Bool.and_false,Bool.false_and]
 ·refine yGT hC hn_g1 ?_
  refine .one (.c (ler_bool ?_))
  rw [h1,Bool.false_and,Bool.false_and]
end Go.Proofs.YtfcnbgmclfkfcaaGreat
namespace Go.Proofs.YtfcnbgmclfkfcaaGreat
open Go.AI Go.PN
attribute [local irreducible] aw Fa Fh DrK
theorem words_mul_len (m n:Nat):(words (m*n)).length≤(words m).length+(words n).length:=words_len_le (pow_mul_lt (words_pow_lt m) (words_pow_lt n))
theorem words_add_len {m n k:Nat} (hm:(words m).length≤k) (hn:(words n).length≤k):(words (m+n)).length≤k+1:=by
 have h1:=Nat.lt_of_lt_of_le (words_pow_lt m) (Nat.pow_le_pow_right (show 0<4294967296 by omega) hm)
 have h2:=Nat.lt_of_lt_of_le (words_pow_lt n) (Nat.pow_le_pow_right (show 0<4294967296 by omega) hn)
 refine words_len_le ?_
 rw [Nat.pow_succ]
 omega
theorem mulW (a b:Nat) (ha:(words a).length≤68719476736) (hb:(words b).length≤68719476736):Fa Tryz.prog 103 [.c (ws false (words a)),.c (ws false (words b))] (.c (ws true (words (a*b)))):=by
 have:=mul_fa (words a) (words b) (words_lt a) (words_lt b) ha hb
 rwa [val_words,val_words] at this
theorem addW (a b:Nat) (ha:(words a).length≤68719476736) (hb:(words b).length≤68719476736):Fa Tryz.prog 166 [.c (ws false (words a)),.c (ws false (words b))] (.c (ws true (words (a+b)))):=by
 have:=add_fa (words a) (words b) (words_lt a) (words_lt b) ha hb
 rwa [val_words,val_words] at this
theorem subW (a b:Nat) (ha:(words a).length≤68719476736) (hb:(words b).length≤68719476736) (h:b≤a):Fa Tryz.prog 167 [.c (ws false (words a)),.c (ws false (words b))] (.tup [.c (ws true (words (a-b))),.c .nilI]):=by
 have:=sub_fa (words a) (words b) (words_lt a) (words_lt b) ha hb (by rw [val_words,val_words];exact h)
 rwa [val_words,val_words] at this
theorem cmpW (a b:Nat) (ha:(words a).length≤68719476736) (hb:(words b).length≤68719476736):Fa Tryz.prog 148 [.c (ws false (words a)),.c (ws false (words b))] (.c (.int .i64 (cmpN a b))):=by
 have:=cmp_fa (words a) (words b) (words_lt a) (words_lt b) ha hb
 rwa [val_words,val_words] at this
theorem gcdW (a b:Nat) (ha:(words a).length≤68719476736) (hb:(words b).length≤68719476736):Fa Tryz.prog 151 [.c (ws false (words a)),.c (ws false (words b))] (.c (ws true (words (Nat.gcd a b)))):=by
 have:=gcd_fa (words a) (words b) (words_lt a) (words_lt b) ha hb
 rwa [val_words,val_words] at this
theorem divW (a b:Nat) (ha:(words a).length≤68719476736) (hb:(words b).length≤68719476736) (h:b≠0):Fa Tryz.prog 152 [.c (ws false (words a)),.c (ws false (words b))] (.tup [.c (ws true (words (a/b))),.c (ws true (words (a%b))),.c .nilI]):=by
 have:=div_fa (words a) (words b) (words_lt a) (words_lt b) ha hb (by rw [val_words];exact h)
 rwa [val_words,val_words] at this
theorem bitsW (a:Nat) (ha:(words a).length≤68719476736):Fa Tryz.prog 150 [.c (ws false (words a))] (.c (.int .i64 (bitlen a:Nat))):=by
 have:=bits_fa (words a) (words_lt a) ha
 rwa [val_words] at this
theorem some_of {r:RD} (h1:r.valid=true) (h2:((r.num.length:Int)==0)=false):r.some=true:=by
 have:r.num.length≠0:=fun e=>by rw [e] at h2;cases h2
 simp [RD.some,h1,this]
theorem none_of {r:RD} (h:r.valid=false∨((r.num.length:Int)==0)=true):r.some=false:=by
 rcases h with h|h
 ·simp [RD.some,h]
 ·have:r.num.length=0:=by have:=eq_of_beq h;omega
  simp [RD.some,this]
theorem wf_mono {r:RD} {L M:Nat} (h:r.wf L) (hm:L≤M):r.wf M:=⟨h.1,h.2.1,Nat.le_trans h.2.2.1 hm,Nat.le_trans h.2.2.2 hm⟩
abbrev partsAV (r:RD):AV:=.tup [.c (.bool r.ps),.c (ws true (words r.pn)),.c (ws true (words r.pd))]
set_option maxHeartbeats 1600000 in
theorem rparts_fa (r:RD) (hw:r.wf 1073741824):Fa Tryz.prog 101 [.agg (rdc r)] (partsAV r):=by
 refine fa_of_body Tryz.func101 rfl rfl (by simp [Tryz.ntmps101]) fun C hC=> ?_
 simp only [initS,Nat.reduceAdd]
 refine xG ?_
 refine xB fun g1 hn_g1=>?_
 refine yG hn_g1 ?_
 refine yC hn_g1 (rvalid_fa r (wf_mono hw ?_)) ?_
 ·omega
 refine yG hn_g1 ?_
 refine aw_split 8 (zE hn_g1) (fun hv=> ?_) (fun hv=> ?_)<;>refine yS hn_g1 ?_
 ·have hs:=RD.pn_none (none_of (r:=r) (.inl (by simpa using hv)))
  refine yGPG hn_g1 ?_
  refine yC hn_g1 (one_fa) ?_
  refine yGT hC hn_g1 ?_
  refine .tup ⟨.c (ler_bool hs.2.2.symm),.c ?_,.c ?_,trivial⟩
  ·rw [hs.1];exact .nils
  ·rw [hs.2.1];exact ler_ws
 ·have hv':r.valid=true:=by simpa using hv
  refine yG hn_g1 ?_
  refine yF hn_g1 (fun hn=>?_) fun hn=>?_
  ·have hs:=RD.pn_none (none_of (r:=r) (.inr hn))
   refine yG hn_g1 ?_
   refine yC hn_g1 (one_fa) ?_
   refine yGT hC hn_g1 ?_
   refine .tup ⟨.c (ler_bool hs.2.2.symm),.c ?_,.c ?_,trivial⟩
   ·rw [hs.1];exact .nils
   ·rw [hs.2.1];exact ler_ws
  ·have hs:=RD.pn_words hw (some_of hv' hn)
   refine yG hn_g1 ?_
   refine aw_dr 9 ty_mixed (by kernel_rfl) ?_
   refine yGT hC hn_g1 ?_
   refine .tup ⟨.c (ler_bool hs.2.2.symm),.c ?_,.c ?_,trivial⟩
   ·rw [hs.1];exact ler_ws
   ·rw [hs.2.1];exact ler_ws
theorem lerl_rd {h:Heap} {r:RD}:LeRL h (rdc r) (rdc r):=⟨.bool _,ler_ws,ler_ws,trivial⟩
theorem ler_rd {h:Heap} {r s:RD} (e:r=s):LeRA h (.agg (rdc r)) (.agg (rdc s)):=by subst e;exact .one (.agg lerl_rd)
set_option maxHeartbeats 1600000 in
theorem rform_fa (neg:Bool) (n d:Nat) (hn:(words n).length≤68719476736) (hd:(words d).length≤68719476736) (h0:d≠0):
 Fa Tryz.prog 102 [.c (.bool neg),.c (ws false (words n)),.c (ws false (words d))] (.agg (rdc (rd (sq neg n d)))):=by
 refine fa_of_body Tryz.func102 rfl rfl (by simp [Tryz.ntmps102]) fun C hC=> ?_
 simp only [initS,Nat.reduceAdd]
 refine xG ?_
 refine xA fun g6 hn_g6=>?_
 refine yG hn_g6 ?_
 refine yC hn_g6 (bitsW n hn) ?_
 refine yG hn_g6 ?_
 refine yF hn_g6 (fun hb=>?_) fun hb=>?_
 ·have hz:n=0:=bitlen_zero.1 (by have:=eq_of_beq hb;omega)
  refine yGWSGT hC hn_g6 ?_
  rw [hz,sq_zero,rd_zero]
  exact .one (.agg ⟨.bool _,.nils,.nils,trivial⟩)
 ·have hz:n≠0:=fun e=>by rw [e] at hb;cases hb
  have hg:Nat.gcd n d≠0:=fun e=>h0 (Nat.eq_zero_of_gcd_eq_zero_right e)
  have hgl:(words (Nat.gcd n d)).length≤68719476736:=Nat.le_trans (words_len_mono (Nat.gcd_le_left _ (Nat.pos_of_ne_zero hz))) hn
  refine yG hn_g6 ?_
  refine yC hn_g6 (gcdW n d hn hd) ?_
  refine yG hn_g6 ?_
  refine yC hn_g6 (divW n (Nat.gcd n d) hn hgl hg) ?_
  refine yG hn_g6 ?_
  refine yC hn_g6 (divW d (Nat.gcd n d) hd hgl hg) ?_
  refine yGWSGT hC hn_g6 ?_
  rw [rd_sq hz h0]
  exact .one (.agg ⟨.bool _,ler_ws,ler_ws,trivial⟩)
end Go.Proofs.YtfcnbgmclfkfcaaGreat
namespace Go.Proofs.YtfcnbgmclfkfcaaGreat
open Go.AI Go.PN
attribute [local irreducible] aw Fa Fh DrK
theorem words_min:words 9223372036854775808=[0,2147483648]:=by
 rw [words_cons om,words_cons om,show(9223372036854775808/4294967296/4294967296:Nat)=0 from rfl,words_zero]
theorem int_neg {n:Int} (h0: -9223372036854775808<n) (h1:n≤9223372036854775807):wrapZ .i64 (0-n)= -n:=by
 rw [wrapZ_eq,wrap_inRange (k:=.i64) (by simp only [inRange];omega)];omega
theorem words_small {n:Nat} (h:n≤9223372036854775808):(words n).length≤2:=words_len_le (Nat.lt_of_le_of_lt h (by decide))
set_option maxHeartbeats 800000 in
theorem rsize_fa (n:Int) (h0: -9223372036854775808≤n) (h1:n≤9223372036854775807):Fa Tryz.prog 115 [.c (.int .i64 n)] (.c (ws true (words n.natAbs))):=by
 refine fa_of_body Tryz.func115 rfl rfl (by simp [Tryz.ntmps115]) fun C hC=> ?_
 simp only [initS,Nat.reduceAdd]
 refine xG ?_
 refine xF (fun hb=>?_) fun hb=>?_
 ·have hn:n= -9223372036854775808:=eq_of_beq hb
  refine xG ?_
  refine aw_buildSlice (xs:=[.const (.int .u32 0),.const (.int .u32 2147483648)]) (cells:=[.int .u32 0,.int .u32 2147483648]) rfl rfl rfl ty_e_ws (by rw [envP,ty_z_u32];rfl) rfl om om (by intro x hx;simp only [List.mem_cons,List.not_mem_nil,or_false] at hx;rcases hx with rfl|rfl<;>exact⟨rfl,rfl,rfl⟩) rfl fun g hg=> ?_
  refine xSGT hC ?_
  subst hn
  rw [show((-9223372036854775808:Int).natAbs)=9223372036854775808 from rfl,words_min]
  exact .one (.c (ler_oslws eE (by simp) rfl (fun j hj=>by match j,hj with|0,_=>rfl|1,_=>rfl)))
 ·have hn:n≠ -9223372036854775808:=fun e=>by rw [e] at hb;cases hb
  refine xG ?_
  rw [int_neg om h1]
  have hm:(if-n>n then-n else n)=(n.natAbs:Int):=by split<;>omega
  rw [hm]
  refine xC (of_fa (n.natAbs:Int) ?_ ?_) ?_
  ·omega
  ·omega
  refine xGT hC ?_
  exact .one (.c ler_ws)
theorem sq_int (n:Int):sq (decide (n<0)) n.natAbs 1=(n:Rat):=by
 unfold sq sgn
 rw [Rat.mkRat_one]
 congr 1
 split
 ·rename_i h;simp only [decide_eq_true_eq] at h;omega
 ·rename_i h;simp only [decide_eq_true_eq] at h;omega
set_option maxHeartbeats 800000 in
theorem rof_fa (n:Int) (h0: -9223372036854775808≤n) (h1:n≤9223372036854775807):Fa Tryz.prog 66 [.c (.int .i64 n)] (.agg (rdc (rd (n:Rat)))):=by
 have hl:=words_small (n:=n.natAbs) om
 refine fa_of_body Tryz.func66 rfl rfl (by simp [Tryz.ntmps66]) fun C hC=> ?_
 simp only [initS,Nat.reduceAdd]
 refine xG ?_
 refine xA fun g2 hn_g2=>?_
 refine yG hn_g2 ?_
 refine yC hn_g2 (rsize_fa n h0 h1) ?_
 refine yG hn_g2 ?_
 refine yC hn_g2 (one_fa) ?_
 refine yG hn_g2 ?_
 rw [show([1]:List Nat)=words 1 from words_one.symm]
 refine yC hn_g2 (rform_fa _ n.natAbs 1 ?_ ?_ ?_) ?_
 ·omega
 ·rw [words_one];simp
 ·omega
 refine yGWSGT hC hn_g2 ?_
 exact ler_rd (by rw [sq_int])
set_option maxHeartbeats 800000 in
theorem rneg_fa (r:RD) (hw:r.wf 1073741824):Fa Tryz.prog 168 [.agg (rdc r)] (.agg (rdc (rd (-r.q)))):=by
 obtain⟨hl1,hl2⟩:=RD.p_len hw om
 refine fa_of_body Tryz.func168 rfl rfl (by simp [Tryz.ntmps168]) fun C hC=> ?_
 simp only [initS,Nat.reduceAdd]
 refine xG ?_
 refine xB fun g1 hn_g1=>?_
 refine yA hn_g1 fun g2 hn_g2=>?_
 have J1:=oj hn_g1 hn_g2
 refine yG J1 ?_
 refine yC J1 (rparts_fa r hw) ?_
 refine yG J1 ?_
 refine yC J1 (rform_fa _ r.pn r.pd ?_ ?_ (RD.pd_ne hw)) ?_
 ·omega
 ·omega
 refine yGWSGT hC J1 ?_
 exact ler_rd (by rw [sq_neg];rfl)
theorem sign_zero {r:RD} {L:Nat} (hw:r.wf L) (h:(((words r.pn).length:Int)==0)=true):0=signQ r.q:=by
 have h1:r.pn=0:=words_eq_nil.1 (List.length_eq_zero_iff.1 (by have:=eq_of_beq h;omega))
 unfold RD.q
 rw [h1,sq_zero];rfl
theorem sign_some {r:RD} {L:Nat} (hw:r.wf L) (h:(((words r.pn).length:Int)==0)=false):signQ r.q=if r.ps then-1 else 1:=by
 have h1:r.pn≠0:=fun e=>by rw [e,words_zero] at h;cases h
 unfold signQ RD.q
 rw [if_neg (sq_ne h1 (RD.pd_ne hw))]
 have:=sq_lt (neg:=r.ps) h1 (RD.pd_ne hw)
 simp only [this]
set_option maxHeartbeats 800000 in
theorem rsign_fa (r:RD) (hw:r.wf 1073741824):Fa Tryz.prog 57 [.agg (rdc r)] (.c (.int .i64 (signQ r.q))):=by
 refine fa_of_body Tryz.func57 rfl rfl (by simp [Tryz.ntmps57]) fun C hC=> ?_
 simp only [initS,Nat.reduceAdd]
 refine xG ?_
 refine xB fun g1 hn_g1=>?_
 refine yG hn_g1 ?_
 refine yC hn_g1 (rparts_fa r hw) ?_
 refine yG hn_g1 ?_
 refine yF hn_g1 (fun hb=>?_) fun hb=>?_
 ·refine yGT hC hn_g1 ?_
  exact .one (.c (ler_int (sign_zero hw hb)))
 ·refine yG hn_g1 ?_
  refine yF hn_g1 (fun hp=>?_) fun hp=>?_
  ·refine yGT hC hn_g1 ?_
   refine .one (.c (ler_int ?_))
   rw [sign_some hw hb,hp];rfl
  ·refine yGT hC hn_g1 ?_
   refine .one (.c (ler_int ?_))
   rw [sign_some hw hb,hp];rfl
theorem not_of_bne {a b:Bool} (h:(a==b)=false):b= !a:=by cases a<;>cases b<;>simp_all
set_option maxHeartbeats 1600000 in
theorem radd_fa (a b:RD) (ha:a.wf 1073741824) (hb:b.wf 1073741824):Fa Tryz.prog 113 [.agg (rdc a),.agg (rdc b)] (.agg (rdc (rd (a.q+b.q)))):=by
 obtain⟨l1,l2⟩:=RD.p_len ha om
 obtain⟨l3,l4⟩:=RD.p_len hb om
 have d1:=RD.pd_ne ha
 have d2:=RD.pd_ne hb
 have dd:a.pd*b.pd≠0:=Nat.mul_ne_zero d1 d2
 have m1:=words_mul_len a.pn b.pd
 have m2:=words_mul_len b.pn a.pd
 have m3:=words_mul_len a.pd b.pd
 have m4:=words_add_len (m:=a.pn*b.pd) (n:=b.pn*a.pd) (k:=2147483648) om om
 refine fa_of_body Tryz.func113 rfl rfl (by simp [Tryz.ntmps113]) fun C hC=> ?_
 simp only [initS,Nat.reduceAdd]
 refine xG ?_
 refine xB fun g2 hn_g2=>?_
 refine yB hn_g2 fun g3 hn_g3=>?_
 refine yA (oj hn_g2 hn_g3) fun g4 hn_g4=>?_
 have J1:=oj hn_g2 (oj hn_g3 hn_g4)
 refine yG J1 ?_
 refine yC J1 (rparts_fa a ha) ?_
 refine yG J1 ?_
 refine yC J1 (rparts_fa b hb) ?_
 refine yG J1 ?_
 refine yC J1 (mulW a.pn b.pd ?_ ?_) ?_
 ·omega
 ·omega
 refine yG J1 ?_
 refine yC J1 (mulW b.pn a.pd ?_ ?_) ?_
 ·omega
 ·omega
 refine yG J1 ?_
 refine yC J1 (mulW a.pd b.pd ?_ ?_) ?_
 ·omega
 ·omega
 refine yG J1 ?_
 refine yF J1 (fun hs=>?_) fun hs=>?_
 ·have hs':a.ps=b.ps:=eq_of_beq hs
  refine yG J1 ?_
  refine yC J1 (addW _ _ ?_ ?_) ?_
  ·omega
  ·omega
  refine yG J1 ?_
  refine yC J1 (rform_fa _ _ _ ?_ ?_ dd) ?_
  ·omega
  ·omega
  refine yGWSGT hC J1 ?_
  refine ler_rd ?_
  rw [sq_add_same _ d1 d2]
  unfold RD.q;rw [hs']
 ·have hs':b.ps= !a.ps:=not_of_bne hs
  refine yG J1 ?_
  refine yC J1 (cmpW _ _ ?_ ?_) ?_
  ·omega
  ·omega
  refine yG J1 ?_
  refine yF J1 (fun hc=>?_) fun hc=>?_
  ·have hle:b.pn*a.pd≤a.pn*b.pd:=by
    have:=of_decide_eq_true hc
    unfold cmpN at this
    split at this
    ·omega
    ·omega
   have hl5:=words_len_mono (Nat.sub_le (a.pn*b.pd) (b.pn*a.pd))
   refine yG J1 ?_
   refine yC J1 (subW _ _ ?_ ?_ hle) ?_
   ·omega
   ·omega
   refine yG J1 ?_
   refine yC J1 (rform_fa _ _ _ ?_ ?_ dd) ?_
   ·omega
   ·omega
   refine yGWSGT hC J1 ?_
   refine ler_rd ?_
   rw [sq_add_ge _ d1 d2 hle]
   unfold RD.q;rw [hs']
  ·have hle:a.pn*b.pd≤b.pn*a.pd:=by
    have:=of_decide_eq_false hc
    unfold cmpN at this
    split at this
    ·omega
    ·split at this<;>omega
   have hl5:=words_len_mono (Nat.sub_le (b.pn*a.pd) (a.pn*b.pd))
   refine yG J1 ?_
   refine yC J1 (subW _ _ ?_ ?_ hle) ?_
   ·omega
   ·omega
   refine yG J1 ?_
   refine yC J1 (rform_fa _ _ _ ?_ ?_ dd) ?_
   ·omega
   ·omega
   refine yGWSGT hC J1 ?_
   refine ler_rd ?_
   rw [hs',sq_add_lt _ d1 d2 hle]
   unfold RD.q;rw [hs']
set_option maxHeartbeats 800000 in
theorem rmul_fa (a b:RD) (ha:a.wf 1073741824) (hb:b.wf 1073741824):Fa Tryz.prog 56 [.agg (rdc a),.agg (rdc b)] (.agg (rdc (rd (a.q*b.q)))):=by
 obtain⟨l1,l2⟩:=RD.p_len ha om
 obtain⟨l3,l4⟩:=RD.p_len hb om
 have d1:=RD.pd_ne ha
 have d2:=RD.pd_ne hb
 have dd:a.pd*b.pd≠0:=Nat.mul_ne_zero d1 d2
 have m1:=words_mul_len a.pn b.pn
 have m3:=words_mul_len a.pd b.pd
 refine fa_of_body Tryz.func56 rfl rfl (by simp [Tryz.ntmps56]) fun C hC=> ?_
 simp only [initS,Nat.reduceAdd]
 refine xG ?_
 refine xB fun g2 hn_g2=>?_
 refine yB hn_g2 fun g3 hn_g3=>?_
 refine yA (oj hn_g2 hn_g3) fun g4 hn_g4=>?_
 have J1:=oj hn_g2 (oj hn_g3 hn_g4)
 refine yG J1 ?_
 refine yC J1 (rparts_fa a ha) ?_
 refine yG J1 ?_
 refine yC J1 (rparts_fa b hb) ?_
 refine yG J1 ?_
 refine yC J1 (mulW _ _ ?_ ?_) ?_
 ·omega
 ·omega
 refine yG J1 ?_
 refine yC J1 (mulW _ _ ?_ ?_) ?_
 ·omega
 ·omega
 refine yG J1 ?_
 refine yC J1 (rform_fa _ _ _ ?_ ?_ dd) ?_
 ·omega
 ·omega
 refine yGWSGT hC J1 ?_
 exact ler_rd (by rw [sq_mul];rfl)
theorem neg_wf {r:RD} (hw:r.wf 1073741824):(rd (-r.q)).wf 1073741824:=rd_wf (fits_neg (RD.fits hw om))
set_option maxHeartbeats 800000 in
theorem rsub_fa (a b:RD) (ha:a.wf 1073741824) (hb:b.wf 1073741824):Fa Tryz.prog 114 [.agg (rdc a),.agg (rdc b)] (.agg (rdc (rd (a.q-b.q)))):=by
 refine fa_of_body Tryz.func114 rfl rfl (by simp [Tryz.ntmps114]) fun C hC=> ?_
 simp only [initS,Nat.reduceAdd]
 refine xG ?_
 refine xB fun g2 hn_g2=>?_
 refine yB hn_g2 fun g3 hn_g3=>?_
 refine yA (oj hn_g2 hn_g3) fun g4 hn_g4=>?_
 have J1:=oj hn_g2 (oj hn_g3 hn_g4)
 refine yG J1 ?_
 refine aw_dr 4 ty_mixed (by kernel_rfl) ?_
 refine yG J1 ?_
 refine yD J1 (rneg_fa b hb) ?_
 refine yG J1 ?_
 refine yD J1 (radd_fa a (rd (-b.q)) ha (neg_wf hb)) ?_
 refine yGWSGT hC J1 ?_
 exact ler_rd (by rw [rd_q,Rat.sub_eq_add_neg])
end Go.Proofs.YtfcnbgmclfkfcaaGreat
