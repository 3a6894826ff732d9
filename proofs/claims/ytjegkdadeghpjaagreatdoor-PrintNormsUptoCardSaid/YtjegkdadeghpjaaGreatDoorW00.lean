/- Short names for steps that close a goal. -/
import Derived.KernelRfl
import GoSem.Claims
namespace Go
theorem eK {α : Type} {a b : α} (h : a = b := by kernel_rfl) : some a = some b := congrArg some h
theorem sL {α : Type} {a b : List α} (h : a.Sublist b := by first|exact List.Sublist.refl _|exact .cons _ (.refl _)|exact .cons _ (.cons _ (.refl _))|exact .cons _ (.cons _ (.cons _ (.refl _)))) : a.Sublist b := h
theorem om {p : Prop} (h : p := by omega) : p := h
theorem kR {p : Prop} (h : p := by kernel_rfl) : p := h
theorem Ah {p : Prop} (h : p := by first|rfl|(exfalso;simp_all;done)|(exfalso;simp_all;omega)|fail) : p := h
theorem Af {p : Prop} (h : p := by decide) : p := h
theorem Ag {p : Prop} (h : p := by simp [Op.operands]) : p := h
abbrev Lg := @List.getD_eq_getElem?_getD
abbrev Li := @List.getElem?_eq_getElem
abbrev La := @List.length_append
abbrev Lc := @List.length_cons
abbrev Ls := @List.sublist_cons_self
abbrev Lr := @List.Sublist.refl
abbrev Lm := @List.mem_cons_of_mem
abbrev Lt := @Nat.le_trans
abbrev Lz := @Nat.zero_le
abbrev Lk := @List.take_length
abbrev Lf := @List.mem_cons_self
abbrev Lq := @List.cons_append
abbrev Ln := @List.nil_append
abbrev Lo := @List.append_assoc
abbrev Ll := @Nat.le_of_lt
abbrev Lu := @List.length_nil
abbrev Lw := @List.length_map
abbrev Lv := @List.mem_singleton
abbrev Aa := @Option.some.injEq
abbrev Ab := @Prod.mk.injEq
abbrev Ba := @Bool.and_eq_true
abbrev Lb := @List.mem_cons
abbrev Ld := @List.map_cons
abbrev De := @decide_eq_false
abbrev Dt := @decide_eq_true
abbrev Dq := @decide_eq_true_eq
abbrev Ac := @Nat.le_refl
abbrev Lj := @List.not_mem_nil
abbrev Nz := @Nat.zero_add
abbrev Lh := @List.length_eq_zero_iff
abbrev Ly := @List.take_of_length_le
abbrev Lp := @List.append_nil
abbrev Le := @List.getElem_mem
abbrev Nm := @Nat.mul_le_mul_right
abbrev Nc := @Nat.mul_comm
abbrev Na := @Nat.mul_assoc
abbrev Ad := @Nat.mul_one
abbrev Ae := @Nat.lt_of_lt_of_le
abbrev iN := @if_neg
abbrev iP := @if_pos
theorem dT {p q : Prop} [Decidable p] (h : decide p = true) (k : p → q := by intro h; omega) : q := k (of_decide_eq_true h)
theorem dF {p q : Prop} [Decidable p] (h : decide p = false) (k : ¬p → q := by intro h; omega) : q := k (of_decide_eq_false h)
end Go
