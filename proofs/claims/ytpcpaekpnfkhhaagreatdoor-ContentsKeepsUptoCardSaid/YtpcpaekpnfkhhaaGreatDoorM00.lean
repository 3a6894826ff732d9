/- Short names for steps that close a goal. -/
import Derived.KernelRfl
namespace Go
theorem eK {α : Type} {a b : α} (h : a = b := by kernel_rfl) : some a = some b := congrArg some h
theorem sL {α : Type} {a b : List α} (h : a.Sublist b := by first|exact List.Sublist.refl _|exact .cons _ (.refl _)|exact .cons _ (.cons _ (.refl _))|exact .cons _ (.cons _ (.cons _ (.refl _)))) : a.Sublist b := h
theorem om {p : Prop} (h : p := by omega) : p := h
theorem dT {p q : Prop} [Decidable p] (h : decide p = true) (k : p → q := by intro h; omega) : q := k (of_decide_eq_true h)
theorem dF {p q : Prop} [Decidable p] (h : decide p = false) (k : ¬p → q := by intro h; omega) : q := k (of_decide_eq_false h)
end Go
