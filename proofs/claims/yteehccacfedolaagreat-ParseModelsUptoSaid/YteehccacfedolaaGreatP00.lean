/- Short names for steps that close a goal. -/
namespace Go
theorem om {p : Prop} (h : p := by omega) : p := h
theorem dT {p q : Prop} [Decidable p] (h : decide p = true) (k : p → q := by intro h; omega) : q := k (of_decide_eq_true h)
theorem dF {p q : Prop} [Decidable p] (h : decide p = false) (k : ¬p → q := by intro h; omega) : q := k (of_decide_eq_false h)
end Go
