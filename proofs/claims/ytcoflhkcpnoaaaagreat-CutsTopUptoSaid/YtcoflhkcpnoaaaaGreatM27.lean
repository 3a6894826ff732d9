/- Blocks of one proof, laid one behind the other by a program (merge2.py). -/
import Derived.Test.YtcoflhkcpnoaaaaGreatM11
set_option linter.unusedSimpArgs false
set_option linter.unusedVariables false
namespace Go.Proofs.YtcoflhkcpnoaaaaGreat
open Go.AI Go.PN Go.ChangeShapes Go.WideShapes Go.RowKit
section
variable {H : Type} {enc : TypeId × Value → H} {P : Program}
theorem arg_cell {α : Type} {c : α → CV} {B : α → Nat → Prop} {t : TypeId} (hr : Rdr P t (fun y => [c y]) B) {W : World} {v : Value} {d : DataW H} {p : List MemPlace} (hv : v.cells = #[v]) (h : DataW.Trod enc P W 0 (fun _ => true) true t v d p) :
    ∃ y, Rep0 (AllB W) W (.c (c y)) v ∧ B y (Rows.uptoBulk d) := by
  obtain ⟨fuel, hf⟩ := h
  rw [hv] at hf
  obtain ⟨y, h1, h2⟩ := hr H enc W fuel _ _ hf
  exact ⟨y, h1.1, h2⟩
end
end Go.Proofs.YtcoflhkcpnoaaaaGreat
