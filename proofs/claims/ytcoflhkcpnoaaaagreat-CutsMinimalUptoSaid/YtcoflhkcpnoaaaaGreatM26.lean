/- Blocks of one proof, laid one behind the other by a program (merge2.py). -/
import Derived.Test.YtcoflhkcpnoaaaaGreatM11
import Derived.Test.YtcoflhkcpnoaaaaGreatRows
import Derived.WalkKit
import Derived.ProofKit
import Derived.OpenShut
import Derived.JoinedCond
import Derived.Carry
set_option linter.unusedSimpArgs false
set_option linter.unusedVariables false
namespace Go.Proofs.YtcoflhkcpnoaaaaGreat
open Go.AI Go.PN Go.ChangeShapes
section
variable {P : Program}
theorem rdr_struct3 {t : TypeId} {f0 f1 f2 : Field} {α β γ : Type} {c0 : α → List CV} {c1 : β → List CV} {c2 : γ → List CV} {B0 : α → Nat → Prop} {B1 : β → Nat → Prop} {B2 : γ → Nat → Prop} {s0 s1 s2 : Nat}
    (ht : P.underlying t = some (.struct #[f0, f1, f2])) (hz0 : P.cellsOf f0.type = s0) (hz1 : P.cellsOf f1.type = s1) (hz2 : P.cellsOf f2.type = s2) (hz : P.cellsOf t = s0 + s1 + s2) (ho0 : f0.offset = 0) (ho1 : f1.offset = s0) (ho2 : f2.offset = s0 + s1)
    (h0 : Rdr P f0.type c0 B0) (h1 : Rdr P f1.type c1 B1) (h2 : Rdr P f2.type c2 B2) (hB0 : ∀ y m n, B0 y m → m ≤ n → B0 y n) (hB1 : ∀ y m n, B1 y m → m ≤ n → B1 y n) (hB2 : ∀ y m n, B2 y m → m ≤ n → B2 y n) :
    Rdr P t (fun y : α × β × γ => c0 y.1 ++ (c1 y.2.1 ++ c2 y.2.2)) (fun y n => B0 y.1 n ∧ B1 y.2.1 n ∧ B2 y.2.2 n) := fun H enc w fuel cs x h => by
  obtain ⟨xs, n, _, rfl, hl, hlen, hf⟩ := DataW.trod_struct ht h
  match xs, hlen with
  | [x0, x1, x2], _ =>
    have g0 := hf 0 f0 rfl
    have g1 := hf 1 f1 rfl
    have g2 := hf 2 f2 rfl
    rw [ho0, hz0] at g0
    rw [ho1, hz1] at g1
    rw [ho2, hz2] at g2
    obtain ⟨y0, r0, b0⟩ := h0 H enc w n _ x0 g0
    obtain ⟨y1, r1, b1⟩ := h1 H enc w n _ x1 g1
    obtain ⟨y2, r2, b2⟩ := h2 H enc w n _ x2 g2
    refine ⟨(y0, y1, y2), ?_, hB0 _ _ _ b0 ?_, hB1 _ _ _ b1 ?_, hB2 _ _ _ b2 ?_⟩
    · have e : cs = (cs.drop 0).take s0 ++ ((cs.drop s0).take s1 ++ (cs.drop (s0 + s1)).take s2) := by
        rw [List.drop_zero]
        conv => lhs; rw [← List.take_append_drop s0 cs]
        congr 1
        conv => lhs; rw [← List.take_append_drop s1 (cs.drop s0)]
        congr 1
        rw [List.drop_drop, List.take_of_length_le]
        rw [List.length_drop]; omega
      rw [e]
      exact r0.append (r1.append r2)
    · simp only [Rows.uptoBulk, List.map_cons, List.map_nil, Rows.uptoBulkAll]; omega
    · simp only [Rows.uptoBulk, List.map_cons, List.map_nil, Rows.uptoBulkAll]; omega
    · simp only [Rows.uptoBulk, List.map_cons, List.map_nil, Rows.uptoBulkAll]; omega
end
end Go.Proofs.YtcoflhkcpnoaaaaGreat
namespace Go.PN
theorem take_memZ {o : List Int} {i : Nat} {x : Int} : x ∈ o.take i ↔ ∃ k, k < i ∧ k < o.length ∧ o.getD k 0 = x := by
  constructor
  · intro h
    obtain ⟨k, hk, e⟩ := List.mem_iff_getElem.1 h
    simp only [List.length_take] at hk
    refine ⟨k, by omega, by omega, ?_⟩
    rw [getDZ (by omega), ← e, List.getElem_take]
  · rintro ⟨k, h1, h2, rfl⟩
    rw [getDZ h2]
    exact List.mem_iff_getElem.2 ⟨k, by simp; omega, by rw [List.getElem_take]⟩
end Go.PN
namespace Go.Proofs.YtcoflhkcpnoaaaaGreat
open Go.AI Go.PN
attribute [local irreducible] aw Fa Fh DrK
set_option maxHeartbeats 1600000 in
theorem ocheckR_fa (o : List Int) (vars : Int) (hl : o.length ≤ 1099511627776) : Fa Tryz.prog 25 [.c (is false o), .c (.int .i64 vars)] (.c (.int .i64 (ocode o vars))) := by
  refine fa_of_body Tryz.func25 rfl rfl (by simp [Tryz.ntmps25]) fun C hC => ?_
  simp only [initS, Nat.reduceAdd]
  refine xG ?_
  by_cases hv0 : vars < 0
  · have e1 : decide (vars < 0) = true := by simp [hv0]
    refine yG e1 ?_
    refine yP e1 ?_
    refine yG e1 ?_
    refine yT hC e1 ?_
    exact .one (.c (ler_int (by unfold ocode; rw [if_pos (.inl hv0)])))
  have e1 : decide (vars < 0) = false := by simp [hv0]
  refine yG e1 ?_
  refine yF e1 (fun hb=>?_) fun hb=>?_
  · have := of_decide_eq_true hb
    refine yG e1 ?_
    refine yT hC e1 ?_
    exact .one (.c (ler_int (by unfold ocode; rw [if_pos (.inr (by omega))])))
  have hv24 : vars ≤ 24 := by have := of_decide_eq_false hb; omega
  refine yG e1 ?_
  refine yF e1 (fun hc=>?_) fun hc=>?_
  · have hne : (o.length : Int) ≠ vars := fun e => by rw [e] at hc; simp at hc
    refine yG e1 ?_
    refine yT hC e1 ?_
    exact .one (.c (ler_int (by unfold ocode; rw [if_neg (by omega), if_pos hne])))
  have hlen : (o.length : Int) = vars := by
    have : ((o.length : Int) == vars) = true := by simpa [bne] using hc
    exact eq_of_beq this
  have hcode : ocode o vars = oscan vars [] o := by unfold ocode; rw [if_neg (by omega), if_neg (by omega)]
  rw [hcode]
  refine yG e1 ?_
  refine aw_lp (fun i : Nat => [(0, .c (is false o)), (1, .c (.int .i64 vars)), (5, .c (.int .i64 i))]) (fun _ => []) (fun i => i ≤ o.length ∧ oscan vars (o.take i) (o.drop i) = oscan vars [] o) (fun i => o.length - i) 0 (zB e1) zZ ⟨Nat.zero_le _, by simp⟩ ?_
  rintro i ⟨hi, hs⟩
  refine yG e1 ?_
  refine yF e1 (fun hb1=>?_) fun hb1=>?_
  · have hin : i < o.length := by have := of_decide_eq_true hb1; omega
    rw [oscan_step hin] at hs
    refine yG e1 ?_
    by_cases hx0 : o.getD i 0 < 0
    · have e2 : decide (o.getD i 0 < 0) = true := decide_eq_true hx0
      refine yG (oj e1 e2) ?_
      refine yP (oj e1 e2) ?_
      refine yG (oj e1 e2) ?_
      refine yT hC (oj e1 e2) ?_
      exact .one (.c (ler_int (by rw [← hs, if_pos (.inl hx0)])))
    have e2 : decide (o.getD i 0 < 0) = false := decide_eq_false hx0
    refine yG (oj e1 e2) ?_
    refine yF (oj e1 e2) (fun hx1=>?_) fun hx1=>?_
    · have hx1' := of_decide_eq_true hx1
      refine yG (oj e1 e2) ?_
      refine yT hC (oj e1 e2) ?_
      exact .one (.c (ler_int (by rw [← hs, if_pos (.inr hx1')])))
    have hx1' : ¬ vars ≤ o.getD i 0 := of_decide_eq_false hx1
    rw [if_neg (by omega)] at hs
    refine yG (oj e1 e2) ?_
    refine aw_lp (fun k : Nat => [(0, .c (is false o)), (1, .c (.int .i64 vars)), (5, .c (.int .i64 i)), (6, .c (.int .i64 k))]) (fun _ => []) (fun k => k ≤ i ∧ ∀ j, j < k → o.getD j 0 ≠ o.getD i 0) (fun k => i - k) 0 (zB (oj e1 e2)) zZ ⟨Nat.zero_le _, fun j hj => by omega⟩ ?_
    rintro k ⟨hk, hks⟩
    refine yG (oj e1 e2) ?_
    refine yF (oj e1 e2) (fun hb2=>?_) fun hb2=>?_
    · have hki : k < i := by have := of_decide_eq_true hb2; omega
      refine yG (oj e1 e2) ?_
      refine aw_dr 9 ty_mixed (by kernel_rfl) ?_
      refine yG (oj e1 e2) ?_
      refine yF (oj e1 e2) (fun he=>?_) fun he=>?_
      · have he' := eq_of_beq he
        refine yG (oj e1 e2) ?_
        refine yT hC (oj e1 e2) ?_
        exact .one (.c (ler_int (by rw [← hs, if_pos (take_memZ.2 ⟨k, hki, by omega, he'⟩)])))
      · have hne : o.getD k 0 ≠ o.getD i 0 := fun e => by rw [e] at he; simp at he
        refine yG (oj e1 e2) ?_
        refine aw_stop ⟨k + 1, by omega, (zB (oj e1 e2)), zZ, by omega, fun j hj => ?_⟩
        by_cases hji : j = k
        · rw [hji]; exact hne
        · exact hks j (by omega)
    · have hki : k = i := by have := of_decide_eq_false hb2; omega
      subst hki
      rw [if_neg (fun hm => by obtain ⟨j, h1, _, h3⟩ := take_memZ.1 hm; exact hks j h1 h3)] at hs
      refine yG (oj e1 e2) ?_
      exact aw_stop ⟨k + 1, by omega, (zB (oj e1 e2)), zZ, by omega, hs⟩
  · have hin : i = o.length := by have := of_decide_eq_false hb1; omega
    subst hin
    refine yG e1 ?_
    refine yT hC e1 ?_
    exact .one (.c (ler_int (by rw [← hs, List.drop_length]; rfl)))
end Go.Proofs.YtcoflhkcpnoaaaaGreat
namespace Go.Proofs.YtcoflhkcpnoaaaaGreat
open Go.AI Go.PN Go.ChangeShapes Go.WideShapes Go.RowKit
section
variable {H : Type} {enc : TypeId × Value → H} {P : Program}
theorem arg_agg {α : Type} {c : α → List CV} {B : α → Nat → Prop} {t : TypeId} {fs : Array Field} (hr : Rdr P t c B) (ht : P.underlying t = some (.struct fs)) {W : World} {base : Nat} {v : Value} {d : DataW H} {p : List MemPlace} (ho : Value.okWide P W .any base t v) (h : DataW.Trod enc P W 0 (fun _ => true) true t v d p) :
    ∃ y, Rep0 (AllB W) W (.agg (c y)) v ∧ B y (Rows.uptoBulk d) := by
  obtain ⟨cs, rfl, _⟩ := okWide_struct ht ho
  obtain ⟨fuel, hf⟩ := h
  obtain ⟨y, h1, h2⟩ := hr H enc W fuel _ _ hf
  exact ⟨y, ⟨cs.toList, by simp, h1⟩, h2⟩
end
end Go.Proofs.YtcoflhkcpnoaaaaGreat
