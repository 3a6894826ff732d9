/- Texts of one proof, laid one behind the other by a program (merge.py): PSml. -/
import Derived.Test.YtlpejaefobdajaaGreatM21
set_option linter.unusedSimpArgs false
set_option linter.unusedVariables false
/- Tables of nodes: Small. No program in sight. -/
namespace Go.PN
open Go.AI
theorem ieq_t {a b : Int} (h : a = b) : (a == b) = true ∧ decide (a = b) = true ∧ (a != b) = false ∧ (!decide (a = b)) = false := by subst h; simp
theorem ieq_f {a b : Int} (h : ¬ a = b) : (a == b) = false ∧ decide (a = b) = false ∧ (a != b) = true ∧ (!decide (a = b)) = true := by simp [h]
/-- A call of the walk of Small. -/
structure Sm (o : List Int) (ns : List DN) (sl sl' : List Int) (r : Int) : Prop where
  pre : ∃ zs, sl' = sl ++ zs
  len : sl'.length ≤ sl.length + (2 ^ (o.length - lvZ o ns r).toNat - 1)
theorem Sm.same {o : List Int} {ns : List DN} {sl : List Int} {r : Int} : Sm o ns sl sl r := ⟨⟨[], by simp⟩, by omega⟩
theorem Sm.node {o : List Int} {ns : List DN} {sl s1 s2 : List Int} {r : Int} (ht : TabOk o ns) (h2 : 2 ≤ r) (hr : r < ns.length + 2) (a : Sm o ns (sl ++ [r]) s1 (ns.getD (r - 2).toNat dn0).lo) (b : Sm o ns s1 s2 (ns.getD (r - 2).toNat dn0).hi) : Sm o ns sl s2 r := by
  obtain ⟨z1, e1⟩ := a.pre
  obtain ⟨z2, e2⟩ := b.pre
  refine ⟨⟨[r] ++ z1 ++ z2, by rw [e2, e1]; simp⟩, ?_⟩
  have hi' : (r - 2).toNat < ns.length := by omega
  have nd := ht _ hi'
  have b1 := nd.bl
  have b2 := nd.bh
  have hlr : lvZ o ns r = placeZ o (ns.getD (r - 2).toNat dn0).v := by unfold lvZ; rw [if_neg (by omega)]
  have ll := lv_le (o := o) (ns := ns) (r := (ns.getD (r - 2).toNat dn0).lo)
  have lh := lv_le (o := o) (ns := ns) (r := (ns.getD (r - 2).toNat dn0).hi)
  have la := a.len
  have lb := b.len
  rw [List.length_append, List.length_singleton] at la
  obtain ⟨q, hq⟩ : ∃ q, (o.length - lvZ o ns r).toNat = q + 1 := ⟨(o.length - lvZ o ns r).toNat - 1, by omega⟩
  have pa : 2 ^ ((o.length : Int) - lvZ o ns (ns.getD (r - 2).toNat dn0).lo).toNat ≤ 2 ^ q := Nat.pow_le_pow_right (by omega) (by omega)
  have pb : 2 ^ ((o.length : Int) - lvZ o ns (ns.getD (r - 2).toNat dn0).hi).toNat ≤ 2 ^ q := Nat.pow_le_pow_right (by omega) (by omega)
  have pq : 0 < 2 ^ q := Nat.pow_pos (by omega)
  rw [hq, Nat.pow_succ]
  omega
/-- The map of what has been seen. -/
def snL (sl : List Int) : List (Int × Value) := sl.map fun e => (e, .bool true)
theorem sn_get (r : Int) : ∀ sl : List Int, kvGet r (snL sl) = if r ∈ sl then some (.bool true) else none
  | [] => by simp [snL, kvGet]
  | e :: sl => by
    show (if r = e then some (Value.bool true) else kvGet r (snL sl)) = _
    rw [sn_get r sl]
    by_cases h : r = e
    · subst h; simp
    · rw [if_neg h]
      by_cases hm : r ∈ sl
      · rw [if_pos hm, if_pos (List.mem_cons_of_mem _ hm)]
      · rw [if_neg hm, if_neg (by simp [h, hm])]
theorem sn_push (sl : List Int) (r : Int) : snL sl ++ [(r, .bool true)] = snL (sl ++ [r]) := by simp [snL]
end Go.PN
