/- Texts of one proof, laid one behind the other by a program (merge.py): PCan, PAdd, PSig, Cut1, AiCopy, Rep1, Str1, Law6, Law8, Law12. -/
import Derived.Test.YtlpejaefobdajaaGreatK20
import Derived.Test.YtlpejaefobdajaaGreatK21
import Derived.Test.YtlpejaefobdajaaGreatK16
import Derived.Test.YtlpejaefobdajaaGreatK18
import Derived.Test.YtlpejaefobdajaaGreatK25
import Derived.Test.YtlpejaefobdajaaGreatK03
import Derived.Test.YtlpejaefobdajaaGreatK15
import Derived.Test.YtlpejaefobdajaaGreatK12
import Derived.Test.YtlpejaefobdajaaGreatK24
set_option linter.unusedSimpArgs false
set_option linter.unusedVariables false
/- Tables of nodes: a function has one reference. No program in sight. -/
namespace Go.PN
open Go.AI
theorem lv_eq_node {o : List Int} {ns : List DN} {r : Int} (h2 : 2 ≤ r) : lvZ o ns r = placeZ o (ns.getD (r - 2).toNat dn0).v := by unfold lvZ; rw [if_neg (by omega)]
theorem place_inj {o : List Int} {a b : Int} (ha : a ∈ o) (hb : b ∈ o) (h : placeZ o a = placeZ o b) : a = b := by
  have h0 := place_nonneg ha
  have e1 := place_at (o := o) (v := a) rfl h0 ha
  have e2 := place_at (o := o) (v := b) (L := placeZ o a) h.symm h0 hb
  rw [← e1, ← e2]
/-- What a node answers, with its event told. -/
theorem node_told {o : List Int} {ns : List DN} (ht : TabOk o ns) {r : Int} (h2 : 2 ≤ r) (hr : r < ns.length + 2) (s : Nat) (b : Bool) :
    evalD ns (setB s (ns.getD (r - 2).toNat dn0).v.toNat b) r = evalD ns s (if b then (ns.getD (r - 2).toNat dn0).hi else (ns.getD (r - 2).toNat dn0).lo) := by
  have hi' : (r - 2).toNat < ns.length := by omega
  have nd := ht _ hi'
  obtain ⟨v0, v1, _, _, _, _⟩ := nd.nk
  obtain ⟨r1, r2⟩ := kids_ref ht hi'
  have hv : (((ns.getD (r - 2).toNat dn0).v.toNat : Nat) : Int) = (ns.getD (r - 2).toNat dn0).v := by omega
  rw [evalD_step ht.ns h2 hr]
  unfold kid
  rw [setB_bit, if_pos rfl]
  cases b with
  | true => exact setB_indep ht r2 (by rw [hv]; exact nd.bh) s true
  | false => exact setB_indep ht r1 (by rw [hv]; exact nd.bl) s false
/-- A FUNCTION HAS ONE REFERENCE. -/
theorem tab_canon {o : List Int} {ns : List DN} (hm : ∀ v : Int, 0 ≤ v → v < o.length → v ∈ o) (ht : TabOk o ns) : ∀ (k : Nat) (a b : Int), RefOk ns a → RefOk ns b → (o.length - lvZ o ns a).toNat ≤ k → (o.length - lvZ o ns b).toNat ≤ k → (∀ s, evalD ns s a = evalD ns s b) → a = b := by
  intro k
  induction k with
  | zero =>
    intro a b ha hb la lb h
    have leaf : ∀ r : Int, RefOk ns r → (o.length - lvZ o ns r).toNat ≤ 0 → r < 2 := fun r hr hl => by
      refine Classical.byContradiction fun hc => ?_
      have := lv_lt ht hr (by omega)
      omega
    have a2 := leaf a ha la
    have b2 := leaf b hb lb
    have := h 0
    rw [evalD_leaf (by omega), evalD_leaf (by omega)] at this
    unfold RefOk at ha hb
    have e : decide (a = 1) = decide (b = 1) := by simpa using this
    rw [decide_eq_decide] at e
    omega
  | succ k ih =>
    have below : ∀ a b : Int, RefOk ns a → RefOk ns b → (o.length - lvZ o ns a).toNat ≤ k + 1 → 2 ≤ a → lvZ o ns a < lvZ o ns b → (∀ s, evalD ns s a = evalD ns s b) → False := by
      intro a b ha hb la a2 hlt h
      have hi' : (a - 2).toNat < ns.length := by unfold RefOk at ha; omega
      have nd := ht _ hi'
      obtain ⟨v0, v1, _, _, _, _⟩ := nd.nk
      obtain ⟨r1, r2⟩ := kids_ref ht hi'
      have hv : (((ns.getD (a - 2).toNat dn0).v.toNat : Nat) : Int) = (ns.getD (a - 2).toNat dn0).v := by omega
      have hla := lv_eq_node (o := o) (ns := ns) a2
      have b1 := nd.bl
      have b2 := nd.bh
      refine nd.ne (ih _ _ r1 r2 (by omega) (by omega) fun s => ?_)
      have t := node_told ht a2 ha.2 s true
      have f := node_told ht a2 ha.2 s false
      rw [if_pos rfl] at t
      rw [if_neg (by simp)] at f
      rw [← f, ← t, h, h, setB_indep ht hb (by rw [hv, ← hla]; exact hlt), setB_indep ht hb (by rw [hv, ← hla]; exact hlt)]
    intro a b ha hb la lb h
    by_cases hl : lvZ o ns a = lvZ o ns b
    · by_cases a2 : 2 ≤ a
      · have b2 : 2 ≤ b := by
          refine Classical.byContradiction fun hc => ?_
          have h1 := lv_lt ht ha a2
          have h3 : lvZ o ns b = o.length := by unfold lvZ; rw [if_pos (by omega)]
          omega
        have hia : (a - 2).toNat < ns.length := by unfold RefOk at ha; omega
        have hib : (b - 2).toNat < ns.length := by unfold RefOk at hb; omega
        have na := ht _ hia
        have nb := ht _ hib
        obtain ⟨v0, v1, _, _, _, _⟩ := na.nk
        obtain ⟨u0, u1, _, _, _, _⟩ := nb.nk
        obtain ⟨ra, sa⟩ := kids_ref ht hia
        obtain ⟨rb, sb⟩ := kids_ref ht hib
        have hla := lv_eq_node (o := o) (ns := ns) a2
        have hlb := lv_eq_node (o := o) (ns := ns) b2
        have ev : (ns.getD (a - 2).toNat dn0).v = (ns.getD (b - 2).toNat dn0).v := place_inj (hm _ v0 v1) (hm _ u0 u1) (by omega)
        have q1 := na.bl
        have q2 := na.bh
        have q3 := nb.bl
        have q4 := nb.bh
        have el : (ns.getD (a - 2).toNat dn0).lo = (ns.getD (b - 2).toNat dn0).lo := ih _ _ ra rb (by omega) (by omega) fun s => by
          have f := node_told ht a2 ha.2 s false
          have g := node_told ht b2 hb.2 s false
          rw [if_neg (by simp)] at f g
          rw [← f, ← g, ev, h]
        have eh : (ns.getD (a - 2).toNat dn0).hi = (ns.getD (b - 2).toNat dn0).hi := ih _ _ sa sb (by omega) (by omega) fun s => by
          have f := node_told ht a2 ha.2 s true
          have g := node_told ht b2 hb.2 s true
          rw [if_pos rfl] at f g
          rw [← f, ← g, ev, h]
        have same : ns.getD (a - 2).toNat dn0 = ns.getD (b - 2).toNat dn0 := by
          cases hA : ns.getD (a - 2).toNat dn0
          cases hB : ns.getD (b - 2).toNat dn0
          rw [hA, hB] at ev el eh
          dsimp only at ev el eh
          rw [ev, el, eh]
        refine Classical.byContradiction fun hne => ?_
        rcases Nat.lt_or_gt_of_ne (show (a - 2).toNat ≠ (b - 2).toNat from fun e => hne (by omega)) with hlt | hlt
        · refine nb.new ?_
          rw [← same]
          exact take_memN.2 ⟨_, hlt, hia, rfl⟩
        · refine na.new ?_
          rw [same]
          exact take_memN.2 ⟨_, hlt, hib, rfl⟩
      · have b2 : b < 2 := by
          refine Classical.byContradiction fun hc => ?_
          have h1 := lv_lt ht hb (by omega)
          have h3 : lvZ o ns a = o.length := by unfold lvZ; rw [if_pos (by omega)]
          omega
        have := h 0
        rw [evalD_leaf (by omega), evalD_leaf (by omega)] at this
        unfold RefOk at ha hb
        have e : decide (a = 1) = decide (b = 1) := by simpa using this
        rw [decide_eq_decide] at e
        omega
    · exfalso
      rcases Int.lt_or_gt_of_ne hl with hlt | hlt
      · refine below a b ha hb la ?_ hlt h
        refine Classical.byContradiction fun hc => ?_
        have h3 : lvZ o ns a = o.length := by unfold lvZ; rw [if_pos (by omega)]
        have := lv_le (o := o) (ns := ns) (r := b)
        omega
      · refine below b a hb ha lb ?_ hlt fun s => (h s).symm
        refine Classical.byContradiction fun hc => ?_
        have h3 : lvZ o ns b = o.length := by unfold lvZ; rw [if_pos (by omega)]
        have := lv_le (o := o) (ns := ns) (r := a)
        omega
end Go.PN

/- Probabilities as means of what a diagram answers: sums, negations, bounds. No program in sight. -/
namespace Go.PN
open Go.AI
def evB (b : Bool) : Rat := if b then 1 else 0
theorem ex_sub1 {p : Nat → Rat} : ∀ (m : Nat) (f : Nat → Rat), exQ p m (fun s => 1 - f s) = 1 - exQ p m f
  | 0, f => rfl
  | m + 1, f => by rw [exQ, exQ, ex_sub1 m f, ex_sub1 m (fun s => f (s + 2 ^ m))]; grind
theorem unit_mix {p a b : Rat} (p0 : 0 ≤ p) (p1 : p ≤ 1) (a0 : 0 ≤ a) (a1 : a ≤ 1) (b0 : 0 ≤ b) (b1 : b ≤ 1) : 0 ≤ (1 - p) * a + p * b ∧ (1 - p) * a + p * b ≤ 1 := by
  have q0 : 0 ≤ 1 - p := by grind
  have h1 := Rat.mul_nonneg q0 a0
  have h2 := Rat.mul_nonneg p0 b0
  have h3 := Rat.mul_nonneg q0 (show 0 ≤ 1 - a by grind)
  have h4 := Rat.mul_nonneg p0 (show 0 ≤ 1 - b by grind)
  constructor
  · grind
  · grind
theorem ex_unit {p : Nat → Rat} : ∀ (m : Nat) (f : Nat → Rat), (∀ i, i < m → 0 ≤ p i ∧ p i ≤ 1) → (∀ s, 0 ≤ f s ∧ f s ≤ 1) → 0 ≤ exQ p m f ∧ exQ p m f ≤ 1
  | 0, f, _, h => h 0
  | m + 1, f, hp, h => by
    rw [exQ]
    obtain ⟨a0, a1⟩ := ex_unit m f (fun i hi => hp i (by omega)) h
    obtain ⟨b0, b1⟩ := ex_unit m (fun s => f (s + 2 ^ m)) (fun i hi => hp i (by omega)) (fun s => h _)
    exact unit_mix (hp m (by omega)).1 (hp m (by omega)).2 a0 a1 b0 b1
end Go.PN
namespace Go.Proofs.YtlpejaefobdajaaGreat
open Go.AI Go.PN
theorem prS_ex {d : DG} {p : List RD} (h : d.order.length = p.length) : prS d p = exQ (prP p) p.length (fun s => evB (evalD d.nodes s d.root)) := by
  unfold prS
  rw [sumQ_ex]
  refine ex_congr _ _ _ fun s hs => ?_
  unfold evB tabL
  rw [List.getD_eq_getElem?_getD, h]
  simp [hs]
theorem prS_not {d e : DG} {p : List RD} (hd : d.order.length = p.length) (he : e.order.length = p.length) (h : ∀ s, evalD e.nodes s e.root = !evalD d.nodes s d.root) : prS e p = 1 - prS d p := by
  rw [prS_ex hd, prS_ex he, ← ex_sub1]
  exact ex_congr _ _ _ fun s _ => by rw [h s]; cases evalD d.nodes s d.root <;> simp only [evB, Bool.not_false, Bool.not_true, if_true, if_false, Bool.false_eq_true] <;> grind
theorem prob_unit {r : RD} (h : r.prob = true) : 0 ≤ r.q ∧ r.q ≤ 1 := by
  unfold RD.prob at h
  simp only [Bool.and_eq_true, decide_eq_true_eq] at h
  exact ⟨by have := h; grind, by have := h; grind⟩
theorem small_like {d e : DG} {p : List RD} (hs : Small d p) (h0 : dpcode d p = 0) (he : dcode e = 0) (ho : e.order = d.order) : Small e p ∧ dpcode e p = 0 := by
  have o6 := hs.o6 h0
  have n := (dg_ok he).n4096
  refine ⟨⟨hs.w, hs.l, by rw [ho]; exact hs.o, by omega, fun _ => by rw [ho]; exact o6⟩, ?_⟩
  unfold dpcode at h0 ⊢
  rw [if_neg (by simpa using he), ho]
  split at h0
  · rename_i h; exact absurd h0 h
  · exact h0
end Go.Proofs.YtlpejaefobdajaaGreat

/- Importances of monotone functions and of negations. No program in sight. -/
namespace Go.PN
open Go.AI
theorem setB_add {s v m : Nat} {b : Bool} (hs : s < 2 ^ m) (hv : v < m) : setB (s + 2 ^ m) v b = setB s v b + 2 ^ m := Nat.eq_of_testBit_eq fun j => by
  have hl : setB s v b < 2 ^ m := by
    refine Nat.lt_pow_two_of_testBit _ fun j hj => ?_
    rw [setB_bit, if_neg (by omega)]
    exact Nat.testBit_lt_two_pow (Nat.lt_of_lt_of_le hs (Nat.pow_le_pow_right (by omega) hj))
  rw [setB_bit]
  rcases Nat.lt_trichotomy j m with h | h | h
  · rw [tb_lo h, tb_lo h, setB_bit]
  · subst h
    rw [tb_hi hs, tb_hi hl, if_neg (by omega)]
  · have big : ∀ x : Nat, x < 2 ^ m → (x + 2 ^ m).testBit j = false := fun x hx => Nat.testBit_lt_two_pow (by
      have h1 : 2 ^ (m + 1) ≤ 2 ^ j := Nat.pow_le_pow_right (by omega) h
      have h2 : 2 ^ (m + 1) = 2 ^ m + 2 ^ m := by rw [Nat.pow_succ]; omega
      omega)
    rw [big s hs, big _ hl, if_neg (by omega)]
theorem setB_hi {s m : Nat} (hs : s < 2 ^ m) : setB s m true = s + 2 ^ m ∧ setB s m false = s ∧ setB (s + 2 ^ m) m true = s + 2 ^ m ∧ setB (s + 2 ^ m) m false = s := by
  have hf : s.testBit m = false := Nat.testBit_lt_two_pow hs
  have ht : (s + 2 ^ m).testBit m = true := tb_hi hs
  have hx : s ^^^ 2 ^ m = s + 2 ^ m := Nat.eq_of_testBit_eq fun j => by
    rw [Nat.testBit_xor, Nat.testBit_two_pow]
    rcases Nat.lt_trichotomy j m with h | h | h
    · rw [tb_lo h, decide_eq_false (by omega), Bool.xor_false]
    · subst h; rw [ht, hf]; simp
    · have h1 : 2 ^ (m + 1) ≤ 2 ^ j := Nat.pow_le_pow_right (by omega) h
      have h2 : 2 ^ (m + 1) = 2 ^ m + 2 ^ m := by rw [Nat.pow_succ]; omega
      rw [Nat.testBit_lt_two_pow (show s + 2 ^ m < 2 ^ j by omega), Nat.testBit_lt_two_pow (show s < 2 ^ j by omega), decide_eq_false (by omega)]; rfl
  have hx2 : (s + 2 ^ m) ^^^ 2 ^ m = s := by rw [← hx, Nat.xor_assoc, Nat.xor_self, Nat.xor_zero]
  refine ⟨?_, ?_, ?_, ?_⟩ <;> unfold setB
  · rw [if_neg (by rw [hf]; simp), hx]
  · rw [if_pos hf]
  · rw [if_pos ht]
  · rw [if_neg (by rw [ht]; simp), hx2]
/-- A certain event. -/
theorem ex_set {p : Nat → Rat} {v : Nat} (b : Bool) : ∀ (m : Nat) (f : Nat → Rat), v < m → exQ (updP p v (if b then 1 else 0)) m f = exQ p m (fun s => f (setB s v b))
  | 0, f, h => by omega
  | m + 1, f, h => by
    rw [exQ, exQ]
    by_cases e : v = m
    · subst e
      have e1 : ∀ c g, exQ (updP p v c) v g = exQ p v g := fun c g => ex_pcongr v g fun j hj => by unfold updP; rw [if_neg (by omega)]
      rw [e1, e1, show updP p v (if b then 1 else 0) v = if b then 1 else 0 from by unfold updP; rw [if_pos rfl]]
      cases b with
      | true =>
        rw [ex_congr v (fun s => f (setB s v true)) (fun s => f (s + 2 ^ v)) fun s hs => by rw [(setB_hi hs).1], ex_congr v (fun s => f (setB (s + 2 ^ v) v true)) (fun s => f (s + 2 ^ v)) fun s hs => by rw [(setB_hi hs).2.2.1]]
        simp only [if_true]
        grind
      | false =>
        rw [ex_congr v (fun s => f (setB s v false)) f fun s hs => by rw [(setB_hi hs).2.1], ex_congr v (fun s => f (setB (s + 2 ^ v) v false)) f fun s hs => by rw [(setB_hi hs).2.2.2]]
        simp only [Bool.false_eq_true, if_false]
        grind
    · have hv : v < m := by omega
      rw [show updP p v (if b then 1 else 0) m = p m from by unfold updP; rw [if_neg (fun x => e x.symm)], ex_set b m f hv, ex_set b m (fun s => f (s + 2 ^ m)) hv]
      rw [ex_congr m (fun s => f (setB (s + 2 ^ m) v b)) (fun s => f (setB s v b + 2 ^ m)) fun s hs => by rw [setB_add hs hv]]
theorem ex_sub {p : Nat → Rat} : ∀ (m : Nat) (f g : Nat → Rat), exQ p m (fun s => f s - g s) = exQ p m f - exQ p m g
  | 0, f, g => rfl
  | m + 1, f, g => by rw [exQ, exQ, exQ, ex_sub m f g, ex_sub m (fun s => f (s + 2 ^ m)) (fun s => g (s + 2 ^ m))]; grind
/-- A function that never falls when an event happens. -/
def MonoF (n : Nat) (f : Nat → Bool) : Prop := ∀ i : Nat, i < n → ∀ s, f (setB s i false) = true → f (setB s i true) = true
end Go.PN
namespace Go.Proofs.YtlpejaefobdajaaGreat
open Go.AI Go.PN
theorem impQ_ex {d : DG} {p : List RD} (hd : d.order.length = p.length) {i : Nat} (hi : i < p.length) : impQ d p i = exQ (prP p) p.length (fun s => evB (evalD d.nodes (setB s i true) d.root) - evB (evalD d.nodes (setB s i false) d.root)) := by
  have e : ∀ r : RD, prS d (p.set i r) = exQ (updP (prP p) i r.q) p.length (fun s => evB (evalD d.nodes s d.root)) := fun r => by
    rw [prS_ex (by rw [List.length_set]; exact hd), List.length_set]
    refine ex_pcongr _ _ fun j hj => ?_
    unfold prP updP
    by_cases hja : j = i
    · subst hja
      rw [if_pos rfl, List.getD_eq_getElem?_getD, List.getElem?_set_self hj]; rfl
    · rw [if_neg hja, List.getD_eq_getElem?_getD, List.getElem?_set_ne (fun e => hja e.symm), ← List.getD_eq_getElem?_getD]
  unfold impQ
  rw [e, e, rd_q, rd0_q, ex_sub]
  have t := ex_set (p := prP p) (v := i) true p.length (fun s => evB (evalD d.nodes s d.root)) hi
  have f := ex_set (p := prP p) (v := i) false p.length (fun s => evB (evalD d.nodes s d.root)) hi
  simp only [if_true, Bool.false_eq_true, if_false] at t f
  rw [t, f]
theorem imp_not {d e : DG} {p : List RD} (hd : d.order.length = p.length) (he : e.order.length = p.length) (h : ∀ s, evalD e.nodes s e.root = !evalD d.nodes s d.root) (i : Nat) : impQ e p i = -impQ d p i := by
  unfold impQ
  rw [prS_not (d := d) (e := e) (by rw [List.length_set]; exact hd) (by rw [List.length_set]; exact he) h, prS_not (d := d) (e := e) (by rw [List.length_set]; exact hd) (by rw [List.length_set]; exact he) h]
  grind
theorem imp_unit {d : DG} {p : List RD} (hd : d.order.length = p.length) (hp : ∀ r ∈ p, r.prob = true) (hm : MonoF d.order.length fun s => evalD d.nodes s d.root) {i : Nat} (hi : i < p.length) : 0 ≤ impQ d p i ∧ impQ d p i ≤ 1 := by
  rw [impQ_ex hd hi]
  refine ex_unit _ _ (fun j hj => ?_) fun s => ?_
  · unfold prP
    rw [List.getD_eq_getElem?_getD, List.getElem?_eq_getElem hj]
    exact prob_unit (hp _ (List.getElem_mem hj))
  · have := hm i (by omega) s
    dsimp only at this
    cases h1 : evalD d.nodes (setB s i true) d.root <;> cases h0 : evalD d.nodes (setB s i false) d.root
    · constructor <;> decide +kernel
    · exact absurd (this h0) (by rw [h1]; simp)
    · constructor <;> decide +kernel
    · constructor <;> decide +kernel
end Go.Proofs.YtlpejaefobdajaaGreat

/- order.Natural, cuts.natural, cuts.Monotone. -/
namespace Go.PN
open Go.AI
/-- The order 0, 1, ... -/
def natL (n : Nat) : List Int := (List.range n).map fun (i : Nat) => (i : Int)
theorem natL_len (n : Nat) : (natL n).length = n := by simp [natL]
theorem natL_perm (n : Nat) : Perm0 (natL n) := by
  refine ⟨fun x hx => ?_, ?_⟩
  · unfold natL at hx
    obtain ⟨i, hi, rfl⟩ := List.mem_map.1 hx
    rw [List.mem_range] at hi
    rw [natL_len]
    omega
  · exact List.Pairwise.map _ (fun a b h e => h (by omega)) List.nodup_range
theorem ints_extZ {xs ys : List Int} (hl : xs.length = ys.length) (h : ∀ j, j < xs.length → xs.getD j 0 = ys.getD j 0) : xs = ys := by
  apply List.ext_getElem hl
  intro i h1 h2
  have := h i h1
  rw [List.getD_eq_getElem?_getD, List.getD_eq_getElem?_getD, List.getElem?_eq_getElem h1, List.getElem?_eq_getElem h2] at this
  exact this
theorem natL_end {zs : List Int} {n : Nat} (hl : zs.length = n) (h : ∀ j, j < n → zs.getD j 0 = j) : zs = natL n := by
  refine ints_extZ (by rw [hl, natL_len]) fun j hj => ?_
  rw [h j (by omega)]
  unfold natL
  rw [List.getD_eq_getElem?_getD, List.getElem?_map, List.getElem?_range (by omega)]; rfl
end Go.PN
namespace Go.Proofs.YtlpejaefobdajaaGreat
open Go.AI Go.PN
attribute [local irreducible] aw Fa Fh DrK
theorem canon1 {o : List Int} {ns : List DN} (hm : ∀ v : Int, 0 ≤ v → v < o.length → v ∈ o) (ht : TabOk o ns) {r : Int} (hr : RefOk ns r) : r = 1 ↔ ∀ s, evalD ns s r = true := by
  constructor
  · rintro rfl s; exact ev1
  · intro h
    have h1 : RefOk ns 1 := ref1
    exact tab_canon hm ht o.length r 1 hr h1 (by have := lv3_nonneg hm ht hr; omega) (by have := lv3_nonneg hm ht h1; omega) fun s => by rw [h s, ev1]
set_option maxHeartbeats 800000 in
theorem natural_fa (n : Nat) (hn : n ≤ 24) : Fa Tryz.prog 191 [.c (.int .i64 n)] (.c (is true (natL n))) := by
  refine fa_of_body Tryz.func191 rfl rfl (by simp [Tryz.ntmps191]) fun C hC => ?_
  simp only [initS, Nat.reduceAdd]
  refine xG ?_
  refine aw_make (n := n) (c := n) (size := 1) (z := [.int .i64 0]) rfl rfl rfl eE eE rfl (by omega) eE eE rfl rfl (by omega) (by omega) (by omega) fun g hg => ?_
  rw [make_is n]
  refine xS ?_
  refine xG ?_
  refine aw_lp (fun x : Nat × List Int => [(3, .c (.osl g 1 0 n)), (8, .c (.int .i64 n)), (9, .c (.int .i64 x.1))]) (fun x => [(g, .cells 3 n (isF x.2))])
    (fun x => x.1 ≤ n ∧ x.2.length = n ∧ ∀ k, k < x.1 → x.2.getD k 0 = k) (fun x => n - x.1) (0, List.replicate n 0) eB zZ ⟨Nat.zero_le _, by simp, fun k hk => by omega⟩ ?_
  rintro ⟨i, zs⟩ ⟨hi, hzl, hz⟩
  dsimp only at hi hzl hz ⊢
  refine xG ?_
  refine xF (fun hb1=>?_) fun hb1=>?_
  · have hin : i < n := by have := of_decide_eq_true hb1; omega
    refine xG ?_
    refine xW ?_
    refine xS ?_
    rw [updF_is (by omega)]
    refine xG ?_
    refine aw_stop ⟨(i + 1, zs.set i i), by dsimp only; omega, eB, zZ, by dsimp only; omega, by simpa using hzl, fun k hk => ?_⟩
    dsimp only at hk ⊢
    by_cases hki : k = i
    · subst hki; exact getZset (by omega)
    · rw [getZset' hki]; exact hz k (by omega)
  · have hin : i = n := by have := of_decide_eq_false hb1; omega
    subst hin
    refine xG ?_
    refine xT hC ?_
    rw [← natL_end hzl hz]
    exact .one (.c (ler_oslis eE hzl.symm))
set_option maxHeartbeats 800000 in
theorem Natural_fa (n : Nat) (hn : n ≤ 24) : Fa Tryz.prog 153 [.c (.int .i64 n)] (.tup [.c (is true (natL n)), .c .nilI]) := by
  have z1 : decide ((n : Int) < 0) = false := decide_eq_false (by omega)
  have z2 : decide ((n : Int) > 24) = false := decide_eq_false (by omega)
  refine fa_of_body Tryz.func153 rfl rfl (by simp [Tryz.ntmps153]) fun C hC => ?_
  simp only [initS, Nat.reduceAdd]
  refine yG (oj z1 z2) ?_
  refine yN (oj z1 z2) ?_
  refine yG (oj z1 z2) ?_
  refine yC (oj z1 z2) (natural_fa n hn) ?_
  refine yG (oj z1 z2) ?_
  refine yT hC (oj z1 z2) ?_
  exact .tup ⟨.c ler_is, .c .nilI, trivial⟩
set_option maxRecDepth 100000 in
set_option maxHeartbeats 3200000 in
theorem cnatural_fh (d : DG) (h0 : dcode d = 0) (h12 : d.order.length ≤ 12) : Fh Tryz.prog 109 [] [.agg (dgc false d)] (fun x h => ∃ gT gU gM og ns mm r, TS (natL d.order.length) og ns mm ∧ RefOk ns r ∧ (∀ s, evalD ns s r = evalD d.nodes s d.root) ∧ ns.length ≤ 4096 * 2 ^ (d.order.length + 1) ∧ x = .tup [.c (.optr gT 0), .c (.int .i64 r), .c .nilI] ∧ h = THp gT gU gM og (natL d.order.length) (placesL (natL d.order.length)) ns mm) := by
  have ok := dg_ok h0
  have k1 := ok.n4096
  have hod : OdOk (natL d.order.length) (placesL (natL d.order.length)) := ⟨natL_perm _, pl_ok (natL_perm _), by rw [natL_len]; omega⟩
  have hol := natL_len d.order.length
  have hp : 2 ^ (d.order.length + 1) ≤ 2 ^ 13 := Nat.pow_le_pow_right (by omega) (by omega)
  have hm := Nat.mul_le_mul k1 hp
  have hm2 := Nat.mul_le_mul_right (2 ^ (d.order.length + 1)) k1
  have z0 := ieq_t h0
  have ts0 : TS (natL d.order.length) none [] [] := ⟨fun _ => rfl, fun i hi => absurd hi (Nat.not_lt_zero _), fun e he => absurd he List.not_mem_nil⟩
  refine fh_of_body Tryz.func109 rfl rfl (by simp [Tryz.ntmps109]) fun C hC => ?_
  simp only [initS, Nat.reduceAdd]
  refine yG z0 ?_
  refine yB z0 fun g1 hn_g1=>?_
  refine yG (oj z0 hn_g1) ?_
  refine aw_callq (dcheck_fa d (by omega) (by omega)) rfl rfl rfl (zL (oj z0 hn_g1)) ?_
  refine yS (oj z0 hn_g1) ?_
  refine yG (oj z0 hn_g1) ?_
  refine yN (oj z0 hn_g1) ?_
  refine yG (oj z0 hn_g1) ?_
  refine aw_callq (Natural_fa d.order.length (by omega)) rfl rfl rfl (zL (oj z0 hn_g1)) ?_
  refine yS (oj z0 hn_g1) ?_
  refine yG (oj z0 hn_g1) ?_
  refine yN (oj z0 hn_g1) ?_
  refine yG (oj z0 hn_g1) ?_
  generalize natL d.order.length = o at *
  refine aw_callh (hc := []) (hr := [(g1, .cells 25 3 (ofL (dgc false d)))]) (new_fh o hod.perm hod.l24) rfl rfl rfl (.refl _) (zL (oj z0 hn_g1)) ?_
  rintro _ _ ⟨gT, gU, gM, rfl, rfl⟩ hfr
  refine yS (oj z0 hn_g1) ?_
  refine aw_perm List.perm_append_comm ?_
  refine yS (oj z0 hn_g1) ?_
  refine yG (oj z0 hn_g1) ?_
  refine aw_perm (h' := THp gT gU gM none o (placesL o) [] [] ++ [(g1, .cells 25 3 (ofL (dgc false d)))]) (List.perm_append_comm (l₁ := [(g1, _)])) ?_
  refine aw_callh (translate_fh gT gU gM d ok hod hol ts0 (by rw [hol]; simp only [List.length_nil]; omega)) rfl rfl rfl (.refl _) (zL (oj z0 hn_g1)) ?_
  rintro _ _ ⟨og1, ns1, mm1, r1, s1, l1, p1, f1, rfl, rfl⟩ _
  have n1 := l1.len
  rw [hol] at n1
  simp only [List.length_nil] at n1
  refine yS (oj z0 hn_g1) ?_
  refine yG (oj z0 hn_g1) ?_
  refine aw_rethw (h' := THp gT gU gM og1 o (placesL o) ns1 mm1) rfl (List.sublist_append_left _ _) (fun R hR => ?_)
  simp only [go_sem, z0, hn_g1]
  refine hR _ rfl ?_
  clear hR R
  exact ⟨gT, gU, gM, og1, ns1, mm1, r1, s1, p1, f1, by omega, rfl, rfl⟩
/-- The room that monotone needs for an event. -/
def monoN (n : Nat) : Nat := 2 * (2 ^ n * 2 ^ (n + 1)) + 2 ^ (n + 1)
set_option maxRecDepth 100000 in
set_option maxHeartbeats 3200000 in
theorem monotone_fh (gT gU gM : Nat) {o pl : List Int} (ho : OdOk o pl) {og : Option Nat} {ns : List DN} {mm : Mem3} (hs : TS o og ns mm) (hn : ns.length + o.length * monoN o.length ≤ 1000000000) {r : Int} (hr : RefOk ns r) :
    Fh Tryz.prog 110 (THp gT gU gM og o pl ns mm) [.c (.optr gT 0), .c (.int .i64 r), .c (.int .i64 o.length)] (fun x h => ∃ b og' ns' mm', (b = true ↔ MonoF o.length fun s => evalD ns s r) ∧ TS o og' ns' mm' ∧ Later o ns ns' (o.length * monoN o.length) ∧ x = .c (.bool b) ∧ h = THp gT gU gM og' o pl ns' mm') := by
  have l24 := ho.l24
  have hB : 0 < 2 ^ (o.length + 1) := Nat.pow_pos (by omega)
  refine fh_of_body Tryz.func110 rfl rfl (by simp [Tryz.ntmps110]) fun C hC => ?_
  simp only [initS, Nat.reduceAdd]
  refine xG ?_
  refine aw_lp (fun x : Nat × Option Nat × List DN × Mem3 => [(0, .c (.optr gT 0)), (1, .c (.int .i64 r)), (8, .c (.int .i64 o.length)), (9, .c (.int .i64 x.1))]) (fun x => THp gT gU gM x.2.1 o pl x.2.2.1 x.2.2.2)
    (fun x => x.1 ≤ o.length ∧ TS o x.2.1 x.2.2.1 x.2.2.2 ∧ Later o ns x.2.2.1 (x.1 * monoN o.length) ∧ ∀ j, j < x.1 → ∀ s, evalD ns (setB s j false) r = true → evalD ns (setB s j true) r = true) (fun x => o.length - x.1) (0, og, ns, mm) eB zZ ⟨Nat.zero_le _, hs, Later.refl hs.tab _, fun j hj => by omega⟩ ?_
  rintro ⟨i, og0, ns0, mm0⟩ ⟨hi, hs0, hl0, hm0⟩
  dsimp only at hi hs0 hl0 hm0 ⊢
  have hln := hl0.len
  refine xG ?_
  refine xF (fun hb1=>?_) fun hb1=>?_
  · have hin : i < o.length := by have := of_decide_eq_true hb1; omega
    have hst : (i + 1) * monoN o.length = i * monoN o.length + monoN o.length := by rw [Nat.add_mul, Nat.one_mul]
    have hle : (i + 1) * monoN o.length ≤ o.length * monoN o.length := Nat.mul_le_mul_right _ hin
    have hmn : monoN o.length = 2 * (2 ^ o.length * 2 ^ (o.length + 1)) + 2 ^ (o.length + 1) := rfl
    have hr0 := hl0.ref hr
    refine xG ?_
    refine aw_callh (hr := []) (restrict_fh gT gU gM ho hin hs0 (by omega) hr0 false) rfl rfl rfl (by rw [List.append_nil]) eL ?_
    rintro _ _ ⟨og1, ns1, mm1, r1, s1, l1, q1, f1, rfl, rfl⟩ _
    rw [List.append_nil]
    have n1 := l1.len
    refine xS ?_
    refine xG ?_
    refine aw_callh (hr := []) (restrict_fh gT gU gM ho hin s1 (by omega) (l1.ref hr0) true) rfl rfl rfl (by rw [List.append_nil]) eL ?_
    rintro _ _ ⟨og2, ns2, mm2, r2, s2, l2, q2, f2, rfl, rfl⟩ _
    rw [List.append_nil]
    have n2 := l2.len
    refine xS ?_
    refine xG ?_
    refine aw_callh (hr := []) (choose_fh gT gU gM ho s2 (by omega) (l2.ref q1) q2 ref1) rfl rfl rfl (by rw [List.append_nil]) eL ?_
    rintro _ _ ⟨og3, ns3, mm3, r3, s3, l3, q3, f3, rfl, rfl⟩ _
    rw [List.append_nil]
    have n3 := l3.len
    have lat : Later o ns ns3 ((i + 1) * monoN o.length) := ((hl0.trans l1 (Nat.le_refl _)).trans l2 (Nat.le_refl _)).trans l3 (by omega)
    have hsem : ∀ s, evalD ns3 s r3 = if evalD ns (setB s i false) r then evalD ns (setB s i true) r else true := fun s => by
      have a1 : evalD ns2 s r1 = evalD ns (setB s i false) r := by rw [l2.eval s1.tab q1, f1 s]; dsimp only; rw [hl0.eval hs.tab hr]
      have a2 : evalD ns2 s r2 = evalD ns (setB s i true) r := by rw [f2 s]; dsimp only; rw [l1.eval hs0.tab hr0, hl0.eval hs.tab hr]
      rw [f3 s]
      dsimp only
      rw [a1, a2, ev1]
    have hc := canon1 ho.mem s3.tab q3
    refine xS ?_
    refine xG ?_
    refine xF (fun hb2=>?_) fun hb2=>?_
    · have hne : ¬ r3 = 1 := by simpa using hb2
      refine xG ?_
      refine xU ?_
      refine ⟨false, og3, ns3, mm3, ⟨fun h => (Bool.false_ne_true h).elim, fun hmono => ?_⟩, s3, ⟨lat.tab, lat.pre, by have := lat.len; omega⟩, rfl, rfl⟩
      refine absurd (hc.2 fun s => ?_) hne
      rw [hsem s]
      split
      · rename_i h; exact hmono i hin s h
      · rfl
    · have heq : r3 = 1 := by simpa using hb2
      have hall := hc.1 heq
      refine xG ?_
      refine aw_stop ⟨(i + 1, og3, ns3, mm3), by dsimp only; omega, eB, zZ, by dsimp only; omega, s3, lat, fun j hj s h => ?_⟩
      by_cases hji : j = i
      · subst hji
        have := hall s
        rw [hsem s, if_pos h] at this
        exact this
      · exact hm0 j (by dsimp only at hj; omega) s h
  · have hin : i = o.length := by have := of_decide_eq_false hb1; omega
    subst hin
    refine xG ?_
    refine xU ?_
    exact ⟨true, og0, ns0, mm0, ⟨fun _ => hm0, fun _ => rfl⟩, hs0, hl0, rfl, rfl⟩
theorem mono_n6 {n : Nat} (h : n ≤ 6) : n * monoN n ≤ 200000 := by
  have h1 : 2 ^ n ≤ 64 := Nat.le_trans (Nat.pow_le_pow_right (by omega) h) (by decide)
  have h2 : 2 ^ (n + 1) ≤ 128 := Nat.le_trans (Nat.pow_le_pow_right (by omega) (show n + 1 ≤ 7 by omega)) (by decide)
  have h3 := Nat.mul_le_mul h1 h2
  have h4 : monoN n ≤ 16512 := by unfold monoN; omega
  have := Nat.mul_le_mul h h4
  omega
set_option maxRecDepth 100000 in
set_option maxHeartbeats 3200000 in
theorem Monotone_fh (d : DG) (h0 : dcode d = 0) (h6 : d.order.length ≤ 6) : Fh Tryz.prog 50 [] [.agg (dgc false d)] (fun x h => h = [] ∧ ∃ b, (b = true ↔ MonoF d.order.length fun s => evalD d.nodes s d.root) ∧ x = .tup [.c (.bool b), .c .nilI]) := by
  have N := cnatural_fh d h0 (by omega)
  have hod : OdOk (natL d.order.length) (placesL (natL d.order.length)) := ⟨natL_perm _, pl_ok (natL_perm _), by rw [natL_len]; omega⟩
  have hol := natL_len d.order.length
  have hp : 2 ^ (d.order.length + 1) ≤ 128 := Nat.le_trans (Nat.pow_le_pow_right (by omega) (show d.order.length + 1 ≤ 7 by omega)) (by decide)
  have hmn := mono_n6 h6
  refine fh_of_body Tryz.func50 rfl rfl (by simp [Tryz.ntmps50]) fun C hC => ?_
  simp only [initS, Nat.reduceAdd]
  refine xG ?_
  refine xB fun g1 hn_g1=>?_
  refine yG hn_g1 ?_
  refine aw_callh (hc := []) (hr := [(g1, .cells 25 3 (ofL (dgc false d)))]) N rfl rfl rfl (.refl _) (zL hn_g1) ?_
  rintro _ _ ⟨gT, gU, gM, og, ns, mm, r, hs, hr, he, hn, rfl, rfl⟩ _
  generalize hoo : natL d.order.length = o at *
  have M := monotone_fh gT gU gM hod hs (by rw [hol]; omega) hr
  rw [hol] at M
  refine aw_perm List.perm_append_comm ?_
  refine yS hn_g1 ?_
  refine yG hn_g1 ?_
  refine yN hn_g1 ?_
  refine yG hn_g1 ?_
  refine aw_callh (hr := [(g1, .cells 25 3 (ofL (dgc false d)))]) M rfl rfl rfl (List.perm_append_comm (l₁ := [(g1, _)])) (zL hn_g1) ?_
  rintro _ _ ⟨b, og', ns', mm', hb, hs', hl', rfl, rfl⟩ _
  refine yS hn_g1 ?_
  refine yG hn_g1 ?_
  refine aw_rethw (h' := []) rfl (List.nil_sublist _) (fun R hR => ?_)
  simp only [go_sem, hn_g1]
  refine hR _ rfl ?_
  clear hR R
  refine ⟨rfl, b, ?_, rfl⟩
  rw [hb]
  unfold MonoF
  simp only [he]
end Go.Proofs.YtlpejaefobdajaaGreat

/- copy into a slice of one's own. -/
namespace Go.AI
section
variable {E : Env} {K : List It} {σ σ' : Sl} {h : Heap} {all rest l : List Oper} {o : Oper}
theorem repL_one {S : Bool → Nat → Prop} {w : World} : ∀ {cs : List CV} {us : List Value}, RepL S w cs us → cs.all CV.solid = true → ∀ u ∈ us, u.oneCell' = true
  | [], [], _, _, u, hu => absurd hu List.not_mem_nil
  | c :: cs, u :: us, h, hs, v, hv => by
    rw [List.all_cons, Bool.and_eq_true] at hs
    rcases List.mem_cons.1 hv with rfl | hv
    · exact solid_one hs.1 h.1
    · exact repL_one h.2 hs.2 v hv
theorem aw_copyS {t e size bytes n m k q g off : Nat} {f f2 : Nat → CV} {x s : Operand} {cx : CV} {h' : Heap} (hop : o.op = .call { callee := .builtin .copy, args := #[x, s], argTypes := #[t, t] }) (hw : wantA all σ o = some true) (hd : dstOk E.N o.dst = true)
    (ht : tElem E.P t = some (e, size, bytes)) (hx : ev σ x = .c (.osl g size off n)) (hg : h.get g = some (.cells e m f)) (hs : ev σ s = .c cx) (hsrc : Src h size cx k f2) (hq : q = min k n) (hm : off + n * size ≤ m)
    (hsol : (cellsAt f2 0 0 (q * size)).all CV.solid = true) (hh : h.set g (.cells e m (updF f off (cellsAt f2 0 0 (q * size)))) = h') (kk : aw E (.ops all rest :: K) (σ.setO o.dst (.c (.int .i64 q))) h') : aw E (.ops all (o :: rest) :: K) σ h := by
  subst hh
  refine aw_step hw (fun ac w st => ?_) kk
  have h1 := ev_rep st x
  have h2 := ev_rep st s
  rw [hx] at h1
  rw [hs] at h2
  obtain ⟨c, hv1, hnc, hcm, cs0, ty0, hb0, hcs0⟩ := h1
  obtain ⟨A, d, hv2, hA⟩ := hsrc.cells st.heap h2
  obtain ⟨cs, hb, hn, hj⟩ := st.heap g _ (Heap.get_mem hg)
  obtain ⟨hu, inf, hi, hsz, hbb⟩ := tElem_spec ht
  have hqk : q * size ≤ k * size := Nat.mul_le_mul_right _ (by omega)
  have hqn : q * size ≤ n * size := Nat.mul_le_mul_right _ (by omega)
  have hload : ∃ us, (Builtin.firstCells size q (.slice A k d)).run E.P w = .ok us.toArray w ∧ RepL (Stab E.C h w) w (cellsAt f2 0 0 (q * size)) us := by
    rcases Nat.eq_zero_or_pos (q * size) with h0 | h0
    · refine ⟨[], ?_, by rw [h0]; trivial⟩
      cases A with
      | none => simp [Builtin.firstCells]
      | some a => simp [Builtin.firstCells, h0, loadCells, loadCellsFrom]
    · obtain ⟨ad, rfl, hc⟩ := hA (by omega)
      obtain ⟨us, hus, hrs⟩ := run_loadCellsFrom (P := E.P) (S := Stab E.C h w) (w := w) (ad := ad) (f := f2) (off := 0) (q * size) 0 #[] (fun j _ hj => by
        obtain ⟨u, e1, e2⟩ := hc j (by omega)
        exact ⟨u, e1, by rw [Nat.zero_add]; exact e2⟩)
      exact ⟨us, by simp [Builtin.firstCells, loadCells, hus], hrs⟩
  obtain ⟨us, hus, hL⟩ := hload
  have hul : us.length = q * size := by rw [hL.length, cellsAt_len]
  obtain ⟨w', hrun, hbl, hfr⟩ := run_storeCells (P := E.P) us w cs off 0 hb (by omega) (repL_one hL hsol)
  refine ⟨.int .i64 (q : Int), w', .inl ?_, ?_⟩
  · have hq' : Nat.min k n = q := by rw [hq]
    simp only [execOp, hop, resolve, invoke, Go.builtin, Builtin.copy_, Sem.run_bind, Sem.run_pure, Result.andThen_ok, List.map_toArray, List.map_cons, List.map_nil, hv1, hv2, run_underlying hu, Builtin.lenOf, sizeOf, typeInfo, hi, hsz, hq', hus, hrun, List.size_toArray, List.length_cons, List.length_nil, List.getElem?_toArray, List.getElem?_cons_zero, List.getElem?_cons_succ, goInt]
    simp [Sem.run_bind, run_underlying hu, Builtin.lenOf, sizeOf, typeInfo, hi, hsz, hq', hus, hrun, goInt]
  · have hgm : g ∈ h.keys := List.mem_map.2 ⟨_, Heap.get_mem hg, rfl⟩
    have hkk : (h.set g (.cells e m (updF f off (cellsAt f2 0 0 (q * size))))).keys = h.keys := Heap.keys_set _ _ _
    have kp : Keeps (Stab E.C h w) (Stab E.C (h.set g (.cells e m (updF f off (cellsAt f2 0 0 (q * size))))) w') w w' :=
      ⟨fun t b hb => ⟨hb.1, Nat.lt_of_lt_of_le hb.2.1 hfr.size, by rw [hkk]; exact hb.2.2⟩, fun t b hb => hfr.block b hb.2.1 (fun e => hb.2.2 (e ▸ hgm)), hfr.has⟩
    refine (st.setObj (ob' := .cells e m (updF f off (cellsAt f2 0 0 (q * size)))) hg hfr ⟨_, hbl, by rw [putL_size]; exact hn, ?_⟩).put hd (r := .c (.int .i64 q)) rfl
    have := putL_rep (cellsAt f2 0 0 (q * size)) us cs f (off + 0) (hL.keep kp) hn (fun j hjn => by obtain ⟨u, hu, hr⟩ := hj j hjn; exact ⟨u, hu, hr.keep kp⟩)
    simpa using this
/-- copy, at its place. -/
theorem cw_copyS {FP FP' : Heap} {i mk : Nat} {cs : List (Nat × Nat)} {t e size bytes n m k q g off : Nat} {f f2 : Nat → CV} {x s : Operand} {cx : CV} {h' : Heap} (ho : l[i]? = some o) (hop : o.op = .call { callee := .builtin .copy, args := #[x, s], argTypes := #[t, t] }) (hw : wantA l σ o = some true) (hd : dstOk E.N o.dst = true)
    (ht : tElem E.P t = some (e, size, bytes)) (hx : ev σ x = .c (.osl g size off n)) (hg : h.get g = some (.cells e m f)) (hs : ev σ s = .c cx) (hsrc : Src h size cx k f2) (hq : q = min k n) (hm : off + n * size ≤ m)
    (hsol : (cellsAt f2 0 0 (q * size)).all CV.solid = true) (hh : h.set g (.cells e m (updF f off (cellsAt f2 0 0 (q * size)))) = h') (hFP : Has0 FP' h') (kk : CW E l K FP' cs (σ.setO o.dst (.c (.int .i64 q))) h') (hmk : mk = 2 ∨ mk = 1 ∧ FP' = FP := by first | exact .inl rfl | exact .inr ⟨rfl, rfl⟩) : CW E l K FP ((i, mk) :: cs) σ h := by
  refine .pin ho hmk (R := fun r h2 => r = .c (.int .i64 q) ∧ h2 = h') (fun σ' K hsm => ?_) ?_ ?_
  · exact aw_copyS hop ((want_same hsm).trans hw) hd ht ((ev_same (by rw [hop]; simp [Op.operands, Call.operands]) hsm).trans hx) hg ((ev_same (by rw [hop]; simp [Op.operands, Call.operands]) hsm).trans hs) hsrc hq hm hsol hh (aw_ops_nil (aw_stop ⟨_, ⟨rfl, rfl⟩, rfl⟩))
  · rintro _ _ ⟨_, rfl⟩; exact hFP
  · rintro _ _ ⟨rfl, rfl⟩; exact kk
theorem cellsAt_get (f : Nat → CV) : ∀ (n k j : Nat), j < n → ofL (cellsAt f 0 k n) j = f (k + j)
  | n + 1, k, 0, _ => by
    show f (0 + k) = f (k + 0)
    rw [Nat.zero_add, Nat.add_zero]
  | n + 1, k, j + 1, h => by
    show ofL (cellsAt f 0 (k + 1) n) j = _
    rw [cellsAt_get f n (k + 1) j (by omega)]
    congr 1
    omega
theorem cellsAt_all {p : CV → Bool} (f : Nat → CV) : ∀ (n k : Nat), (∀ j, k ≤ j → j < k + n → p (f j) = true) → (cellsAt f 0 k n).all p = true
  | 0, _, _ => rfl
  | n + 1, k, h => by
    show (p (f (0 + k)) && (cellsAt f 0 (k + 1) n).all p) = true
    rw [Nat.zero_add, h k (by omega) (by omega), cellsAt_all f n (k + 1) fun j h1 h2 => h j (by omega) (by omega)]
    rfl
/-- What copy leaves. -/
theorem copy_at (f f2 : Nat → CV) (off n j : Nat) : updF f off (cellsAt f2 0 0 n) j = if off ≤ j ∧ j < off + n then f2 (j - off) else f j := by
  by_cases h : off ≤ j ∧ j < off + n
  · rw [if_pos h]
    have := updF_in (cellsAt f2 0 0 n) f off (j - off) (by rw [cellsAt_len]; omega)
    rw [show off + (j - off) = j from by omega] at this
    rw [this, cellsAt_get f2 n 0 (j - off) (by omega), Nat.zero_add]
  · rw [if_neg h]
    exact updF_out _ f off j (by rw [cellsAt_len]; omega)
end
end Go.AI

/- rational.Make, bits.Mul of 1, slices.Repeat of one fraction. -/
namespace Go.AI
theorem aw_condC0 {E : Env} {K : List It} {σ : Sl} {h : Heap} {x y : Code} (k : aw E (.code y :: K) σ h) : aw E (.code (.cond (.const (.bool false)) x y) :: K) σ h := fun a w s => wp_cond_split (t := false) rfl (fun e => by cases e) (fun _ => k a w s)
theorem and_mask (x : Nat) (hx : x < 4294967296) : andZ .u64 (x : Int) 4294967295 = (x : Int) := by
  rw [andZ_eq]
  show IntKind.u64.wrap (((BitVec.ofInt 64 (x : Int) &&& BitVec.ofInt 64 (4294967295 : Int)).toNat : Nat) : Int) = _
  have : (BitVec.ofInt 64 (x : Int) &&& BitVec.ofInt 64 ((4294967295 : Nat) : Int)).toNat = x := by
    rw [BitVec.toNat_and, ofInt64, ofInt64, Nat.mod_eq_of_lt (show x < 18446744073709551616 by omega), Nat.mod_eq_of_lt (show 4294967295 < 18446744073709551616 by omega)]
    have := Nat.and_two_pow_sub_one_eq_mod x 32
    rw [show (2 : Nat) ^ 32 - 1 = 4294967295 from rfl] at this
    rw [this]
    exact Nat.mod_eq_of_lt hx
  rw [show (4294967295 : Int) = ((4294967295 : Nat) : Int) from rfl, this, IntKind.wrap_u64]
  omega
theorem wrap_nat64 {n : Nat} (h : n ≤ 9223372036854775807) : wrapZ .u64 (n : Int) = n ∧ wrapZ .i64 (n : Int) = n := ⟨by rw [wrapZ_eq, IntKind.wrap_u64]; omega, by rw [wrapZ_eq, wrap_i64 (by omega) (by omega)]⟩
end Go.AI
namespace Go.PN
open Go.AI
/-- i times the first fraction, and nothing behind. -/
def repF (p : List RD) (i j : Nat) : CV := if j < i * 3 then ratsF p (j % 3) else ofL [.bool false, .nils, .nils] (j % 3)
theorem rep_first (p : List RD) {q : Nat} (hq : q ≤ 1) : updF (fun j => ofL [.bool false, .nils, .nils] (j % 3)) 0 (cellsAt (ratsF p) 0 0 (q * 3)) = repF p q := by
  funext j
  rw [copy_at]
  unfold repF
  by_cases h : j < q * 3
  · rw [if_pos ⟨by omega, by omega⟩, if_pos h, Nat.sub_zero, Nat.mod_eq_of_lt (by omega)]
  · rw [if_neg (by omega), if_neg h]
theorem rep_first' (p : List RD) {q : Nat} (hq : q ≤ 1) : updF (fun j => [CV.bool false, .nils, .nils][j % 3]?.getD .any) 0 (cellsAt (ratsF p) 0 0 (q * 3)) = repF p q := by
  have := rep_first p hq
  simpa only [ofL_at] using this
theorem rep_step (p : List RD) {i q : Nat} (hq : q ≤ i) : updF (repF p i) (i * 3) (cellsAt (repF p i) 0 0 (q * 3)) = repF p (i + q) := by
  funext j
  rw [copy_at]
  by_cases h : i * 3 ≤ j ∧ j < i * 3 + q * 3
  · rw [if_pos h]
    unfold repF
    rw [if_pos (by omega), if_pos (by omega)]
    congr 1
    omega
  · rw [if_neg h]
    unfold repF
    by_cases h2 : j < i * 3
    · rw [if_pos h2, if_pos (by omega)]
    · rw [if_neg h2, if_neg (by omega)]
theorem rep_end (p : List RD) {n j : Nat} (hj : j < n * 3) : repF p n j = ratsF (List.replicate n (p.getD 0 rd0)) j := by
  unfold repF
  rw [if_pos hj]
  unfold ratsF lf
  rw [show j % 3 / 3 = 0 from by omega, Nat.mod_mod]
  have : (List.replicate n (p.getD 0 rd0)).getD (j / 3) rd0 = p.getD 0 rd0 := by
    rw [List.getD_eq_getElem?_getD, List.getElem?_replicate, if_pos (by omega)]; rfl
  rw [this]
theorem rep_solid {p : List RD} (hp : p.length = 1) {i k : Nat} (h : k ≤ i) : (cellsAt (repF p i) 0 0 (k * 3)).all CV.solid = true :=
  cellsAt_all _ _ _ fun j _ hj => by
    unfold repF
    rw [if_pos (by omega)]
    exact ratsF_solid p _ (by omega)
end Go.PN
namespace Go.Proofs.YtlpejaefobdajaaGreat
open Go.AI Go.PN
attribute [local irreducible] aw Fa Fh DrK
set_option maxHeartbeats 1600000 in
theorem rmake_fa (n d : Int) (h0 : -9223372036854775808 ≤ n) (h1 : n ≤ 9223372036854775807) (h2 : -9223372036854775808 ≤ d) (h3 : d ≤ 9223372036854775807) (hd : d ≠ 0) :
    Fa Tryz.prog 102 [.c (.int .i64 n), .c (.int .i64 d)] (.tup [.agg (rdc (rd ((n : Rat) / (d : Rat)))), .c .nilI]) := by
  have l1 := words_small (n := n.natAbs) (by omega)
  have l2 := words_small (n := d.natAbs) (by omega)
  have z := ieq_f hd
  refine fa_of_body Tryz.func102 rfl rfl (by simp [Tryz.ntmps102]) fun C hC => ?_
  simp only [initS, Nat.reduceAdd]
  refine yG z ?_
  refine yA z fun g4 hn_g4=>?_
  refine yG (oj z hn_g4) ?_
  refine yN (oj z hn_g4) ?_
  refine yG (oj z hn_g4) ?_
  refine yC (oj z hn_g4) (rsize_fa n h0 h1) ?_
  refine yG (oj z hn_g4) ?_
  refine yC (oj z hn_g4) (rsize_fa d h2 h3) ?_
  refine yG (oj z hn_g4) ?_
  refine yC (oj z hn_g4) (rform_fa _ n.natAbs d.natAbs ?_ ?_ ?_) ?_
  · omega
  · omega
  · omega
  rw [sq_make]
  refine yG (oj z hn_g4) ?_
  refine yW (oj z hn_g4) ?_
  refine yS (oj z hn_g4) ?_
  refine yG (oj z hn_g4) ?_
  refine yT hC (oj z hn_g4) ?_
  exact .tup ⟨.agg lerl_rd, .c .nilI, trivial⟩
set_option maxHeartbeats 1600000 in
theorem mul64_fa (n : Nat) (hn : n < 4294967296) : Fa Tryz.prog 188 [.c (.int .u64 1), .c (.int .u64 n)] (.tup [.c (.int .u64 0), .c (.int .u64 n)]) := by
  have e1 : andZ .u64 1 4294967295 = 1 := and_mask 1 (by omega)
  have e0 : andZ .u64 0 4294967295 = 0 := and_mask 0 (by omega)
  have e2 := and_mask n hn
  have f1 : (1 : Int) / 4294967296 = 0 := rfl
  have f0 : (0 : Int) / 4294967296 = 0 := rfl
  have f2 : (n : Int) / 4294967296 = 0 := by omega
  have m1 : (1 : Int) * (n : Int) = n := by omega
  have m0 : (0 : Int) * (n : Int) = 0 := by omega
  refine fa_of_body Tryz.func188 rfl rfl (by simp [Tryz.ntmps188]) fun C hC => ?_
  simp only [initS, Nat.reduceAdd]
  have a0 : (0 : Int) + 0 = 0 := rfl
  have q1 : (1 : Int) * 0 = 0 := rfl
  have q0 : (0 : Int) * 0 = 0 := rfl
  refine yG (oj e0 (oj e1 (oj e2 (oj f0 (oj f1 (oj f2 (oj m0 (oj m1 (oj a0 (oj q1 (oj q0 shr_u64_32))))))))))) ?_
  refine yT hC (oj e0 (oj e1 (oj e2 (oj f0 (oj f1 (oj f2 (oj m0 (oj m1 (oj a0 (oj q1 (oj q0 shr_u64_32))))))))))) ?_
  exact .tup ⟨.c (.int _ _), .c (.int _ _), trivial⟩
set_option maxHeartbeats 1600000 in
theorem mul_fa1 (n : Nat) (hn : n < 4294967296) : Fa Tryz.prog 148 [.c (.int .u64 1), .c (.int .u64 n)] (.tup [.c (.int .u64 0), .c (.int .u64 n)]) := by
  refine fa_of_body Tryz.func148 rfl rfl (by simp [Tryz.ntmps148]) fun C hC => ?_
  simp only [initS, Nat.reduceAdd]
  refine xG ?_
  refine aw_condC0 ?_
  refine xG ?_
  refine xC (mul64_fa n hn) ?_
  refine xG ?_
  refine xT hC ?_
  exact .tup ⟨.c (.int _ _), .c (.int _ _), trivial⟩
set_option maxRecDepth 100000 in
set_option maxHeartbeats 3200000 in
theorem repeat_fa (p : List RD) (hp : p.length = 1) (n : Nat) (hn : n ≤ 1000) : Fa Tryz.prog 103 [.c (rats false p), .c (.int .i64 n)] (.c (rats true (List.replicate n (p.getD 0 rd0)))) := by
  obtain ⟨w1, w2⟩ := wrap_nat64 (n := n) (by omega)
  have w3 : wrapZ .u64 1 = 1 := (wrap_nat64 (n := 1) (by omega)).1
  have hp1 : (p.length : Int) = 1 := by omega
  have z1 : decide ((n : Int) < 0) = false := decide_eq_false (by omega)
  have z2 : decide ((n : Int) > 9223372036854775807) = false := decide_eq_false (by omega)
  have z3 : decide ((0 : Int) > 0) = false := rfl
  refine fa_of_body Tryz.func103 rfl rfl (by simp [Tryz.ntmps103]) fun C hC => ?_
  simp only [initS, Nat.reduceAdd]
  refine yG (oj w1 (oj w2 (oj w3 (oj hp1 (oj z1 (oj z2 z3)))))) ?_
  refine yN (oj w1 (oj w2 (oj w3 (oj hp1 (oj z1 (oj z2 z3)))))) ?_
  refine yG (oj w1 (oj w2 (oj w3 (oj hp1 (oj z1 (oj z2 z3)))))) ?_
  refine yC (oj w1 (oj w2 (oj w3 (oj hp1 (oj z1 (oj z2 z3)))))) (mul_fa1 n ?_) ?_
  · omega
  refine yG (oj w1 (oj w2 (oj w3 (oj hp1 (oj z1 (oj z2 z3)))))) ?_
  refine yN (oj w1 (oj w2 (oj w3 (oj hp1 (oj z1 (oj z2 z3)))))) ?_
  refine yG (oj w1 (oj w2 (oj w3 (oj hp1 (oj z1 (oj z2 z3)))))) ?_
  refine aw_make (n := n) (c := n) (size := 3) (z := [.bool false, .nils, .nils]) rfl rfl rfl (zE (oj w1 (oj w2 (oj w3 (oj hp1 (oj z1 (oj z2 z3))))))) (zE (oj w1 (oj w2 (oj w3 (oj hp1 (oj z1 (oj z2 z3))))))) rfl (by omega) (zE (oj w1 (oj w2 (oj w3 (oj hp1 (oj z1 (oj z2 z3))))))) (zE (oj w1 (oj w2 (oj w3 (oj hp1 (oj z1 (oj z2 z3))))))) rfl rfl (by omega) (by omega) (by omega) fun g hn_g => ?_
  refine yS (oj w1 (oj w2 (oj w3 (oj hp1 (oj z1 (oj z2 z3)))))) ?_
  refine yG (oj w1 (oj w2 (oj w3 (oj hp1 (oj z1 (oj z2 z3)))))) ?_
  refine aw_copyS (n := n) (m := n * 3) (k := p.length) (q := min p.length n) (g := g) (off := 0) (f2 := ratsF p) rfl rfl rfl (zE (oj w1 (oj w2 (oj w3 (oj hp1 (oj z1 (oj z2 z3))))))) (zE (oj w1 (oj w2 (oj w3 (oj hp1 (oj z1 (oj z2 z3))))))) (zE (oj w1 (oj w2 (oj w3 (oj hp1 (oj z1 (oj z2 z3))))))) (zE (oj w1 (oj w2 (oj w3 (oj hp1 (oj z1 (oj z2 z3))))))) .row rfl (by omega) (cellsAt_all _ _ _ fun j _ hj => ratsF_solid p _ (by omega)) (zE (oj w1 (oj w2 (oj w3 (oj hp1 (oj z1 (oj z2 z3))))))) ?_
  rw [rep_first' p (q := min p.length n) (by omega)]
  refine yS (oj w1 (oj w2 (oj w3 (oj hp1 (oj z1 (oj z2 z3)))))) ?_
  refine yG (oj w1 (oj w2 (oj w3 (oj hp1 (oj z1 (oj z2 z3)))))) ?_
  refine aw_lp (fun i : Nat => [(7, .c (.osl g 3 0 n)), (8, .c (.int .i64 i))]) (fun i => [(g, .cells 33 (n * 3) (repF p i))]) (fun i => i ≤ n ∧ (n ≠ 0 → 1 ≤ i)) (fun i => n - i) (min p.length n) (zB (oj w1 (oj w2 (oj w3 (oj hp1 (oj z1 (oj z2 z3))))))) zZ ⟨by omega, by omega⟩ ?_
  rintro i ⟨hi, hi1⟩
  refine yG (oj w1 (oj w2 (oj w3 (oj hp1 (oj z1 (oj z2 z3)))))) ?_
  refine yF (oj w1 (oj w2 (oj w3 (oj hp1 (oj z1 (oj z2 z3)))))) (fun h1=>?_) fun h1=>?_
  · have h1' : i < n := by have := of_decide_eq_true h1; omega
    refine yG (oj w1 (oj w2 (oj w3 (oj hp1 (oj z1 (oj z2 z3)))))) ?_
    refine aw_cw ([]) [(0,0),(1,0),(2,0),(3,0),(4,0),(5,0),(6,0),(7,1),(8,0),(9,0)] ty_mixed (by kernel_rfl) eI ?_
    refine yG (oj w1 (oj w2 (oj w3 (oj hp1 (oj z1 (oj z2 z3)))))) ?_
    refine cw_copyS (n := n - i) (m := n * 3) (k := i) (q := min i (n - i)) (g := g) (off := i * 3) (f := repF p i) (f2 := repF p i) rfl rfl rfl rfl (zE (oj w1 (oj w2 (oj w3 (oj hp1 (oj z1 (oj z2 z3))))))) (zE (oj w1 (oj w2 (oj w3 (oj hp1 (oj z1 (oj z2 z3))))))) (zE (oj w1 (oj w2 (oj w3 (oj hp1 (oj z1 (oj z2 z3))))))) (zE (oj w1 (oj w2 (oj w3 (oj hp1 (oj z1 (oj z2 z3))))))) (.osl (m := n * 3) (zE (oj w1 (oj w2 (oj w3 (oj hp1 (oj z1 (oj z2 z3))))))) (by omega) (fun j _ => by rw [Nat.zero_add])) rfl (by omega) (rep_solid hp (by omega)) (zE (oj w1 (oj w2 (oj w3 (oj hp1 (oj z1 (oj z2 z3))))))) has0_nil ?_ (hmk := .inr ⟨rfl, rfl⟩)
    rw [rep_step p (by omega)]
    refine yS (oj w1 (oj w2 (oj w3 (oj hp1 (oj z1 (oj z2 z3)))))) ?_
    refine yG (oj w1 (oj w2 (oj w3 (oj hp1 (oj z1 (oj z2 z3)))))) ?_
    exact aw_stop ⟨i + min i (n - i), by omega, (zB (oj w1 (oj w2 (oj w3 (oj hp1 (oj z1 (oj z2 z3))))))), zZ, by omega, by omega⟩
  · have h1' : i = n := by have := of_decide_eq_false h1; omega
    subst h1'
    refine yG (oj w1 (oj w2 (oj w3 (oj hp1 (oj z1 (oj z2 z3)))))) ?_
    refine aw_convR (f' := ratsF (List.replicate i (p.getD 0 rd0))) (fun j hj S w u h => by rw [← rep_end p hj]; exact h) ?_
    refine yT hC (oj w1 (oj w2 (oj w3 (oj hp1 (oj z1 (oj z2 z3)))))) ?_
    exact .one (.c (ler_oslr2 (zE (oj w1 (oj w2 (oj w3 (oj hp1 (oj z1 (oj z2 z3))))))) (by simp)))
end Go.Proofs.YtlpejaefobdajaaGreat

/- birnbaum.Structural and its reference. -/
namespace Go.Proofs.YtlpejaefobdajaaGreat
open Go.AI Go.PN
attribute [local irreducible] aw Fa Fh DrK
/-- One half. -/
abbrev halfR : RD := rd (((1 : Int) : Rat) / ((2 : Int) : Rat))
theorem half_fits : fits (((1 : Int) : Rat) / ((2 : Int) : Rat)) 1 := ⟨by decide +kernel, by decide +kernel⟩
theorem half_wf : halfR.wf 4 := rd_wf (fits_mono half_fits (by omega))
theorem half_prob : halfR.prob = true := rd_prob (by decide +kernel) (by decide +kernel)
/-- Probabilities that are all one half. -/
abbrev halves (d : DG) : List RD := List.replicate d.order.length halfR
theorem halves_code {d : DG} (h : dcode d = 0) : dpcode d (halves d) = 0 := by
  unfold dpcode
  rw [if_neg (by simpa using h)]
  unfold pcode
  rw [if_neg (by simp), if_pos]
  rw [List.all_eq_true]
  intro r hr
  rw [List.eq_of_mem_replicate hr]
  exact half_prob
theorem halves_small {d : DG} (h : dcode d = 0) (h6 : d.order.length ≤ 6) : Small d (halves d) := by
  have := (dg_ok h).n4096
  exact ⟨fun r hr => by rw [List.eq_of_mem_replicate hr]; exact half_wf, by simp; omega, by omega, by omega, fun _ => h6⟩
/-- The structural importances. -/
def strL (d : DG) : List RD := impL d (halves d) d.order.length
set_option maxRecDepth 100000 in
set_option maxHeartbeats 3200000 in
theorem structural_fa (d : DG) (hl1 : d.order.length ≤ 1099511627776) (hl2 : d.nodes.length ≤ 1099511627776) (h6 : dcode d = 0 → d.order.length ≤ 6) :
    Fa Tryz.prog 42 [.agg (dgc false d)] (.tup [.c (rats true (if dcode d = 0 then strL d else [])), .c (errA (dcode d))]) := by
  refine fa_of_body Tryz.func42 rfl rfl (by simp [Tryz.ntmps42]) fun C hC => ?_
  simp only [initS, Nat.reduceAdd]
  refine xG ?_
  refine xB fun g1 hn_g1=>?_
  refine yG hn_g1 ?_
  refine yC hn_g1 (dcheck_fa d hl1 hl2) ?_
  refine yG hn_g1 ?_
  refine yF hn_g1 (fun h0=>?_) fun h0=>?_
  · have h0' : dcode d ≠ 0 := by simpa using h0
    rw [if_neg h0']
    refine yG hn_g1 ?_
    refine yT hC hn_g1 ?_
    exact .tup ⟨.c .nils, .c ler_err, trivial⟩
  have h0' : dcode d = 0 := by simpa using h0
  rw [if_pos h0', h0']
  have ho := h6 h0'
  have B := birnbaum_fa d (halves d) (halves_small h0' ho)
  rw [if_pos (halves_code h0'), halves_code h0', List.length_replicate] at B
  change Fa Tryz.prog _ _ (.tup [.c (rats true (strL d)), .c .nilI]) at B
  have R := repeat_fa [halfR] rfl d.order.length (by omega)
  change Fa Tryz.prog _ _ (.c (rats true (halves d))) at R
  have M := rmake_fa 1 2 (by omega) (by omega) (by omega) (by omega) (by omega)
  change Fa Tryz.prog _ _ (.tup [.agg (rdc halfR), .c .nilI]) at M
  generalize halves d = P at *
  generalize halfR = x at *
  refine yG hn_g1 ?_
  refine yC hn_g1 (M) ?_
  refine yG hn_g1 ?_
  refine yA hn_g1 fun g5 hn_g5=>?_
  refine yG (oj hn_g1 hn_g5) ?_
  refine yW (oj hn_g1 hn_g5) ?_
  refine yS (oj hn_g1 hn_g5) ?_
  refine yG (oj hn_g1 hn_g5) ?_
  refine yN (oj hn_g1 hn_g5) ?_
  refine yG (oj hn_g1 hn_g5) ?_
  refine aw_cw ([(g1, .cells 25 3 (ofL (dgc false d))), (g5, .cells 33 3 (ofL (rdc x)))]) [(0,0),(1,0),(3,0),(4,0),(5,0),(2,1),(6,1),(7,0),(8,0),(9,0),(10,0),(11,0)] ty_mixed (by kernel_rfl) eI ?_
  refine yG (oj hn_g1 hn_g5) ?_
  refine cw_buildSlice (xs := [.tmp 20]) (cells := rdc x) rfl rfl rfl rfl (zE (oj hn_g1 hn_g5)) (by refine yS (oj hn_g1 hn_g5) ?_; rfl) rfl (by omega) (by omega) (by intro x hx; simp only [List.mem_singleton] at hx; subst hx; exact ⟨rfl, rfl, rfl⟩) rfl (by simp [Op.operands]) eI (fun g24 hn_g24 => ?_) (hm := .inr ⟨rfl, rfl⟩)
  refine yS (oj hn_g1 hn_g5) ?_
  refine cw_callqP rfl R rfl rfl rfl (by refine yS (oj hn_g1 hn_g5) ?_; exact ⟨.c (.osl (m := 3) (zE (oj hn_g1 hn_g5)) (by omega) (fun j hj => by match j, hj with | 0, _ => exact .refl _ | 1, _ => exact .refl _ | 2, _ => exact .refl _)), .c (.refl _)⟩) eI ?_ (hm := .inr ⟨rfl, rfl⟩)
  refine yS (oj hn_g1 hn_g5) ?_
  refine yG (oj hn_g1 hn_g5) ?_
  refine cw_callq rfl B rfl rfl rfl (fun _ _ => (zL (oj hn_g1 hn_g5))) ?_
  refine yS (oj hn_g1 hn_g5) ?_
  refine yG (oj hn_g1 hn_g5) ?_
  refine yT hC (oj hn_g1 hn_g5) ?_
  exact .tup ⟨.c ler_rats, .c .nilI, trivial⟩
end Go.Proofs.YtlpejaefobdajaaGreat

/- The law BirnbaumOwn. -/
namespace Go.Proofs.YtlpejaefobdajaaGreat
open Go.AI Go.PN
attribute [local irreducible] aw Fa Fh DrK
theorem valid2_ok {d : DG} {p : List RD} (h : validB2 d p = true) : largeB d p = false ∧ dpcode d p = 0 := by
  unfold validB2 at h
  rw [Bool.and_eq_true] at h
  exact ⟨by simpa using h.1, by simpa using h.2⟩
theorem impL_get {d : DG} {p : List RD} {k i : Nat} (h : i < k) : (impL d p k).getD i rd0 = rd (impQ d p i) := by
  unfold impL
  rw [List.getD_eq_getElem?_getD]
  simp [h]
end Go.Proofs.YtlpejaefobdajaaGreat

/- The law BirnbaumJoint. -/
namespace Go.Proofs.YtlpejaefobdajaaGreat
open Go.AI Go.PN
attribute [local irreducible] aw Fa Fh DrK
theorem six_of {d : DG} {p : List RD} (h : largeB d p = false) (h0 : dcode d = 0) : d.order.length ≤ 6 := by
  unfold largeB largeA at h
  simp only [Bool.or_eq_false_iff, Bool.and_eq_false_iff, decide_eq_false_iff_not, beq_eq_false_iff_ne] at h
  obtain ⟨⟨⟨⟨h1, h2⟩, h3⟩, h4⟩, h5⟩ := h
  rcases h4 with h4 | h4
  · omega
  · exact absurd h0 h4
end Go.Proofs.YtlpejaefobdajaaGreat

/- The law BirnbaumComputes. -/
namespace Go.Proofs.YtlpejaefobdajaaGreat
open Go.AI Go.PN
attribute [local irreducible] aw Fa Fh DrK
end Go.Proofs.YtlpejaefobdajaaGreat
