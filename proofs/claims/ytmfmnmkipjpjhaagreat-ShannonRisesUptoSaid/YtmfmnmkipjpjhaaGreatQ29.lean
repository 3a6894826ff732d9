/- Texts of one proof, laid one behind the other by a program (merge.py): PRis, Coh, RMin, AiCwP, Law16. -/
import Derived.Test.YtmfmnmkipjpjhaaGreatQ25
import Derived.Test.YtmfmnmkipjpjhaaGreatQ26
import Derived.Test.YtmfmnmkipjpjhaaGreatQ14
import Derived.Test.YtmfmnmkipjpjhaaGreatQ08
import Derived.Test.YtmfmnmkipjpjhaaGreatQ19
import Derived.Test.YtmfmnmkipjpjhaaGreatQ28
set_option linter.unusedSimpArgs false
set_option linter.unusedVariables false
/- Coherent formulas are monotone; the probability of a monotone function never falls if a probability rises. -/
namespace Go.PN
open Go.AI
/-- s is a part of t. -/
def Sub (s t : Nat) : Prop := ∀ j, s.testBit j = true → t.testBit j = true
theorem bit_add {s m : Nat} (hs : s < 2 ^ m) (j : Nat) : (s + 2 ^ m).testBit j = (decide (m = j) || s.testBit j) := by
  have := Nat.two_pow_add_eq_or_of_lt hs 1
  rw [Nat.mul_one] at this
  rw [Nat.add_comm, this, Nat.testBit_or, Nat.testBit_two_pow]
theorem sub_add {s t m : Nat} (hs : s < 2 ^ m) (ht : t < 2 ^ m) (h : Sub s t) : Sub (s + 2 ^ m) (t + 2 ^ m) := fun j hj => by
  rw [bit_add hs] at hj
  rw [bit_add ht]
  rcases (Bool.or_eq_true _ _).mp hj with h1 | h1
  · rw [h1]; rfl
  · rw [h j h1, Bool.or_true]
theorem sub_up {s m : Nat} (hs : s < 2 ^ m) : Sub s (s + 2 ^ m) := fun j hj => by rw [bit_add hs, hj, Bool.or_true]
theorem ex_le {p : Nat → Rat} : ∀ (m : Nat) (f g : Nat → Rat), (∀ i, i < m → 0 ≤ p i ∧ p i ≤ 1) → (∀ s, s < 2 ^ m → f s ≤ g s) → exQ p m f ≤ exQ p m g
  | 0, f, g, _, h => h 0 (by simp)
  | m + 1, f, g, hp, h => by
    have e : 2 ^ (m + 1) = 2 ^ m + 2 ^ m := by rw [Nat.pow_succ]; omega
    have h1 := ex_le m f g (fun i hi => hp i (by omega)) fun s hs => h s (by omega)
    have h2 := ex_le m (fun s => f (s + 2 ^ m)) (fun s => g (s + 2 ^ m)) (fun i hi => hp i (by omega)) fun s hs => h _ (by omega)
    obtain ⟨p0, p1⟩ := hp m (by omega)
    rw [exQ, exQ]
    have h3 := Rat.mul_le_mul_of_nonneg_left h1 (show 0 ≤ 1 - p m by grind)
    have h4 := Rat.mul_le_mul_of_nonneg_left h2 p0
    grind
theorem mix_rise {p q a b A B : Rat} (p0 : 0 ≤ p) (pq : p ≤ q) (q1 : q ≤ 1) (h1 : a ≤ A) (h2 : b ≤ B) (h3 : A ≤ B) : (1 - p) * a + p * b ≤ (1 - q) * A + q * B := by
  have e1 := Rat.mul_le_mul_of_nonneg_left h1 (show 0 ≤ 1 - p by grind)
  have e2 := Rat.mul_le_mul_of_nonneg_left h2 p0
  have e3 := Rat.mul_le_mul_of_nonneg_left h3 (show 0 ≤ q - p by grind)
  grind
theorem ex_rise {p q : Nat → Rat} : ∀ (m : Nat) (f : Nat → Rat), (∀ i, i < m → 0 ≤ p i ∧ p i ≤ q i ∧ q i ≤ 1) → (∀ s t, s < 2 ^ m → t < 2 ^ m → Sub s t → f s ≤ f t) → exQ p m f ≤ exQ q m f
  | 0, f, _, _ => Rat.le_refl
  | m + 1, f, hp, h => by
    have e : 2 ^ (m + 1) = 2 ^ m + 2 ^ m := by rw [Nat.pow_succ]; omega
    have h1 := ex_rise (p := p) (q := q) m f (fun i hi => hp i (by omega)) fun s t hs ht hst => h s t (by omega) (by omega) hst
    have h2 := ex_rise (p := p) (q := q) m (fun s => f (s + 2 ^ m)) (fun i hi => hp i (by omega)) fun s t hs ht hst => h _ _ (by omega) (by omega) (sub_add hs ht hst)
    have h3 := ex_le (p := q) m f (fun s => f (s + 2 ^ m)) (fun i hi => by obtain ⟨a, b, c⟩ := hp i (by omega); exact ⟨by grind, c⟩) fun s hs => h _ _ (by omega) (by omega) (sub_up hs)
    obtain ⟨p0, pq, q1⟩ := hp m (by omega)
    rw [exQ, exQ]
    exact mix_rise p0 pq q1 h1 h2 h3
/-- No node below the top of the first k is a not or an exclusive or. -/
def cohTo (f : FM) : Nat → Bool
  | 0 => true
  | k + 1 => cohTo f k && !((belL f).getD (f.vars.toNat + k) false && (decide ((f.nodes.getD k fn0).kind = 1) || decide ((f.nodes.getD k fn0).kind = 5)))
theorem cohTo_at {f : FM} {i : Nat} : ∀ {k : Nat}, cohTo f k = true → i < k → (belL f).getD (f.vars.toNat + i) false = true → (f.nodes.getD i fn0).kind ≠ 1 ∧ (f.nodes.getD i fn0).kind ≠ 5
  | 0, _, h, _ => by omega
  | k + 1, hc, h, hb => by
    rw [cohTo, Bool.and_eq_true] at hc
    by_cases e : i = k
    · subst e
      have := hc.2
      rw [hb] at this
      simpa using this
    · exact cohTo_at hc.1 (by omega) hb
theorem coh_false {f : FM} {k : Nat} (h : cohTo f k = false) : ∀ n, k ≤ n → cohTo f n = false
  | 0, hn => by rw [show k = 0 from by omega] at h; exact h
  | n + 1, hn => by
    by_cases e : k = n + 1
    · subst e; exact h
    · rw [cohTo, coh_false h n (by omega)]; rfl
theorem cntV_mono {v w : Int → Bool} : ∀ {az : List Int}, (∀ a ∈ az, v a = true → w a = true) → cntV v az ≤ cntV w az
  | [], _ => Nat.le_refl _
  | a :: az, h => by
    have ih := cntV_mono (az := az) fun b hb => h b (List.mem_cons_of_mem _ hb)
    have ha := h a (List.mem_cons_self ..)
    unfold cntV at ih ⊢
    rw [List.filter_cons, List.filter_cons]
    cases hv : v a
    · cases hw : w a <;> simp <;> omega
    · rw [ha hv]; simp; omega
theorem nodeV_mono {v w : Int → Bool} {x : FN} (h1 : x.kind ≠ 1) (h5 : x.kind ≠ 5) (k0 : 0 ≤ x.kind) (k5 : x.kind ≤ 5) (h : ∀ a ∈ x.args, v a = true → w a = true) (hv : nodeV v x = true) : nodeV w x = true := by
  have hm := cntV_mono (v := v) (w := w) h
  have hl : cntV w x.args ≤ x.args.length := List.length_filter_le _ _
  unfold nodeV at hv ⊢
  have hk : x.kind = 0 ∨ x.kind = 2 ∨ x.kind = 3 ∨ x.kind = 4 := by omega
  rcases hk with hk | hk | hk | hk
  · rw [hk] at hv ⊢
    exact hv
  · rw [hk] at hv ⊢
    have hv' : (((cntV v x.args : Nat) : Int) == (x.args.length : Int)) = true := hv
    have := eq_of_beq hv'
    show (((cntV w x.args : Nat) : Int) == (x.args.length : Int)) = true
    exact beq_iff_eq.2 (by omega)
  · rw [hk] at hv ⊢
    have hv' : decide (((cntV v x.args : Nat) : Int) > 0) = true := hv
    have := of_decide_eq_true hv'
    show decide (((cntV w x.args : Nat) : Int) > 0) = true
    exact decide_eq_true (by omega)
  · rw [hk] at hv ⊢
    have hv' : decide (((cntV v x.args : Nat) : Int) ≥ x.k) = true := hv
    have := of_decide_eq_true hv'
    show decide (((cntV w x.args : Nat) : Int) ≥ x.k) = true
    exact decide_eq_true (by omega)
theorem val_mono {f : FM} (ok : FrOk f) (hc : cohTo f f.nodes.length = true) {s t : Nat} (hst : Sub s t) : ∀ (n : Nat) (a : Int), a.toNat < n → 0 ≤ a → a < f.vars + f.nodes.length → (belL f).getD a.toNat false = true → valF f s a = true → valF f t a = true := by
  have v0 := ok.v0
  intro n
  induction n with
  | zero => intro a hn; omega
  | succ n ih =>
    intro a hn h0 h1 hm
    by_cases hv : a < f.vars
    · rw [val_event hv, val_event hv]
      exact hst _
    · obtain ⟨i, hi⟩ : ∃ i : Nat, a = f.vars + i := ⟨(a - f.vars).toNat, by omega⟩
      subst hi
      have hi : i < f.nodes.length := by omega
      have hm' : (belL f).getD (f.vars.toNat + i) false = true := by rw [show f.vars.toNat + i = (f.vars + (i : Int)).toNat from by omega]; exact hm
      rw [val_node ok hi, val_node ok hi]
      obtain ⟨n1, n5⟩ := cohTo_at hc hi hm'
      obtain ⟨k0, k5⟩ := ok.kind i hi
      refine nodeV_mono n1 n5 k0 k5 fun b hb => ?_
      obtain ⟨b0, b1⟩ := ok.arg i hi b hb
      exact ih b (by omega) b0 (by omega) (bel_arg ok hi hm' hb)
theorem coh_mono {f : FM} (ok : FrOk f) (hc : cohTo f f.nodes.length = true) {s t : Nat} (hst : Sub s t) (h : valF f s f.top = true) : valF f t f.top = true :=
  val_mono ok hc hst (f.top.toNat + 1) f.top (by omega) ok.t0 ok.t1 (bel_top ok _) h
end Go.PN

/- ref08.Below and ref33.Coherent. -/
namespace Go.Proofs.YtmfmnmkipjpjhaaGreat
open Go.AI Go.PN
attribute [local irreducible] aw Fa Fh DrK
set_option maxRecDepth 100000 in
set_option maxHeartbeats 3200000 in
theorem belowR_fa (f : FM) (ok : FrOk f) : Fa Tryz.prog 37 [.agg (fmc false f)] (.c (bs true (belL f))) := by
  have v0 := ok.v0
  have v24 := ok.v24
  have n128 := ok.n128
  have t0 := ok.t0
  have t1 := ok.t1
  refine fa_of_body Tryz.func37 rfl rfl (by simp [Tryz.ntmps37]) fun C hC => ?_
  simp only [initS, Nat.reduceAdd]
  refine xG ?_
  refine xB fun g1 hn_g1=>?_
  refine yG hn_g1 ?_
  refine aw_make (n := f.vars.toNat + f.nodes.length) (c := f.vars.toNat + f.nodes.length) (size := 1) (z := [.bool false]) rfl rfl rfl (zE hn_g1) (zE hn_g1) rfl (by omega) (zE hn_g1) (zE hn_g1) (by omega) (by omega) (by omega) (by omega) (by omega) fun g3 hn_g3 => ?_
  simp only [Nat.mul_one]
  rw [make_bs]
  replace hn_g3 := Heap.ne_of hn_g3
  dsimp only [Heap.ne] at hn_g3
  refine yS (oj hn_g1 hn_g3) ?_
  refine yG (oj hn_g1 hn_g3) ?_
  refine yW (oj hn_g1 hn_g3) ?_
  refine yS (oj hn_g1 hn_g3) ?_
  rw [updF_bs (i := f.top.toNat) (zs := List.replicate (f.vars.toNat + f.nodes.length) false) (v := true) (by rw [List.length_replicate]; omega)]
  refine yG (oj hn_g1 hn_g3) ?_
  have hN : ((f.vars.toNat + f.nodes.length : Nat) : Int) = f.vars + f.nodes.length := by omega
  refine aw_lp (fun j : Nat => [(1, .c (.optr g1 0)), (3, .c (.osl g3 1 0 (f.vars.toNat + f.nodes.length))), (4, .c (.int .i64 ((f.nodes.length : Int) - 1 - j)))]) (fun j => [(g3, .cells 4 (f.vars.toNat + f.nodes.length) (bsF (belTo f j))), (g1, .cells 24 3 (ofL (fmc false f)))]) (fun j => j ≤ f.nodes.length) (fun j => f.nodes.length - j) 0 (by refine yS (oj hn_g1 hn_g3) ?_; simp) zZ (Nat.zero_le _) ?_
  rintro j hj
  have hbl := belTo_len f j
  refine yG (oj hn_g1 hn_g3) ?_
  refine yF (oj hn_g1 hn_g3) (fun h1=>?_) fun h1=>?_
  · have h1' : j < f.nodes.length := by have := of_decide_eq_true h1; omega
    obtain ⟨i, hi⟩ : ∃ i : Nat, i = f.nodes.length - 1 - j := ⟨_, rfl⟩
    have hij : (f.nodes.length : Int) - 1 - (j : Int) = (i : Int) := by omega
    have hst : belTo f (j + 1) = if (belTo f j).getD (f.vars.toNat + i) false then markTo (f.nodes.getD i fn0).args (belTo f j) (f.nodes.getD i fn0).args.length else belTo f j := by rw [belTo, hi]
    have hil : i < f.nodes.length := by omega
    have hidx : (f.vars + (i : Int)).toNat = f.vars.toNat + i := by omega
    have hnx : (i : Int) - 1 = (f.nodes.length : Int) - 1 - ((j + 1 : Nat) : Int) := by omega
    have hln := ok.len hil
    have hat := fun q hq => ok.at (j := q) hil hq
    rw [hij]
    refine yG (oj hn_g1 (oj hn_g3 hidx)) ?_
    refine yF (oj hn_g1 (oj hn_g3 hidx)) (fun hm=>?_) fun hm=>?_
    · have hm' : (belTo f j).getD (f.vars.toNat + i) false = false := by simpa using hm
      rw [if_neg (by rw [hm']; simp)] at hst
      refine yG (oj hn_g1 (oj hn_g3 hidx)) ?_
      rw [← hst]
      exact aw_stop ⟨j + 1, by omega, by rw [← hnx]; exact (zB (oj hn_g1 (oj hn_g3 hidx))), zZ, by omega⟩
    · have hm' : (belTo f j).getD (f.vars.toNat + i) false = true := by simpa using hm
      rw [if_pos hm'] at hst
      generalize hx : f.nodes.getD i fn0 = x at *
      refine yG (oj hn_g1 (oj hn_g3 (oj hidx hx))) ?_
      refine aw_lp (fun q : Nat => [(1, .c (.optr g1 0)), (3, .c (.osl g3 1 0 (f.vars.toNat + f.nodes.length))), (4, .c (.int .i64 (i : Int))), (39, .c (is true x.args)), (40, .c (.int .i64 x.args.length)), (41, .c (.int .i64 q))]) (fun q => [(g3, .cells 4 (f.vars.toNat + f.nodes.length) (bsF (markTo x.args (belTo f j) q))), (g1, .cells 24 3 (ofL (fmc false f)))]) (fun q => q ≤ x.args.length) (fun q => x.args.length - q) 0 (zB (oj hn_g1 (oj hn_g3 (oj hidx hx)))) zZ (Nat.zero_le _) ?_
      rintro q hq
      have hml := markTo_len x.args (belTo f j) q
      refine yG (oj hn_g1 (oj hn_g3 (oj hidx hx))) ?_
      refine yF (oj hn_g1 (oj hn_g3 (oj hidx hx))) (fun h2=>?_) fun h2=>?_
      · have h2' : q < x.args.length := by have := of_decide_eq_true h2; omega
        obtain ⟨a0, a1⟩ := hat q h2'
        refine yG (oj hn_g1 (oj hn_g3 (oj hidx hx))) ?_
        refine yW (oj hn_g1 (oj hn_g3 (oj hidx hx))) ?_
        refine yS (oj hn_g1 (oj hn_g3 (oj hidx hx))) ?_
        rw [updF_bs (by omega)]
        refine yG (oj hn_g1 (oj hn_g3 (oj hidx hx))) ?_
        exact aw_stop ⟨q + 1, by omega, (zB (oj hn_g1 (oj hn_g3 (oj hidx hx)))), zZ, by omega⟩
      · have h2' : q = x.args.length := by have := of_decide_eq_false h2; omega
        subst h2'
        refine yG (oj hn_g1 (oj hn_g3 (oj hidx hx))) ?_
        rw [← hst]
        exact aw_stop ⟨j + 1, by omega, by rw [← hnx]; exact (zB (oj hn_g1 (oj hn_g3 (oj hidx hx)))), zZ, by omega⟩
  · have h1' : j = f.nodes.length := by have := of_decide_eq_false h1; omega
    subst h1'
    refine yG (oj hn_g1 hn_g3) ?_
    refine yT hC (oj hn_g1 hn_g3) ?_
    exact .one (.c (ler_oslbs (zE (oj hn_g1 hn_g3)) hbl.symm))
set_option maxRecDepth 100000 in
set_option maxHeartbeats 3200000 in
theorem coherent_fa (f : FM) (ok : FrOk f) : Fa Tryz.prog 15 [.agg (fmc false f)] (.c (.bool (cohTo f f.nodes.length))) := by
  have v0 := ok.v0
  have v24 := ok.v24
  have n128 := ok.n128
  refine fa_of_body Tryz.func15 rfl rfl (by simp [Tryz.ntmps15]) fun C hC => ?_
  simp only [initS, Nat.reduceAdd]
  refine xG ?_
  refine xB fun g1 hn_g1=>?_
  refine yG hn_g1 ?_
  refine yC hn_g1 (belowR_fa f ok) ?_
  refine yG hn_g1 ?_
  refine aw_lp (fun j : Nat => [(1, .c (.optr g1 0)), (3, .c (bs true (belL f))), (4, .c (.int .i64 j))]) (fun _ => [(g1, .cells 24 3 (ofL (fmc false f)))]) (fun j => j ≤ f.nodes.length ∧ cohTo f j = true) (fun j => f.nodes.length - j) 0 (zB hn_g1) zZ ⟨Nat.zero_le _, rfl⟩ ?_
  rintro j ⟨hj, hc⟩
  have hbl : (belL f).length = f.vars.toNat + f.nodes.length := belTo_len f f.nodes.length
  refine yG hn_g1 ?_
  refine yF hn_g1 (fun h1=>?_) fun h1=>?_
  · have h1' : j < f.nodes.length := by have := of_decide_eq_true h1; omega
    have hst : cohTo f (j + 1) = (cohTo f j && !((belL f).getD (f.vars.toNat + j) false && (decide ((f.nodes.getD j fn0).kind = 1) || decide ((f.nodes.getD j fn0).kind = 5)))) := rfl
    have hidx : (f.vars + (j : Int)).toNat = f.vars.toNat + j := by omega
    rw [hc, Bool.true_and] at hst
    have fin : cohTo f (j + 1) = false → cohTo f f.nodes.length = false := fun hf => coh_false hf _ (by omega)
    generalize belL f = ms at hbl hst ⊢
    refine yG (oj hn_g1 hidx) ?_
    refine aw_split 21 (zE (oj hn_g1 hidx)) (fun hm => ?_) (fun hm => ?_) <;> refine yS (oj hn_g1 hidx) ?_
    · rw [hm, Bool.true_and] at hst
      refine yG (oj hn_g1 hidx) ?_
      refine aw_split 29 (zE (oj hn_g1 hidx)) (fun h4 => ?_) (fun h4 => ?_) <;> refine yS (oj hn_g1 hidx) ?_
      · refine yG (oj hn_g1 hidx) ?_
        refine yP (oj hn_g1 hidx) ?_
        refine yG (oj hn_g1 hidx) ?_
        rw [fin (by rw [hst, show decide ((f.nodes.getD j fn0).kind = 1) = true from by simpa using h4]; rfl)]
        refine yT hC (oj hn_g1 hidx) ?_
        exact .one (.c (.bool _))
      · refine yG (oj hn_g1 hidx) ?_
        have h4' : decide ((f.nodes.getD j fn0).kind = 1) = false := by simpa using h4
        rw [h4', Bool.false_or] at hst
        refine yF (oj hn_g1 hidx) (fun h5=>?_) fun h5=>?_
        · refine yG (oj hn_g1 hidx) ?_
          rw [fin (by rw [hst, show decide ((f.nodes.getD j fn0).kind = 5) = true from by simpa using h5]; rfl)]
          refine yT hC (oj hn_g1 hidx) ?_
          exact .one (.c (.bool _))
        · refine yG (oj hn_g1 hidx) ?_
          exact aw_stop ⟨j + 1, by omega, (zB (oj hn_g1 hidx)), zZ, by omega, by rw [hst, show decide ((f.nodes.getD j fn0).kind = 5) = false from by simpa using h5]; rfl⟩
    · refine yG (oj hn_g1 hidx) ?_
      refine yN (oj hn_g1 hidx) ?_
      refine yG (oj hn_g1 hidx) ?_
      exact aw_stop ⟨j + 1, by omega, (zB (oj hn_g1 hidx)), zZ, by omega, by rw [hst, hm]; rfl⟩
  · have h1' : j = f.nodes.length := by have := of_decide_eq_false h1; omega
    subst h1'
    refine yG hn_g1 ?_
    rw [hc]
    refine yT hC hn_g1 ?_
    exact .one (.c (.bool _))
end Go.Proofs.YtmfmnmkipjpjhaaGreat

/- ref02.Min and Max. -/
namespace Go.PN
open Go.AI
/-- The lesser and the greater one of two numbers. -/
def minQ (a b : Rat) : Rat := if signQ (a - b) > 0 then b else a
def maxQ (a b : Rat) : Rat := -minQ (-a) (-b)
end Go.PN
namespace Go.Proofs.YtmfmnmkipjpjhaaGreat
open Go.AI Go.PN
attribute [local irreducible] aw Fa Fh DrK
set_option maxHeartbeats 1600000 in
theorem smin_fa (a b : RD) (ha : a.wf 400000000) (hb : b.wf 400000000) : Fa Tryz.prog 16 [.agg (rdc a), .agg (rdc b)] (.agg (rdc (rd (minQ a.q b.q)))) := by
  refine fa_of_body Tryz.func16 rfl rfl (by simp [Tryz.ntmps16]) fun C hC => ?_
  simp only [initS, Nat.reduceAdd]
  refine xG ?_
  refine xB fun g2 hn_g2=>?_
  refine yB hn_g2 fun g3 hn_g3=>?_
  refine yA (oj hn_g2 hn_g3) fun g4 hn_g4=>?_
  refine yG (oj hn_g2 (oj hn_g3 hn_g4)) ?_
  refine yC (oj hn_g2 (oj hn_g3 hn_g4)) (scmp_fa a b (wf_mono ha ?_) (wf_mono hb ?_)) ?_
  · omega
  · omega
  refine yG (oj hn_g2 (oj hn_g3 hn_g4)) ?_
  refine yF (oj hn_g2 (oj hn_g3 hn_g4)) (fun hc=>?_) fun hc=>?_
  · have hc' := of_decide_eq_true hc
    refine yG (oj hn_g2 (oj hn_g3 hn_g4)) ?_
    refine yW (oj hn_g2 (oj hn_g3 hn_g4)) ?_
    refine yS (oj hn_g2 (oj hn_g3 hn_g4)) ?_
    refine yG (oj hn_g2 (oj hn_g3 hn_g4)) ?_
    refine aw_callq (sadd_fa b rd0 (wf_mono hb (by omega)) (by simp [RD.wf, rd0])) rfl rfl rfl (by refine yS (oj hn_g2 (oj hn_g3 hn_g4)) ?_; exact ⟨.agg ⟨.refl _, wl2, wl2, trivial⟩, .agg ⟨.refl _, .nils, .nils, trivial⟩⟩) ?_
    refine yS (oj hn_g2 (oj hn_g3 hn_g4)) ?_
    refine yG (oj hn_g2 (oj hn_g3 hn_g4)) ?_
    refine yW (oj hn_g2 (oj hn_g3 hn_g4)) ?_
    refine yS (oj hn_g2 (oj hn_g3 hn_g4)) ?_
    refine yG (oj hn_g2 (oj hn_g3 hn_g4)) ?_
    refine yT hC (oj hn_g2 (oj hn_g3 hn_g4)) ?_
    exact ler_rd (by rw [rd0_q, minQ, if_pos hc']; grind)
  · have hc' := of_decide_eq_false hc
    refine yG (oj hn_g2 (oj hn_g3 hn_g4)) ?_
    refine aw_callq (sadd_fa a rd0 (wf_mono ha (by omega)) (by simp [RD.wf, rd0])) rfl rfl rfl (by refine yS (oj hn_g2 (oj hn_g3 hn_g4)) ?_; exact ⟨.agg ⟨.refl _, wl2, wl2, trivial⟩, .agg ⟨.refl _, .nils, .nils, trivial⟩⟩) ?_
    refine yS (oj hn_g2 (oj hn_g3 hn_g4)) ?_
    refine yG (oj hn_g2 (oj hn_g3 hn_g4)) ?_
    refine yW (oj hn_g2 (oj hn_g3 hn_g4)) ?_
    refine yS (oj hn_g2 (oj hn_g3 hn_g4)) ?_
    refine yG (oj hn_g2 (oj hn_g3 hn_g4)) ?_
    refine yT hC (oj hn_g2 (oj hn_g3 hn_g4)) ?_
    exact ler_rd (by rw [rd0_q, minQ, if_neg hc']; grind)
theorem neg_wf4 {a : RD} {L : Nat} (hL : 1 ≤ L) (ha : a.wf L) : (rd (-a.q)).wf L := rd_wf (fits_neg (RD.fits ha hL))
theorem min_fits {a b : Rat} {L : Nat} (ha : fits a L) (hb : fits b L) : fits (minQ a b) L := by
  unfold minQ
  split
  · exact hb
  · exact ha
set_option maxHeartbeats 1600000 in
theorem smax_fa (a b : RD) (ha : a.wf 400000000) (hb : b.wf 400000000) : Fa Tryz.prog 17 [.agg (rdc a), .agg (rdc b)] (.agg (rdc (rd (maxQ a.q b.q)))) := by
  refine fa_of_body Tryz.func17 rfl rfl (by simp [Tryz.ntmps17]) fun C hC => ?_
  simp only [initS, Nat.reduceAdd]
  refine xG ?_
  refine xB fun g2 hn_g2=>?_
  refine yB hn_g2 fun g3 hn_g3=>?_
  refine yA (oj hn_g2 hn_g3) fun g4 hn_g4=>?_
  refine yG (oj hn_g2 (oj hn_g3 hn_g4)) ?_
  have m := smin_fa (rd (-a.q)) (rd (-b.q)) (neg_wf4 (by omega) ha) (neg_wf4 (by omega) hb)
  rw [rd_q, rd_q] at m
  have n := sneg_fa (rd (minQ (-a.q) (-b.q))) (wf_mono (rd_wf (min_fits (fits_neg (RD.fits ha (by omega))) (fits_neg (RD.fits hb (by omega))))) (by omega))
  rw [rd_q] at n
  refine aw_dr 6 ty_mixed (by kernel_rfl) ?_
  refine yG (oj hn_g2 (oj hn_g3 hn_g4)) ?_
  refine yD (oj hn_g2 (oj hn_g3 hn_g4)) (sneg_fa a (wf_mono ha ?_)) ?_
  · omega
  refine yG (oj hn_g2 (oj hn_g3 hn_g4)) ?_
  refine yD (oj hn_g2 (oj hn_g3 hn_g4)) (sneg_fa b (wf_mono hb ?_)) ?_
  · omega
  refine yG (oj hn_g2 (oj hn_g3 hn_g4)) ?_
  refine yD (oj hn_g2 (oj hn_g3 hn_g4)) (m) ?_
  refine yG (oj hn_g2 (oj hn_g3 hn_g4)) ?_
  refine yD (oj hn_g2 (oj hn_g3 hn_g4)) (n) ?_
  refine yG (oj hn_g2 (oj hn_g3 hn_g4)) ?_
  refine yW (oj hn_g2 (oj hn_g3 hn_g4)) ?_
  refine yS (oj hn_g2 (oj hn_g3 hn_g4)) ?_
  refine yG (oj hn_g2 (oj hn_g3 hn_g4)) ?_
  refine yT hC (oj hn_g2 (oj hn_g3 hn_g4)) ?_
  exact ler_rd rfl
end Go.Proofs.YtmfmnmkipjpjhaaGreat

/- Pinned steps of a drawn region: a slice that is built, a call at its place, an element that is appended. -/
namespace Go.AI
section
variable {E : Env} {K : List It} {l : List Oper} {FP FP' : Heap} {σ σ' : Sl} {h : Heap} {o : Oper} {i m : Nat} {cs : List (Nat × Nat)}
/-- A slice is built. -/
theorem cw_buildSlice {t e size bytes len : Nat} {xs : List Operand} {cells : List CV} (ho : l[i]? = some o) (hop : o.op = .buildSlice t len (enumO 0 xs).toArray) (hw : wantA l σ o = some true) (hd : dstOk E.N o.dst = true) (ht : tElem E.P t = some (e, size, bytes))
    (hz : (tZero E.P e).isSome = true) (hl : xs.length = len) (hsm : len * size ≤ 16777216) (hlm : len ≤ 16777216) (hx : ∀ x ∈ xs, (ev σ x).flat = true ∧ (ev σ x).cells.all CV.solid = true ∧ (ev σ x).cells.length = size) (hc : (xs.map (ev σ)).flatMap AV.cells = cells) (hops : ∀ x ∈ xs, x ∈ o.op.operands) (hFP : Has0 FP' h)
    (k : ∀ g, g ∉ h.keys → CW E l K FP' cs (σ.setO o.dst (.c (.osl g size 0 len))) ((g, .cells e (len * size) (ofL cells)) :: h)) (hm : m = 2 ∨ m = 1 ∧ FP' = FP := by first | exact .inl rfl | exact .inr ⟨rfl, rfl⟩) : CW E l K FP ((i, m) :: cs) σ h := by
  refine .pin ho hm (R := fun r h2 => ∃ g, g ∉ h.keys ∧ r = .c (.osl g size 0 len) ∧ h2 = (g, .cells e (len * size) (ofL cells)) :: h) (fun σ' K hs => ?_) ?_ ?_
  · have he : ∀ x ∈ xs, ev σ' x = ev σ x := fun x hxx => ev_same (hops x hxx) hs
    exact aw_buildSlice hop ((want_same hs).trans hw) hd ht hz hl hsm hlm (fun x hxx => by rw [he x hxx]; exact hx x hxx) (by rw [List.map_congr_left he]; exact hc) fun g hg => aw_ops_nil (aw_stop ⟨_, ⟨g, hg, rfl, rfl⟩, rfl⟩)
  · rintro r h2 ⟨g, _, _, rfl⟩; exact fun p hp => List.mem_cons_of_mem _ (hFP p hp)
  · rintro r h2 ⟨g, hg, rfl, rfl⟩; exact k g hg
/-- append(out, x) at its place, where the new element's slice has been built before: that block stays. -/
theorem cw_push {t e size bytes n d1 s gt : Nat} {z : List CV} {og : Option Nat} {f f' : Nat → CV} {pre : Heap} {v : AV} (ho : l[i]? = some o) (hop2 : o.op = .call { callee := .builtin .append, args := #[.tmp s, .tmp d1], argTypes := #[t, t] })
    (hg2 : o.guard = none) (hd2 : dstOk E.N o.dst = true)
    (ht : tElem E.P t = some (e, size, bytes)) (hz : tZero E.P e = some z) (hzl : z.length = size) (hs0 : 0 < size) (hsz : size ≤ 16777216)
    (hevs : ev σ (.tmp s) = .c (gs og size n)) (hev1 : ev σ (.tmp d1) = .c (.osl gt size 0 1)) (hog : og = none → n = 0) (hok : okPart v = true) (hvl : v.cells.length = size) (hh : h = (gt, .cells e (1 * size) (ofL v.cells)) :: (pre ++ gh og e (n * size) f))
    (h63 : n + 1 ≤ maxLen) (hby : (n + 1) * bytes ≤ 140737488355328) (hf : ∀ j, j < (n + 1) * size → appF f (n * size) (ofL v.cells) j = f' j) (hFP : Has0 FP' ((gt, .cells e (1 * size) (ofL v.cells)) :: pre))
    (k : ∀ g', g' ∉ Heap.keys ((gt, .cells e (1 * size) (ofL v.cells)) :: pre) → CW E l K FP' cs (σ.setO o.dst (.c (gs (some g') size (n + 1)))) ((gt, .cells e (1 * size) (ofL v.cells)) :: (pre ++ gh (some g') e ((n + 1) * size) f')))
    (hm : m = 2 ∨ m = 1 ∧ FP' = FP := by first | exact .inl rfl | exact .inr ⟨rfl, rfl⟩) : CW E l K FP ((i, m) :: cs) σ h := by
  subst hh
  obtain ⟨ok1, ok2⟩ := okPart_spec hok
  refine .pin ho hm (R := fun r h2 => ∃ g', g' ∉ Heap.keys ((gt, .cells e (1 * size) (ofL v.cells)) :: pre) ∧ r = .c (gs (some g') size (n + 1)) ∧ h2 = (gt, .cells e (1 * size) (ofL v.cells)) :: (pre ++ gh (some g') e ((n + 1) * size) f')) (fun σ' K hs => ?_) ?_ ?_
  · have hw2 : ∀ σ2, wantA l σ2 o = some true := fun σ2 => by unfold wantA; rw [hg2]
    have hevs' : ev σ' (.tmp s) = .c (gs og size n) := (ev_same (by rw [hop2]; simp [Op.operands, Call.operands]) hs).trans hevs
    have hev1' : ev σ' (.tmp d1) = .c (.osl gt size 0 1) := (ev_same (by rw [hop2]; simp [Op.operands, Call.operands]) hs).trans hev1
    have hsrc : ∀ h0 : Heap, Src ((gt, .cells e (1 * size) (ofL v.cells)) :: h0) size (.osl gt size 0 1) 1 (ofL v.cells) := fun h0 => by
      refine .osl (f' := ofL v.cells) (m := 1 * size) (ty := e) (by simp [Heap.get]) (by omega) (fun j _ => by rw [Nat.zero_add])
    cases og with
    | none =>
      have hn0 : n = 0 := hog rfl
      subst hn0
      refine aw_appendN (cx := .osl gt size 0 1) (k := 1) (f2 := ofL v.cells) hop2 (hw2 _) hd2 ht hz hzl hs0 hevs' hev1' (hsrc _) (by omega) (by omega) (by omega) fun g' hg' => ?_
      refine aw_conv1 (f' := f') (fun j hj => ?_) ?_
      · have := hf j (by omega)
        rw [← this]; simp [appF]
      · have hnew : g' ∉ Heap.keys ((gt, .cells e (1 * size) (ofL v.cells)) :: pre) := fun hm => hg' (by simpa [gh] using hm)
        refine aw_perm (h' := (gt, .cells e (1 * size) (ofL v.cells)) :: (pre ++ [(g', .cells e (1 * size) f')])) ?_ ?_
        · have : (pre ++ gh none e (0 * size) f) = pre := by simp [gh]
          rw [this]
          refine (List.Perm.swap _ _ _).trans (List.Perm.cons _ ?_)
          exact (List.perm_append_singleton _ _).symm
        · exact aw_ops_nil (aw_stop ⟨_, ⟨g', hnew, rfl, by simp [gh]⟩, rfl⟩)
    | some g =>
      refine aw_nd fun hnd => ?_
      have hnp : g ∉ pre.keys := fun hm => by
        simp only [Heap.keys, gh, List.map_cons, List.map_append, List.map_nil, List.nodup_cons] at hnd
        have := (List.nodup_append.1 hnd.2).2.2 g hm g (by simp)
        exact this rfl
      have hgtg : gt ≠ g := fun e => by
        subst e
        simp [Heap.keys, gh] at hnd
      refine aw_append (cx := .osl gt size 0 1) (k := 1) (f2 := ofL v.cells) (g := g) (m := n * size) (f := f) (h2 := (gt, .cells e (1 * size) (ofL v.cells)) :: pre) hop2 (hw2 _) hd2 ht hz hzl hs0 hevs' ?_ (Nat.le_refl _) hev1' (hsrc _) ?_ (by omega) h63 hby ?_ fun g' hg' => ?_
      · show Heap.get ((gt, _) :: (pre ++ [(g, _)])) g = _
        simp only [Heap.get, if_neg hgtg]
        exact Heap.get_app hnp
      · intro j hj
        have hjl : j < v.cells.length := by omega
        rw [ofL_get v.cells j v.cells[j] (List.getElem?_eq_getElem hjl)]
        exact List.all_eq_true.1 ok2 _ (List.getElem_mem hjl)
      · show Heap.del ((gt, _) :: (pre ++ [(g, _)])) g = _
        rw [Heap.del_ne hgtg, Heap.del_app hnp]
      · refine aw_conv1 (f' := f') hf ?_
        refine aw_perm (h' := (gt, .cells e (1 * size) (ofL v.cells)) :: (pre ++ [(g', .cells e ((n + 1) * size) f')])) ?_ ?_
        · refine (List.Perm.swap _ _ _).trans (List.Perm.cons _ ?_)
          exact (List.perm_append_singleton _ _).symm
        · exact aw_ops_nil (aw_stop ⟨_, ⟨g', hg', rfl, rfl⟩, rfl⟩)
  · rintro r h2 ⟨g', _, _, rfl⟩
    intro p hp
    rcases List.mem_cons.1 (hFP p hp) with e | hm
    · exact e ▸ List.mem_cons_self ..
    · exact List.mem_cons_of_mem _ (List.mem_append_left _ hm)
  · rintro r h2 ⟨g', hg, rfl, rfl⟩; exact k g' hg
end
end Go.AI

/- The law ShannonRises. -/
namespace Go.AI
section
variable {E : Env} {K : List It} {σ σ' : Sl} {h : Heap}
/-- A growing slice that a slot holds is given up. -/
theorem aw_frzGT {t s n n' : Nat} {og : Option Nat} {ty : TypeId} {f f' : Nat → CV} (hog : og = none → n = 0) (hnn : n = n') (ht : σ.get t = .c (gs og s n)) (hn : ∀ g, og = some g → ¬ E.C.own0 g) (hf : ∀ j, j < n * s → f j = f' j) (hσ : σ.set t (.c (.row true s n' f')) = σ') (k : aw E K σ' h) : aw E K σ (gh og ty (n * s) f ++ h) := by
  subst hnn
  cases og with
  | none =>
    have h0 := hog rfl
    subst h0
    refine aw_conv (t := t) (v := .c (.row true s 0 f')) (fun S w u hr => ?_) hσ k
    rw [ht] at hr
    exact repC_nil hr
  | some g =>
    refine aw_frzT (t := t) (g := g) (s := s) (off := 0) (n := n) (m := n * s) (ty := ty) (f := f) f' ht ?_ (by omega) (hn g rfl) (fun j hj => by rw [Nat.zero_add]; exact hf j hj) hσ ?_ k
    · show Heap.get ((g, _) :: h) g = _
      simp [Heap.get]
    · show Heap.del ((g, _) :: h) g = _
      simp [Heap.del]
end
end Go.AI
namespace Go.PN
open Go.AI
/-- The lesser and the greater ones of two lists. -/
def loL (p q : List RD) (k : Nat) : List RD := (List.range k).map fun i => rd (minQ (p.getD i rd0).q (q.getD i rd0).q)
def hiL (p q : List RD) (k : Nat) : List RD := (List.range k).map fun i => rd (maxQ (p.getD i rd0).q (q.getD i rd0).q)
theorem loL_len (p q : List RD) (k : Nat) : (loL p q k).length = k := by simp [loL]
theorem hiL_len (p q : List RD) (k : Nat) : (hiL p q k).length = k := by simp [hiL]
theorem loL_succ (p q : List RD) (k : Nat) : loL p q (k + 1) = loL p q k ++ [rd (minQ (p.getD k rd0).q (q.getD k rd0).q)] := by simp [loL, List.range_succ]
theorem hiL_succ (p q : List RD) (k : Nat) : hiL p q (k + 1) = hiL p q k ++ [rd (maxQ (p.getD k rd0).q (q.getD k rd0).q)] := by simp [hiL, List.range_succ]
theorem loL_get {p q : List RD} {k i : Nat} (h : i < k) : (loL p q k).getD i rd0 = rd (minQ (p.getD i rd0).q (q.getD i rd0).q) := by
  unfold loL; rw [List.getD_eq_getElem?_getD, List.getElem?_map, List.getElem?_range h]; rfl
theorem hiL_get {p q : List RD} {k i : Nat} (h : i < k) : (hiL p q k).getD i rd0 = rd (maxQ (p.getD i rd0).q (q.getD i rd0).q) := by
  unfold hiL; rw [List.getD_eq_getElem?_getD, List.getElem?_map, List.getElem?_range h]; rfl
theorem signQ_gt (x : Rat) : decide (signQ x > 0) = decide (0 < x) := by
  have h := signQ_le x
  by_cases h0 : x ≤ 0
  · rw [decide_eq_true h0] at h
    have := of_decide_eq_true h
    rw [decide_eq_false (show ¬ signQ x > 0 by omega), decide_eq_false (show ¬ 0 < x by grind)]
  · rw [decide_eq_false h0] at h
    have := of_decide_eq_false h
    rw [decide_eq_true (show signQ x > 0 by omega), decide_eq_true (show 0 < x by grind)]
theorem min_le (a b : Rat) : minQ a b ≤ a ∧ minQ a b ≤ b ∧ (minQ a b = a ∨ minQ a b = b) := by
  have h := signQ_gt (a - b)
  unfold minQ
  by_cases hs : signQ (a - b) > 0
  · rw [decide_eq_true hs] at h
    have := of_decide_eq_true h.symm
    rw [if_pos hs]
    exact ⟨by grind, Rat.le_refl, .inr rfl⟩
  · rw [decide_eq_false hs] at h
    have := of_decide_eq_false h.symm
    rw [if_neg hs]
    exact ⟨Rat.le_refl, by grind, .inl rfl⟩
theorem max_ge (a b : Rat) : a ≤ maxQ a b ∧ b ≤ maxQ a b ∧ (maxQ a b = a ∨ maxQ a b = b) := by
  obtain ⟨h1, h2, h3⟩ := min_le (-a) (-b)
  unfold maxQ
  refine ⟨by grind, by grind, ?_⟩
  rcases h3 with h | h <;> rw [h] <;> grind
end Go.PN
namespace Go.Proofs.YtmfmnmkipjpjhaaGreat
open Go.AI Go.PN
attribute [local irreducible] aw Fa Fh DrK
theorem unit_get {p : List RD} (hp : ∀ r ∈ p, r.prob = true) {i : Nat} (hi : i < p.length) : 0 ≤ (p.getD i rd0).q ∧ (p.getD i rd0).q ≤ 1 := by
  rw [List.getD_eq_getElem?_getD, List.getElem?_eq_getElem hi]
  exact prob_unit (hp _ (List.getElem_mem hi))
theorem wf_get {p : List RD} {L : Nat} (hp : ∀ r ∈ p, r.wf L) {i : Nat} (hi : i < p.length) : (p.getD i rd0).wf L := by
  rw [List.getD_eq_getElem?_getD, List.getElem?_eq_getElem hi]
  exact hp _ (List.getElem_mem hi)
theorem pcode_ok {p : List RD} {v : Int} (h : pcode p v = 0) : (p.length : Int) = v ∧ ∀ r ∈ p, r.prob = true := by
  unfold pcode at h
  split at h
  · cases h
  · rename_i h2
    split at h
    · rename_i h3
      exact ⟨Classical.not_not.1 h2, fun r hr => List.all_eq_true.1 h3 r hr⟩
    · cases h
theorem pcode_mk {p : List RD} {v : Int} (h1 : (p.length : Int) = v) (h2 : ∀ r ∈ p, r.prob = true) : pcode p v = 0 := by
  unfold pcode
  rw [if_neg (by simpa using h1), if_pos (List.all_eq_true.2 h2)]
/-- What is at most one of two, is as good as they are. -/
theorem loL_ok {p q : List RD} {k : Nat} (hp : ∀ r ∈ p, r.prob = true) (hq : ∀ r ∈ q, r.prob = true) (h1 : k ≤ p.length) (h2 : k ≤ q.length) : ∀ r ∈ loL p q k, r.prob = true := fun r hr => by
  obtain ⟨i, hi, rfl⟩ := List.mem_map.1 hr
  have hi' : i < k := List.mem_range.1 hi
  obtain ⟨a0, a1⟩ := unit_get hp (show i < p.length by omega)
  obtain ⟨b0, b1⟩ := unit_get hq (show i < q.length by omega)
  obtain ⟨_, _, h | h⟩ := min_le (p.getD i rd0).q (q.getD i rd0).q <;> rw [h] <;> exact rd_prob (by assumption) (by assumption)
theorem hiL_ok {p q : List RD} {k : Nat} (hp : ∀ r ∈ p, r.prob = true) (hq : ∀ r ∈ q, r.prob = true) (h1 : k ≤ p.length) (h2 : k ≤ q.length) : ∀ r ∈ hiL p q k, r.prob = true := fun r hr => by
  obtain ⟨i, hi, rfl⟩ := List.mem_map.1 hr
  have hi' : i < k := List.mem_range.1 hi
  obtain ⟨a0, a1⟩ := unit_get hp (show i < p.length by omega)
  obtain ⟨b0, b1⟩ := unit_get hq (show i < q.length by omega)
  obtain ⟨_, _, h | h⟩ := max_ge (p.getD i rd0).q (q.getD i rd0).q <;> rw [h] <;> exact rd_prob (by assumption) (by assumption)
theorem loL_wf {p q : List RD} {k : Nat} (hp : ∀ r ∈ p, r.wf 4) (hq : ∀ r ∈ q, r.wf 4) (h1 : k ≤ p.length) (h2 : k ≤ q.length) : ∀ r ∈ loL p q k, r.wf 4 := fun r hr => by
  obtain ⟨i, hi, rfl⟩ := List.mem_map.1 hr
  have hi' : i < k := List.mem_range.1 hi
  exact rd_wf (min_fits (RD.fits (wf_get hp (by omega)) (by omega)) (RD.fits (wf_get hq (by omega)) (by omega)))
theorem max_fits {a b : Rat} {L : Nat} (ha : fits a L) (hb : fits b L) : fits (maxQ a b) L := fits_neg (min_fits (fits_neg ha) (fits_neg hb))
theorem hiL_wf {p q : List RD} {k : Nat} (hp : ∀ r ∈ p, r.wf 4) (hq : ∀ r ∈ q, r.wf 4) (h1 : k ≤ p.length) (h2 : k ≤ q.length) : ∀ r ∈ hiL p q k, r.wf 4 := fun r hr => by
  obtain ⟨i, hi, rfl⟩ := List.mem_map.1 hr
  have hi' : i < k := List.mem_range.1 hi
  exact rd_wf (max_fits (RD.fits (wf_get hp (by omega)) (by omega)) (RD.fits (wf_get hq (by omega)) (by omega)))
/-- The probability of a formula, as the expected value. -/
theorem sum_ex {f : FM} {D : DG} {p : List RD} (hD : DOut D.order (fun s => valF f s f.top) D) (hl : D.order.length = p.length) : sumQ p (tabL D) (2 ^ p.length) = exQ (prP p) p.length (fun s => evB (valF f s f.top)) := by
  have := prS_ex (d := D) (p := p) hl
  unfold prS at this
  rw [this]
  exact ex_congr _ _ _ fun s _ => by rw [hD.ev s]
theorem top_small {f : FM} {D : DG} {p : List RD} (hD : DOut D.order (fun s => valF f s f.top) D) (hl : D.order.length = p.length) (h6 : p.length ≤ 6) (hw : ∀ r ∈ p, r.wf 4) (hp : ∀ r ∈ p, r.prob = true) : (rd (sumQ p (tabL D) (2 ^ p.length))).wf 4000 := by
  have hsD : Small D p := ⟨hw, by omega, by omega, by have := (dg_ok hD.code).n4096; omega, fun _ => by omega⟩
  have hdp : dpcode D p = 0 := by
    unfold dpcode
    rw [if_neg (by rw [hD.code]; simp)]
    exact pcode_mk (by omega) hp
  have := prS_wf hsD hdp
  unfold prS at this
  exact this
theorem rises {f : FM} {D D' : DG} {p q : List RD} {n : Nat} (ok : FrOk f) (hc : cohTo f f.nodes.length = true) (hp : ∀ r ∈ p, r.prob = true) (hq : ∀ r ∈ q, r.prob = true) (h1 : p.length = n) (h2 : q.length = n)
    (hD : DOut D.order (fun s => valF f s f.top) D) (hl : D.order.length = (loL p q n).length) (hD' : DOut D'.order (fun s => valF f s f.top) D') (hl' : D'.order.length = (hiL p q n).length) :
    sumQ (loL p q n) (tabL D) (2 ^ (loL p q n).length) - sumQ (hiL p q n) (tabL D') (2 ^ (hiL p q n).length) ≤ 0 := by
  rw [sum_ex hD hl, sum_ex hD' hl', loL_len, hiL_len]
  have := ex_rise (p := prP (loL p q n)) (q := prP (hiL p q n)) n (fun s => evB (valF f s f.top)) (fun i hi => ?_) fun s t _ _ hst => ?_
  · grind
  · unfold prP
    rw [loL_get hi, hiL_get hi, rd_q, rd_q]
    obtain ⟨a0, a1⟩ := unit_get hp (show i < p.length by omega)
    obtain ⟨b0, b1⟩ := unit_get hq (show i < q.length by omega)
    obtain ⟨l1, l2, l3⟩ := min_le (p.getD i rd0).q (q.getD i rd0).q
    obtain ⟨m1, m2, m3⟩ := max_ge (p.getD i rd0).q (q.getD i rd0).q
    refine ⟨?_, by grind, ?_⟩
    · rcases l3 with h | h <;> rw [h] <;> assumption
    · rcases m3 with h | h <;> rw [h] <;> assumption
  · have hm := coh_mono ok hc hst
    cases h1 : valF f s f.top
    · cases valF f t f.top <;> unfold evB <;> decide
    · rw [hm h1]; exact Rat.le_refl
set_option maxRecDepth 100000 in
set_option maxHeartbeats 3200000 in
theorem lawRises_fa (haw : Fa Tryz.prog 5 [] (.c (.bool true))) (f : FM) (p q : List RD) (hw : WordsOk p) (hwq : WordsOk q) (hlp : p.length ≤ 1099511627776) (hlq : q.length ≤ 1099511627776) (hn : f.nodes.length ≤ 1099511627776) (ha : ArgsOk f) (ht0 : -9223372036854775808 ≤ f.top) (ht : f.top ≤ 9223372036854775807) :
    Fa Tryz.prog 4 [.agg (fmc false f), .c (rats false p), .c (rats false q)] (.c (.bool true)) := by
  refine fa_of_body Tryz.func4 rfl rfl (by simp [Tryz.ntmps4]) fun C hC => ?_
  simp only [initS, Nat.reduceAdd]
  refine xG ?_
  refine xB fun g3 hn_g3=>?_
  refine yG hn_g3 ?_
  refine yC hn_g3 (haw) ?_
  refine yG hn_g3 ?_
  refine yC hn_g3 (fcheckR_fa f hn ha ht0 ht) ?_
  refine yG hn_g3 ?_
  refine aw_split 21 (zE hn_g3) (fun h0 => ?_) (fun h0 => ?_) <;> refine yS hn_g3 ?_
  · refine yG hn_g3 ?_
    refine yP hn_g3 ?_
    refine yG hn_g3 ?_
    refine yC hn_g3 (haw) ?_
    refine yG hn_g3 ?_
    refine yT hC hn_g3 ?_
    exact .one (.c (.bool _))
  have hc : fcode f = 0 := by simpa using h0
  have ok := fr_ok hc
  have n128 := ok.n128
  refine yG hn_g3 ?_
  refine aw_split 26 (zE hn_g3) (fun h6 => ?_) (fun h6 => ?_) <;> refine yS hn_g3 ?_
  · refine yG hn_g3 ?_
    refine yP hn_g3 ?_
    refine yG hn_g3 ?_
    refine yC hn_g3 (haw) ?_
    refine yG hn_g3 ?_
    refine yT hC hn_g3 ?_
    exact .one (.c (.bool _))
  have h6' : f.vars ≤ 6 := by have := of_decide_eq_false h6; omega
  refine yG hn_g3 ?_
  refine yC hn_g3 (coherent_fa f ok) ?_
  refine yG hn_g3 ?_
  refine aw_split 31 (zE hn_g3) (fun hco => ?_) (fun hco => ?_) <;> refine yS hn_g3 ?_
  · refine yG hn_g3 ?_
    refine yP hn_g3 ?_
    refine yG hn_g3 ?_
    refine yC hn_g3 (haw) ?_
    refine yG hn_g3 ?_
    refine yT hC hn_g3 ?_
    exact .one (.c (.bool _))
  have hco' : cohTo f f.nodes.length = true := by simpa using hco
  refine yG hn_g3 ?_
  refine aw_callq (large_fa ⟨[], [], 0⟩ p hlp (by simp) (by simp)) rfl rfl rfl (by refine yS hn_g3 ?_; exact ⟨.agg ⟨.nils, .nils, .refl _, trivial⟩, .c (.refl _)⟩) ?_
  refine yS hn_g3 ?_
  refine yG hn_g3 ?_
  refine aw_split 36 (zE hn_g3) (fun hvp => ?_) (fun hvp => ?_) <;> refine yS hn_g3 ?_
  · refine yG hn_g3 ?_
    refine yP hn_g3 ?_
    refine yG hn_g3 ?_
    refine yC hn_g3 (haw) ?_
    refine yG hn_g3 ?_
    refine yT hC hn_g3 ?_
    exact .one (.c (.bool _))
  have hwp := (small_of hw (by simp) hvp).w
  refine yG hn_g3 ?_
  refine aw_callq (large_fa ⟨[], [], 0⟩ q hlq (by simp) (by simp)) rfl rfl rfl (by refine yS hn_g3 ?_; exact ⟨.agg ⟨.nils, .nils, .refl _, trivial⟩, .c (.refl _)⟩) ?_
  refine yS hn_g3 ?_
  refine yG hn_g3 ?_
  refine aw_split 41 (zE hn_g3) (fun hvq => ?_) (fun hvq => ?_) <;> refine yS hn_g3 ?_
  · refine yG hn_g3 ?_
    refine yP hn_g3 ?_
    refine yG hn_g3 ?_
    refine yC hn_g3 (haw) ?_
    refine yG hn_g3 ?_
    refine yT hC hn_g3 ?_
    exact .one (.c (.bool _))
  have hwq' := (small_of hwq (by simp) hvq).w
  refine yG hn_g3 ?_
  refine yC hn_g3 (check37_fa p f.vars (fun r hr => wf_mono (hwp r hr) ?_) hlp) ?_
  · omega
  refine yG hn_g3 ?_
  refine aw_split 48 (zE hn_g3) (fun hpp => ?_) (fun hpp => ?_) <;> refine yS hn_g3 ?_
  · refine yG hn_g3 ?_
    refine yP hn_g3 ?_
    refine yG hn_g3 ?_
    refine yC hn_g3 (haw) ?_
    refine yG hn_g3 ?_
    refine yT hC hn_g3 ?_
    exact .one (.c (.bool _))
  have hpp' : pcode p f.vars = 0 := by simpa using hpp
  refine yG hn_g3 ?_
  refine yC hn_g3 (check37_fa q f.vars (fun r hr => wf_mono (hwq' r hr) ?_) hlq) ?_
  · omega
  refine yG hn_g3 ?_
  refine yF hn_g3 (fun hpq=>?_) fun hpq=>?_
  · refine yG hn_g3 ?_
    refine yC hn_g3 (haw) ?_
    refine yG hn_g3 ?_
    refine yT hC hn_g3 ?_
    exact .one (.c (.bool _))
  have hpq' : pcode q f.vars = 0 := by simpa using hpq
  obtain ⟨hl1, hp1⟩ := pcode_ok hpp'
  obtain ⟨hl2, hp2⟩ := pcode_ok hpq'
  have hqp : q.length = p.length := by omega
  refine yG hn_g3 ?_
  refine aw_lp (fun x : Option Nat × Option Nat × Nat => [(1, .c (rats false p)), (2, .c (rats false q)), (3, .c (.optr g3 0)), (7, .c (gs x.1 3 x.2.2)), (8, .c (gs x.2.1 3 x.2.2)), (9, .c (.int .i64 x.2.2))]) (fun x => gh x.1 35 (x.2.2 * 3) (ratsF (loL p q x.2.2)) ++ (gh x.2.1 35 (x.2.2 * 3) (ratsF (hiL p q x.2.2)) ++ [(g3, .cells 24 3 (ofL (fmc false f)))]))
    (fun x => x.2.2 ≤ p.length ∧ (x.1 = none → x.2.2 = 0) ∧ (x.2.1 = none → x.2.2 = 0)) (fun x => p.length - x.2.2) (none, none, 0) (zB hn_g3) (by refine yS hn_g3 ?_; exact .refl _) ⟨Nat.zero_le _, fun _ => rfl, fun _ => rfl⟩ ?_
  rintro ⟨ogl, ogh, k⟩ ⟨hk, hogl, hogh⟩
  dsimp only at hk hogl hogh ⊢
  refine yG hn_g3 ?_
  refine yF hn_g3 (fun h1=>?_) fun h1=>?_
  · have h1' : k < p.length := by have := of_decide_eq_true h1; omega
    have hkq : k < q.length := by omega
    have hp4 := wf_get hwp h1'
    have hq4 := wf_get hwq' hkq
    have e1 := loL_succ p q k
    have e2 := hiL_succ p q k
    have m1 := smin_fa (p.getD k rd0) (q.getD k rd0) (wf_mono hp4 (by omega)) (wf_mono hq4 (by omega))
    have m2 := smax_fa (p.getD k rd0) (q.getD k rd0) (wf_mono hp4 (by omega)) (wf_mono hq4 (by omega))
    generalize rd (minQ (p.getD k rd0).q (q.getD k rd0).q) = A at m1 e1
    generalize rd (maxQ (p.getD k rd0).q (q.getD k rd0).q) = B at m2 e2
    refine yG hn_g3 ?_
    refine aw_cw ([]) [(0,0),(1,0),(2,0),(3,0),(4,0),(5,0),(6,0),(7,0),(8,0),(9,0),(12,0),(13,0),(14,0),(15,0),(16,0),(17,0),(18,0),(19,0),(20,0),(10,1),(11,1),(21,0),(22,1),(23,1),(24,0),(25,0)] ty_mixed (by kernel_rfl) eI ?_
    refine yG hn_g3 ?_
    refine cw_callq rfl m1 rfl rfl rfl (fun _ _ => (zL hn_g3)) ?_
    refine yS hn_g3 ?_
    refine yG hn_g3 ?_
    refine cw_buildSlice (xs := [.tmp 71]) (cells := rdc A) rfl rfl rfl rfl (zE hn_g3) (by refine yS hn_g3 ?_; rfl) rfl (by omega) (by omega) (by intro x hx; simp only [List.mem_singleton] at hx; subst hx; exact ⟨rfl, rfl, rfl⟩) rfl (by simp [Op.operands]) has0_nil (fun ga hn_ga => ?_) (hm := .inr ⟨rfl, rfl⟩)
    refine yS hn_g3 ?_
    refine cw_perm (h' := (ga, .cells 35 (1 * 3) (ofL (rdc A))) :: ((gh ogh 35 (k * 3) (ratsF (hiL p q k)) ++ [(g3, .cells 24 3 (ofL (fmc false f)))]) ++ gh ogl 35 (k * 3) (ratsF (loL p q k)))) (.cons _ List.perm_append_comm) ?_
    refine cw_push (og := ogl) (n := k) (s := 62) (d1 := 72) (gt := ga) (v := .agg (rdc A)) rfl rfl rfl rfl (zE hn_g3) (zE hn_g3) (by rfl) (by omega) (by omega) (zE hn_g3) (zE hn_g3) hogl (by rfl) (by rfl) rfl (by unfold maxLen; omega) (by omega) (rats_push (loL_len p q k) A) has0_nil (fun gb hn_gb => ?_) (hm := .inr ⟨rfl, rfl⟩)
    rw [← e1]
    refine yS hn_g3 ?_
    refine yG hn_g3 ?_
    refine cw_callq rfl m2 rfl rfl rfl (fun _ _ => (zL hn_g3)) ?_
    refine yS hn_g3 ?_
    refine yG hn_g3 ?_
    refine cw_buildSlice (xs := [.tmp 83]) (cells := rdc B) rfl rfl rfl rfl (zE hn_g3) (by refine yS hn_g3 ?_; rfl) rfl (by omega) (by omega) (by intro x hx; simp only [List.mem_singleton] at hx; subst hx; exact ⟨rfl, rfl, rfl⟩) rfl (by simp [Op.operands]) has0_nil (fun gc hn_gc => ?_) (hm := .inr ⟨rfl, rfl⟩)
    refine yS hn_g3 ?_
    refine cw_perm (h' := (gc, .cells 35 (1 * 3) (ofL (rdc B))) :: (((ga, .cells 35 (1 * 3) (ofL (rdc A))) :: (g3, .cells 24 3 (ofL (fmc false f))) :: gh (some gb) 35 ((k + 1) * 3) (ratsF (loL p q (k + 1)))) ++ gh ogh 35 (k * 3) (ratsF (hiL p q k)))) (.cons _ (.cons _ (by rw [List.append_assoc]; exact List.perm_append_comm))) ?_
    refine cw_push (og := ogh) (n := k) (s := 74) (d1 := 84) (gt := gc) (v := .agg (rdc B)) rfl rfl rfl rfl (zE hn_g3) (zE hn_g3) (by rfl) (by omega) (by omega) (zE hn_g3) (zE hn_g3) hogh (by rfl) (by rfl) rfl (by unfold maxLen; omega) (by omega) (rats_push (hiL_len p q k) B) has0_nil (fun gd hn_gd => ?_) (hm := .inr ⟨rfl, rfl⟩)
    rw [← e2]
    refine yS hn_g3 ?_
    refine yG hn_g3 ?_
    refine aw_perm (h' := (gc, .cells 35 (1 * 3) (ofL (rdc B))) :: (ga, .cells 35 (1 * 3) (ofL (rdc A))) :: (gh (some gb) 35 ((k + 1) * 3) (ratsF (loL p q (k + 1))) ++ (gh (some gd) 35 ((k + 1) * 3) (ratsF (hiL p q (k + 1))) ++ [(g3, .cells 24 3 (ofL (fmc false f)))]))) (.cons _ (.cons _ (by rw [← List.append_assoc]; exact List.perm_append_comm (l₁ := [(g3, _)])))) ?_
    exact aw_stop ⟨(some gb, some gd, k + 1), by dsimp only; omega, (zB hn_g3), .cons _ (.cons _ (.refl _)), by dsimp only; omega, some_ne, some_ne⟩
  · have h1' : k = p.length := by have := of_decide_eq_false h1; omega
    subst h1'
    refine aw_frzGT (t := 7) (f' := ratsF (loL p q p.length)) hogl (loL_len p q p.length).symm (zE hn_g3) (fun g _ => hC g) (fun _ _ => rfl) rfl ?_
    refine aw_frzGT (t := 8) (f' := ratsF (hiL p q p.length)) hogh (hiL_len p q p.length).symm (zE hn_g3) (fun g _ => hC g) (fun _ _ => rfl) rfl ?_
    refine yS hn_g3 ?_
    have hrs : ∀ D D', DOut D.order (fun s => valF f s f.top) D → D.order.length = (loL p q p.length).length → DOut D'.order (fun s => valF f s f.top) D' → D'.order.length = (hiL p q p.length).length → sumQ (loL p q p.length) (tabL D) (2 ^ (loL p q p.length).length) - sumQ (hiL p q p.length) (tabL D') (2 ^ (hiL p q p.length).length) ≤ 0 :=
      fun D D' hD hl hD' hl' => rises ok hco' hp1 hp2 rfl hqp hD hl hD' hl'
    have x1 := loL_wf hwp hwq' (Nat.le_refl p.length) (by omega)
    have x2 := loL_ok hp1 hp2 (Nat.le_refl p.length) (by omega)
    have x3 := hiL_wf hwp hwq' (Nat.le_refl p.length) (by omega)
    have x4 := hiL_ok hp1 hp2 (Nat.le_refl p.length) (by omega)
    have x5 := loL_len p q p.length
    have x6 := hiL_len p q p.length
    generalize loL p q p.length = P at *
    generalize hiL p q p.length = Q at *
    refine yG hn_g3 ?_
    refine aw_callh (hc := []) (hr := [(g3, .cells 24 3 (ofL (fmc false f)))]) (stop_fh f P hn ha hc h6' x1 (pcode_mk (by omega) x2) (by omega)) rfl rfl rfl (.refl _) (zL hn_g3) ?_
    rintro _ _ ⟨rfl, D, hD, hDl, rfl⟩ _
    refine yS hn_g3 ?_
    refine yG hn_g3 ?_
    refine yA hn_g3 fun g10 hn_g10=>?_
    refine yG (oj hn_g3 hn_g10) ?_
    refine yW (oj hn_g3 hn_g10) ?_
    refine yS (oj hn_g3 hn_g10) ?_
    refine yG (oj hn_g3 hn_g10) ?_
    refine aw_callh (hc := []) (hr := [(g10, .cells 35 3 (ofL (rdc (rd (sumQ P (tabL D) (2 ^ P.length)))))), (g3, .cells 24 3 (ofL (fmc false f)))]) (stop_fh f Q hn ha hc h6' x3 (pcode_mk (by omega) x4) (by omega)) rfl rfl rfl (.refl _) (zL (oj hn_g3 hn_g10)) ?_
    rintro _ _ ⟨rfl, D', hD', hDl', rfl⟩ _
    have y1 := top_small hD hDl (by omega) x1 x2
    have y2 := top_small hD' hDl' (by omega) x3 x4
    have y3 := hrs D D' hD hDl hD' hDl'
    generalize sumQ P (tabL D) (2 ^ P.length) = X at *
    generalize sumQ Q (tabL D') (2 ^ Q.length) = Y at *
    refine yS (oj hn_g3 hn_g10) ?_
    refine yG (oj hn_g3 hn_g10) ?_
    refine yA (oj hn_g3 hn_g10) fun g12 hn_g12=>?_
    refine yG (oj hn_g3 (oj hn_g10 hn_g12)) ?_
    refine yW (oj hn_g3 (oj hn_g10 hn_g12)) ?_
    refine yS (oj hn_g3 (oj hn_g10 hn_g12)) ?_
    refine yG (oj hn_g3 (oj hn_g10 hn_g12)) ?_
    refine yC (oj hn_g3 (oj hn_g10 hn_g12)) (scmp_fa (rd X) (rd Y) (wf_mono y1 ?_) (wf_mono y2 ?_)) ?_
    · omega
    · omega
    rw [rd_q, rd_q]
    refine yG (oj hn_g3 (oj hn_g10 hn_g12)) ?_
    refine yT hC (oj hn_g3 (oj hn_g10 hn_g12)) ?_
    exact .one (.c (ler_bool (by rw [signQ_le]; exact decide_eq_true y3)))
end Go.Proofs.YtmfmnmkipjpjhaaGreat
