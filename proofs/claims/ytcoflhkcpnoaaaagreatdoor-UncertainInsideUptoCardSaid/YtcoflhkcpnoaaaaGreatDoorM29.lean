/- Blocks of one proof, laid one behind the other by a program (merge2.py). -/
import Derived.Test.YtcoflhkcpnoaaaaGreatDoorM27
import Derived.Test.YtcoflhkcpnoaaaaGreatDoorM28
set_option linter.unusedSimpArgs false
set_option linter.unusedVariables false
namespace Go.Proofs.YtcoflhkcpnoaaaaGreatDoor
open Go.AI Go.PN
theorem prob_unit {r : RD} (h : r.prob = true) : 0 ≤ r.q ∧ r.q ≤ 1 := by
  unfold RD.prob at h
  simp only [Bool.and_eq_true, decide_eq_true_eq] at h
  exact ⟨by have := h; grind, by have := h; grind⟩
end Go.Proofs.YtcoflhkcpnoaaaaGreatDoor
namespace Go.PN
open Go.AI
def Sub (s t : Nat) : Prop := ∀ j, s.testBit j = true → t.testBit j = true
theorem bit_add {s m : Nat} (hs : s < 2 ^ m) (j : Nat) : (s + 2 ^ m).testBit j = (decide (m = j) || s.testBit j) := by
  have := Nat.two_pow_add_eq_or_of_lt hs 1
  rw [Nat.mul_one] at this
  rw [Nat.add_comm, this, Nat.testBit_or, Nat.testBit_two_pow]
theorem sub_add {s t m : Nat} (hs : s < 2 ^ m) (ht : t < 2 ^ m) (h : Sub s t) : Sub (s + 2 ^ m) (t + 2 ^ m) := fun j hj => by
  rw [bit_add hs] at hj
  rw [bit_add ht]
  rcases (Bool.or_eq_true _ _).mp hj with h1 | h1
  · rw [h1]; rfl
  · rw [h j h1, Bool.or_true]
theorem sub_up {s m : Nat} (hs : s < 2 ^ m) : Sub s (s + 2 ^ m) := fun j hj => by rw [bit_add hs, hj, Bool.or_true]
theorem ex_le {p : Nat → Rat} : ∀ (m : Nat) (f g : Nat → Rat), (∀ i, i < m → 0 ≤ p i ∧ p i ≤ 1) → (∀ s, s < 2 ^ m → f s ≤ g s) → exQ p m f ≤ exQ p m g
  | 0, f, g, _, h => h 0 (by simp)
  | m + 1, f, g, hp, h => by
    have e : 2 ^ (m + 1) = 2 ^ m + 2 ^ m := by rw [Nat.pow_succ]; omega
    have h1 := ex_le m f g (fun i hi => hp i (by omega)) fun s hs => h s (by omega)
    have h2 := ex_le m (fun s => f (s + 2 ^ m)) (fun s => g (s + 2 ^ m)) (fun i hi => hp i (by omega)) fun s hs => h _ (by omega)
    obtain ⟨p0, p1⟩ := hp m (by omega)
    rw [exQ, exQ]
    have h3 := Rat.mul_le_mul_of_nonneg_left h1 (show 0 ≤ 1 - p m by grind)
    have h4 := Rat.mul_le_mul_of_nonneg_left h2 p0
    grind
theorem mix_rise {p q a b A B : Rat} (p0 : 0 ≤ p) (pq : p ≤ q) (q1 : q ≤ 1) (h1 : a ≤ A) (h2 : b ≤ B) (h3 : A ≤ B) : (1 - p) * a + p * b ≤ (1 - q) * A + q * B := by
  have e1 := Rat.mul_le_mul_of_nonneg_left h1 (show 0 ≤ 1 - p by grind)
  have e2 := Rat.mul_le_mul_of_nonneg_left h2 p0
  have e3 := Rat.mul_le_mul_of_nonneg_left h3 (show 0 ≤ q - p by grind)
  grind
theorem ex_rise {p q : Nat → Rat} : ∀ (m : Nat) (f : Nat → Rat), (∀ i, i < m → 0 ≤ p i ∧ p i ≤ q i ∧ q i ≤ 1) → (∀ s t, s < 2 ^ m → t < 2 ^ m → Sub s t → f s ≤ f t) → exQ p m f ≤ exQ q m f
  | 0, f, _, _ => Rat.le_refl
  | m + 1, f, hp, h => by
    have e : 2 ^ (m + 1) = 2 ^ m + 2 ^ m := by rw [Nat.pow_succ]; omega
    have h1 := ex_rise (p := p) (q := q) m f (fun i hi => hp i (by omega)) fun s t hs ht hst => h s t (by omega) (by omega) hst
    have h2 := ex_rise (p := p) (q := q) m (fun s => f (s + 2 ^ m)) (fun i hi => hp i (by omega)) fun s t hs ht hst => h _ _ (by omega) (by omega) (sub_add hs ht hst)
    have h3 := ex_le (p := q) m f (fun s => f (s + 2 ^ m)) (fun i hi => by obtain ⟨a, b, c⟩ := hp i (by omega); exact ⟨by grind, c⟩) fun s hs => h _ _ (by omega) (by omega) (sub_up hs)
    obtain ⟨p0, pq, q1⟩ := hp m (by omega)
    rw [exQ, exQ]
    exact mix_rise p0 pq q1 h1 h2 h3
theorem cohTo_at {f : FM} {i : Nat} : ∀ {k : Nat}, cohTo f k = true → i < k → (belL f).getD (f.vars.toNat + i) false = true → (f.nodes.getD i fn0).kind ≠ 1 ∧ (f.nodes.getD i fn0).kind ≠ 5
  | 0, _, h, _ => by omega
  | k + 1, hc, h, hb => by
    rw [cohTo, Bool.and_eq_true] at hc
    by_cases e : i = k
    · subst e
      have := hc.2
      rw [hb] at this
      simpa using this
    · exact cohTo_at hc.1 (by omega) hb
theorem cntV_mono {v w : Int → Bool} : ∀ {az : List Int}, (∀ a ∈ az, v a = true → w a = true) → cntV v az ≤ cntV w az
  | [], _ => Nat.le_refl _
  | a :: az, h => by
    have ih := cntV_mono (az := az) fun b hb => h b (List.mem_cons_of_mem _ hb)
    have ha := h a (List.mem_cons_self ..)
    unfold cntV at ih ⊢
    rw [List.filter_cons, List.filter_cons]
    cases hv : v a
    · cases hw : w a <;> simp <;> omega
    · rw [ha hv]; simp; omega
theorem nodeV_mono {v w : Int → Bool} {x : FN} (h1 : x.kind ≠ 1) (h5 : x.kind ≠ 5) (k0 : 0 ≤ x.kind) (k5 : x.kind ≤ 5) (h : ∀ a ∈ x.args, v a = true → w a = true) (hv : nodeV v x = true) : nodeV w x = true := by
  have hm := cntV_mono (v := v) (w := w) h
  have hl : cntV w x.args ≤ x.args.length := List.length_filter_le _ _
  unfold nodeV at hv ⊢
  have hk : x.kind = 0 ∨ x.kind = 2 ∨ x.kind = 3 ∨ x.kind = 4 := by omega
  rcases hk with hk | hk | hk | hk
  · rw [hk] at hv ⊢
    exact hv
  · rw [hk] at hv ⊢
    have hv' : (((cntV v x.args : Nat) : Int) == (x.args.length : Int)) = true := hv
    have := eq_of_beq hv'
    show (((cntV w x.args : Nat) : Int) == (x.args.length : Int)) = true
    exact beq_iff_eq.2 (by omega)
  · rw [hk] at hv ⊢
    have hv' : decide (((cntV v x.args : Nat) : Int) > 0) = true := hv
    have := of_decide_eq_true hv'
    show decide (((cntV w x.args : Nat) : Int) > 0) = true
    exact decide_eq_true (by omega)
  · rw [hk] at hv ⊢
    have hv' : decide (((cntV v x.args : Nat) : Int) ≥ x.k) = true := hv
    have := of_decide_eq_true hv'
    show decide (((cntV w x.args : Nat) : Int) ≥ x.k) = true
    exact decide_eq_true (by omega)
theorem val_mono {f : FM} (ok : FrOk f) (hc : cohTo f f.nodes.length = true) {s t : Nat} (hst : Sub s t) : ∀ (n : Nat) (a : Int), a.toNat < n → 0 ≤ a → a < f.vars + f.nodes.length → (belL f).getD a.toNat false = true → valF f s a = true → valF f t a = true := by
  have v0 := ok.v0
  intro n
  induction n with
  | zero => intro a hn; omega
  | succ n ih =>
    intro a hn h0 h1 hm
    by_cases hv : a < f.vars
    · rw [val_event hv, val_event hv]
      exact hst _
    · obtain ⟨i, hi⟩ : ∃ i : Nat, a = f.vars + i := ⟨(a - f.vars).toNat, by omega⟩
      subst hi
      have hi : i < f.nodes.length := by omega
      have hm' : (belL f).getD (f.vars.toNat + i) false = true := by rw [show f.vars.toNat + i = (f.vars + (i : Int)).toNat from by omega]; exact hm
      rw [val_node ok hi, val_node ok hi]
      obtain ⟨n1, n5⟩ := cohTo_at hc hi hm'
      obtain ⟨k0, k5⟩ := ok.kind i hi
      refine nodeV_mono n1 n5 k0 k5 fun b hb => ?_
      obtain ⟨b0, b1⟩ := ok.arg i hi b hb
      exact ih b (by omega) b0 (by omega) (bel_arg ok hi hm' hb)
theorem coh_mono {f : FM} (ok : FrOk f) (hc : cohTo f f.nodes.length = true) {s t : Nat} (hst : Sub s t) (h : valF f s f.top = true) : valF f t f.top = true :=
  val_mono ok hc hst (f.top.toNat + 1) f.top (by omega) ok.t0 ok.t1 (bel_top ok _) h
end Go.PN
namespace Go.Proofs.YtcoflhkcpnoaaaaGreatDoor
open Go.AI Go.PN
attribute [local irreducible] aw Fa Fh DrK
theorem umonS_wf {f : FM} {s : List SD} (h : umonC f s = 0 → UOk f s) : (umonS f s).lo.wf 14000 ∧ (umonS f s).hi.wf 14000 := by
  unfold umonS
  split
  · rename_i hc
    exact ⟨rd_wf (topQ_fits (h hc) _), rd_wf (topQ_fits (h hc) _)⟩
  · exact ⟨rd_wf (fits_mono fits_zero (by omega)), rd_wf (fits_mono fits_zero (by omega))⟩
end Go.Proofs.YtcoflhkcpnoaaaaGreatDoor
namespace Go.Proofs.YtcoflhkcpnoaaaaGreatDoor
open Go.AI Go.PN
attribute [local irreducible] aw Fa Fh DrK
theorem ok_ends {y : SD} (h : okS y = true) : 0 ≤ y.lo.q ∧ y.lo.q ≤ y.hi.q ∧ y.hi.q ≤ 1 := by
  obtain ⟨a, b⟩ := ok_prob h
  have hv : validS y = true := by unfold okS at h; rw [Bool.and_eq_true] at h; exact h.1
  exact ⟨(prob_unit a).1, valid_le hv, (prob_unit b).2⟩
theorem topQ_mono {f : FM} {s : List SD} (ok : UOk f s) (hc : cohTo f f.nodes.length = true) {u v : Nat} (h : ∀ i, i < s.length → u.testBit i = true → v.testBit i = true) : topQ f s u ≤ topQ f s v := by
  rw [topQ_ex ok, topQ_ex ok]
  refine ex_rise s.length _ (fun i hi => ?_) fun a b _ _ hab => ?_
  · rw [end_at hi, end_at hi]
    obtain ⟨a, b, c⟩ := ok_ends (ok.getOk hi).1
    cases hu : u.testBit i
    · cases hv : v.testBit i
      · simp only [Bool.false_eq_true, if_false]
        exact ⟨a, Rat.le_refl, by grind⟩
      · simp only [Bool.false_eq_true, if_false, if_true]
        exact ⟨a, b, c⟩
    · rw [h i hi hu]
      simp only [if_true]
      exact ⟨by grind, Rat.le_refl, c⟩
  · have hm := coh_mono (fr_ok ok.fc) hc hab
    cases h1 : valF f a f.top
    · cases valF f b f.top <;> unfold evB <;> decide
    · rw [hm h1]; exact Rat.le_refl
end Go.Proofs.YtcoflhkcpnoaaaaGreatDoor
namespace Go.PN
open Go.AI
theorem ex_mix {p : Nat → Rat} (a b : Rat) : ∀ (m : Nat) (f g : Nat → Rat), exQ p m (fun s => a * f s + b * g s) = a * exQ p m f + b * exQ p m g
  | 0, f, g => rfl
  | m + 1, f, g => by rw [exQ, exQ, exQ, ex_mix a b m f g, ex_mix a b m (fun s => f (s + 2 ^ m)) (fun s => g (s + 2 ^ m))]; grind
def endP (e0 e1 : Nat → Rat) (u i : Nat) : Rat := if u.testBit i then e1 i else e0 i
theorem bit_high {u m : Nat} (h : u < 2 ^ m) : u.testBit m = false := Nat.testBit_lt_two_pow h
theorem bit_plus {u m i : Nat} (h : u < 2 ^ m) : (u + 2 ^ m).testBit i = (decide (m = i) || u.testBit i) := bit_add h i
theorem box_lo {e0 e1 p : Nat → Rat} : ∀ (m : Nat) (g : Nat → Rat), (∀ i, i < m → e0 i ≤ p i ∧ p i ≤ e1 i) → ∃ u, u < 2 ^ m ∧ exQ (endP e0 e1 u) m g ≤ exQ p m g
  | 0, g, _ => ⟨0, by simp, Rat.le_refl⟩
  | m + 1, g, h => by
    have e2 : 2 ^ (m + 1) = 2 ^ m + 2 ^ m := by rw [Nat.pow_succ]; omega
    obtain ⟨h0, h1⟩ := h m (by omega)
    have hh : ∀ i, i < m → e0 i ≤ p i ∧ p i ≤ e1 i := fun i hi => h i (by omega)
    have hp : exQ p (m + 1) g = (1 - p m) * exQ p m g + p m * exQ p m (fun s => g (s + 2 ^ m)) := rfl
    by_cases hB : exQ p m g ≤ exQ p m (fun s => g (s + 2 ^ m))
    · obtain ⟨u, u1, u2⟩ := box_lo m (fun s => (1 - e0 m) * g s + e0 m * g (s + 2 ^ m)) hh
      rw [ex_mix (p := p), ex_mix] at u2
      refine ⟨u, by omega, ?_⟩
      have e : endP e0 e1 u m = e0 m := by unfold endP; rw [bit_high u1]; rfl
      rw [hp, exQ, e]
      have k := Rat.mul_nonneg (show 0 ≤ p m - e0 m by grind) (show 0 ≤ exQ p m (fun s => g (s + 2 ^ m)) - exQ p m g by grind)
      grind
    · obtain ⟨u, u1, u2⟩ := box_lo m (fun s => (1 - e1 m) * g s + e1 m * g (s + 2 ^ m)) hh
      rw [ex_mix (p := p), ex_mix] at u2
      refine ⟨u + 2 ^ m, by omega, ?_⟩
      have e : endP e0 e1 (u + 2 ^ m) m = e1 m := by unfold endP; rw [bit_plus u1, decide_eq_true rfl]; rfl
      have ec : ∀ g, exQ (endP e0 e1 (u + 2 ^ m)) m g = exQ (endP e0 e1 u) m g := fun g => ex_congrP m g fun i hi => by
        unfold endP
        rw [bit_plus u1, decide_eq_false (by omega), Bool.false_or]
      rw [hp, exQ, e, ec, ec]
      have k := Rat.mul_nonneg (show 0 ≤ e1 m - p m by grind) (show 0 ≤ exQ p m g - exQ p m (fun s => g (s + 2 ^ m)) by grind)
      grind
theorem ex_neg {p : Nat → Rat} (m : Nat) (g : Nat → Rat) : exQ p m (fun s => -g s) = -exQ p m g := by
  have h := ex_mix (p := p) (-1) 0 m g g
  rw [show (fun s => -1 * g s + 0 * g s) = (fun s => -g s) from funext fun s => by grind] at h
  rw [h]; grind
theorem box_hi {e0 e1 p : Nat → Rat} (m : Nat) (g : Nat → Rat) (h : ∀ i, i < m → e0 i ≤ p i ∧ p i ≤ e1 i) : ∃ u, u < 2 ^ m ∧ exQ p m g ≤ exQ (endP e0 e1 u) m g := by
  obtain ⟨u, h1, h2⟩ := box_lo m (fun s => -g s) h
  rw [ex_neg, ex_neg] at h2
  exact ⟨u, h1, by grind⟩
end Go.PN
namespace Go.Proofs.YtcoflhkcpnoaaaaGreatDoor
open Go.AI Go.PN
theorem topQ_end {f : FM} {s : List SD} (ok : UOk f s) (u : Nat) : topQ f s u = exQ (endP (fun i => (s.getD i sd0).lo.q) (fun i => (s.getD i sd0).hi.q) u) s.length (fun t => evB (valF f t f.top)) := by
  rw [topQ_ex ok]
  exact ex_congrP _ _ fun i hi => end_at hi
theorem in_box {f : FM} {s : List SD} (ok : UOk f s) {p : Nat → Rat} (h : ∀ i, i < s.length → (s.getD i sd0).lo.q ≤ p i ∧ p i ≤ (s.getD i sd0).hi.q) :
    vloQ f s ≤ exQ p s.length (fun t => evB (valF f t f.top)) ∧ exQ p s.length (fun t => evB (valF f t f.top)) ≤ vhiQ f s := by
  obtain ⟨a, a1, a2⟩ := box_lo s.length (fun t => evB (valF f t f.top)) h
  obtain ⟨b, b1, b2⟩ := box_hi s.length (fun t => evB (valF f t f.top)) h
  rw [← topQ_end ok] at a2 b2
  exact ⟨Rat.le_trans ((vlo_spec f s).1 a a1) a2, Rat.le_trans b2 ((vhi_spec f s).1 b b1)⟩
theorem coh_ends {f : FM} {s : List SD} (ok : UOk f s) (hc : cohTo f f.nodes.length = true) : umonC f s = 0 ∧ umonS f s = ⟨rd (vloQ f s), rd (vhiQ f s)⟩ := by
  have hl := ok.len
  have hu : ucode f s = 0 := by unfold ucode; rw [if_neg (by simp [ok.fc])]; exact ok.sc
  have hcd : umonC f s = 0 := by unfold umonC; rw [if_neg (by simp [hu]), if_pos hc]
  refine ⟨hcd, ?_⟩
  have hS : umonS f s = ⟨rd (topQ f s 0), rd (topQ f s (2 ^ f.vars.toNat - 1))⟩ := by unfold umonS; rw [if_pos hcd]
  rw [show f.vars.toNat = s.length from by omega] at hS
  obtain ⟨l1, u, _, e1⟩ := vlo_spec f s
  obtain ⟨m1, v, _, e2⟩ := vhi_spec f s
  have hp := two_pos s.length
  have a1 := topQ_mono ok hc (u := 0) (v := u) (fun j _ h => by simp at h)
  have a2 := topQ_mono ok hc (u := v) (v := 2 ^ s.length - 1) (fun j hj _ => by rw [Nat.testBit_two_pow_sub_one]; exact decide_eq_true hj)
  have a3 := l1 0 (by omega)
  have a4 := m1 (2 ^ s.length - 1) (by omega)
  rw [hS, show topQ f s 0 = vloQ f s from by grind, show topQ f s (2 ^ s.length - 1) = vhiQ f s from by grind]
end Go.Proofs.YtcoflhkcpnoaaaaGreatDoor
namespace Go.PN
open Go.AI
def inQ (x : SD) (k : Nat) : Rat := x.lo.q + (k : Rat) / 255 * (x.hi.q - x.lo.q)
theorem k_fits {k : Nat} (hk : k ≤ 255) : fits ((k : Rat) / 255) 1 := by
  rw [show ((k : Rat) / 255) = sq false k 255 from by
    unfold sq sgn
    rw [if_neg (by simp), Rat.mkRat_eq_div]; rfl]
  exact fits_sq (by omega) (by omega) (by omega)
theorem k_unit {k : Nat} (hk : k ≤ 255) : 0 ≤ (k : Rat) / 255 ∧ (k : Rat) / 255 ≤ 1 := by
  have h0 : (0 : Rat) ≤ (k : Rat) := by exact_mod_cast Nat.zero_le k
  have h1 : (k : Rat) ≤ 255 := by exact_mod_cast hk
  constructor
  · grind
  · grind
theorem in_fits {x : SD} {k : Nat} (hk : k ≤ 255) (hw : x.wf 4) : fits (inQ x k) 16 := by
  have h1 := RD.fits hw.1 (by omega)
  have h2 := RD.fits hw.2 (by omega)
  exact fits_mono (fits_add h1 (fits_mul (k_fits hk) (fits_sub h2 h1))) (by omega)
theorem in_ends {x : SD} (h : x.lo.q ≤ x.hi.q) {k : Nat} (hk : k ≤ 255) : x.lo.q ≤ inQ x k ∧ inQ x k ≤ x.hi.q := by
  obtain ⟨a, b⟩ := k_unit hk
  unfold inQ
  have m1 := Rat.mul_nonneg a (show 0 ≤ x.hi.q - x.lo.q by grind)
  have m2 := Rat.mul_nonneg (show 0 ≤ 1 - (k : Rat) / 255 by grind) (show 0 ≤ x.hi.q - x.lo.q by grind)
  exact ⟨by grind, by grind⟩
end Go.PN
namespace Go.Proofs.YtcoflhkcpnoaaaaGreatDoor
open Go.AI Go.PN
attribute [local irreducible] aw Fa Fh DrK
set_option maxHeartbeats 1600000 in
theorem in_fa (x : SD) (k : Nat) (hk : k ≤ 255) (hw : x.wf 4) : Fa Tryz.prog 16 [.agg (spc x), .c (.int .u8 (k : Nat))] (.agg (rdc (rd (inQ x k)))) := by
  have m1 := smake_fa (k : Int) 255 (by omega) (by omega) (by omega) (by omega) (by omega)
  rw [show (((k : Nat) : Int) : Rat) / ((255 : Int) : Rat) = (k : Rat) / 255 from rfl] at m1
  have f1 := RD.fits hw.1 (by omega)
  have f2 := RD.fits hw.2 (by omega)
  have f3 := k_fits hk
  have f4 := fits_sub f2 f1
  have f5 := fits_mul f3 f4
  have s1 := ssub_fa x.hi x.lo (wf_mono hw.2 (by omega)) (wf_mono hw.1 (by omega))
  have s2 := smul_fa (rd ((k : Rat) / 255)) (rd (x.hi.q - x.lo.q)) (wf_mono (rd_wf f3) (by omega)) (wf_mono (rd_wf f4) (by omega))
  rw [rd_q, rd_q] at s2
  have s3 := sadd_fa x.lo (rd ((k : Rat) / 255 * (x.hi.q - x.lo.q))) (wf_mono hw.1 (by omega)) (wf_mono (rd_wf f5) (by omega))
  rw [rd_q] at s3
  rw [show x.lo.q + (k : Rat) / 255 * (x.hi.q - x.lo.q) = inQ x k from rfl] at s3
  generalize rd (inQ x k) = R at *
  generalize rd ((k : Rat) / 255 * (x.hi.q - x.lo.q)) = M at *
  generalize rd (x.hi.q - x.lo.q) = D at *
  generalize rd ((k : Rat) / 255) = Q at *
  refine fa_of_body Tryz.func16 rfl rfl (by simp [Tryz.ntmps16]) fun C hC => ?_
  simp only [initS, Nat.reduceAdd]
  refine xG ?_
  refine xB fun g2 hn_g2=>?_
  refine yA hn_g2 fun g4 hn_g4=>?_
  refine yG (oj hn_g2 hn_g4) ?_
  refine yC (oj hn_g2 hn_g4) (m1) ?_
  refine yG (oj hn_g2 hn_g4) ?_
  refine yA (oj hn_g2 hn_g4) fun g5 hn_g5=>?_
  refine yG (oj hn_g2 (oj hn_g4 hn_g5)) ?_
  refine yW (oj hn_g2 (oj hn_g4 hn_g5)) ?_
  refine yS (oj hn_g2 (oj hn_g4 hn_g5)) ?_
  refine yG (oj hn_g2 (oj hn_g4 hn_g5)) ?_
  refine aw_dr 10 ty_mixed (by kernel_rfl) ?_
  refine yG (oj hn_g2 (oj hn_g4 hn_g5)) ?_
  refine yD (oj hn_g2 (oj hn_g4 hn_g5)) (s1) ?_
  refine yG (oj hn_g2 (oj hn_g4 hn_g5)) ?_
  refine yD (oj hn_g2 (oj hn_g4 hn_g5)) (s2) ?_
  refine yG (oj hn_g2 (oj hn_g4 hn_g5)) ?_
  refine yD (oj hn_g2 (oj hn_g4 hn_g5)) (s3) ?_
  refine yG (oj hn_g2 (oj hn_g4 hn_g5)) ?_
  refine yW (oj hn_g2 (oj hn_g4 hn_g5)) ?_
  refine yS (oj hn_g2 (oj hn_g4 hn_g5)) ?_
  refine yG (oj hn_g2 (oj hn_g4 hn_g5)) ?_
  refine yT hC (oj hn_g2 (oj hn_g4 hn_g5)) ?_
  exact ler_rd rfl
end Go.Proofs.YtcoflhkcpnoaaaaGreatDoor
namespace Go.PN
open Go.AI
abbrev u8s (t : Bool) (xs : List Nat) : CV := .row t 1 xs.length fun j => .int .u8 (xs.getD j 0 : Nat)
theorem getD_byte {a : List Nat} (h : ∀ b ∈ a, b ≤ 255) (i : Nat) : a.getD i 0 ≤ 255 := by
  rw [List.getD_eq_getElem?_getD]
  cases hi : a[i]? with
  | none => simp
  | some b => exact h b (List.mem_of_getElem? hi)
end Go.PN
namespace Go.Proofs.YtcoflhkcpnoaaaaGreatDoor
open Go.AI Go.PN
attribute [local irreducible] aw Fa Fh DrK
theorem swf_get {s : List SD} {L : Nat} (h : ∀ y ∈ s, y.wf L) {i : Nat} (hi : i < s.length) : (s.getD i sd0).wf L := by
  rw [List.getD_eq_getElem?_getD, List.getElem?_eq_getElem hi]
  exact h _ (List.getElem_mem hi)
end Go.Proofs.YtcoflhkcpnoaaaaGreatDoor
namespace Go.Proofs.YtcoflhkcpnoaaaaGreatDoor
open Go.AI Go.PN Go.ChangeShapes Go.WideShapes Go.RowKit
theorem rdr_byte {P : Program} {t : TypeId} (ht : P.underlying t = some (.int .u8)) : Rdr P t (fun n : Nat => [.int .u8 n]) (fun n _ => n ≤ 255) := fun H enc w fuel cs x h => by
  obtain ⟨n, rfl, rfl, hw⟩ := DataW.trod_int ht h
  have hb : 0 ≤ n ∧ n ≤ 255 := by simpa [Lit.wf, IntKind.min, IntKind.max, IntKind.signed, IntKind.bits] using hw
  refine ⟨n.toNat, ⟨?_, trivial⟩, by omega⟩
  show Value.int .u8 n = Value.int .u8 ((n.toNat : Nat) : Int)
  rw [show ((n.toNat : Nat) : Int) = n from by omega]
theorem rdr_bytes : Rdr Tryz.prog 43 (fun xs : List Nat => [u8s false xs]) (fun xs n => xs.length ≤ n ∧ ∀ x ∈ xs, x ≤ 255) :=
  (rdr_slice (0 : Nat) false Tryz.underlying43 (s := 1) (by kernel_rfl) (by omega) (fun _ _ _ h _ => h) (rdr_byte Tryz.underlying5)).to id (fun ys => by
    show [CV.row false 1 ys.length _] = [CV.row false 1 ys.length _]
    congr 2
    funext j
    show _ = ofL [CV.int .u8 ((ys.getD (j / 1) 0 : Nat) : Int)] (j % 1)
    rw [Nat.div_one, Nat.mod_one]
    rfl) (fun _ _ h => h)
end Go.Proofs.YtcoflhkcpnoaaaaGreatDoor
