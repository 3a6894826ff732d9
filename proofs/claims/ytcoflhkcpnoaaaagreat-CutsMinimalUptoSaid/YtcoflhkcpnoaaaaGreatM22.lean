/- Blocks of one proof, laid one behind the other by a program (merge2.py). -/
import Derived.Test.YtcoflhkcpnoaaaaGreatM21
import Derived.Test.YtcoflhkcpnoaaaaGreatProg
import Derived.Shelf.SlSortCmp.Whole1
set_option linter.unusedSimpArgs false
set_option linter.unusedVariables false
namespace Go.PN
open Go.AI
noncomputable def valF (f : FM) (s : Nat) (a : Int) : Bool := ofB f (fvTo f s f.nodes.length) s a
def cntV (v : Int → Bool) (az : List Int) : Nat := (az.filter v).length
noncomputable def nodeV (v : Int → Bool) (x : FN) : Bool :=
  if x.kind == 0 then x.k == 1 else if x.kind == 1 then ((cntV v x.args : Nat) : Int) == 0 else if x.kind == 2 then ((cntV v x.args : Nat) : Int) == (x.args.length : Int)
  else if x.kind == 3 then decide (((cntV v x.args : Nat) : Int) > 0) else if x.kind == 4 then decide (((cntV v x.args : Nat) : Int) ≥ x.k) else remZ ((cntV v x.args : Nat) : Int) 2 == 1
theorem cntV_congr {v w : Int → Bool} : ∀ {az : List Int}, (∀ a ∈ az, v a = w a) → cntV v az = cntV w az
  | [], _ => rfl
  | a :: az, h => by
    have ih := cntV_congr (az := az) fun b hb => h b (List.mem_cons_of_mem _ hb)
    unfold cntV at ih ⊢
    rw [List.filter_cons, List.filter_cons, h a (List.mem_cons_self ..)]
    split
    · rw [List.length_cons, List.length_cons, ih]
    · exact ih
theorem cntV_map {v w : Int → Bool} {g : Int → Int} : ∀ {az : List Int}, (∀ a ∈ az, v (g a) = w a) → cntV v (az.map g) = cntV w az
  | [], _ => rfl
  | a :: az, h => by
    have ih := cntV_map (az := az) fun b hb => h b (List.mem_cons_of_mem _ hb)
    unfold cntV at ih ⊢
    rw [List.map_cons, List.filter_cons, List.filter_cons, h a (List.mem_cons_self ..)]
    split
    · rw [List.length_cons, List.length_cons, ih]
    · exact ih
theorem nodeV_congr {v w : Int → Bool} {x : FN} (h : ∀ a ∈ x.args, v a = w a) : nodeV v x = nodeV w x := by
  unfold nodeV
  rw [cntV_congr h]
theorem fvTo_get {f : FM} {s i : Nat} : ∀ {k : Nat}, i < k → k ≤ f.nodes.length → (fvTo f s k).getD i false = nodeB f (fvTo f s i) s (f.nodes.getD i fn0)
  | k + 1, h, hk => by
    rw [fvTo, List.getD_eq_getElem?_getD]
    by_cases e : i = k
    · subst e; rw [List.getElem?_set_self (by rw [fvTo_len]; omega)]; rfl
    · rw [List.getElem?_set_ne (fun x => e x.symm), ← List.getD_eq_getElem?_getD]
      exact fvTo_get (by omega) (by omega)
theorem val_node {f : FM} (ok : FrOk f) {s i : Nat} (hi : i < f.nodes.length) : valF f s (f.vars + i) = nodeV (valF f s) (f.nodes.getD i fn0) := by
  have v0 := ok.v0
  unfold valF
  rw [show ofB f (fvTo f s f.nodes.length) s (f.vars + i) = (fvTo f s f.nodes.length).getD i false from by
    unfold ofB; rw [if_neg (by omega), show (f.vars + (i : Int) - f.vars).toNat = i from by omega]]
  rw [fvTo_get hi (Nat.le_refl _)]
  show nodeV (ofB f (fvTo f s i) s) _ = _
  refine nodeV_congr fun a ha => ?_
  obtain ⟨a0, a1⟩ := ok.arg i hi a ha
  unfold ofB
  split
  · rfl
  · rw [fvTo_get (i := (a - f.vars).toNat) (by omega) (by omega), fvTo_get (i := (a - f.vars).toNat) (by omega) (Nat.le_refl _)]
theorem val_event {f : FM} {s : Nat} {a : Int} (h : a < f.vars) : valF f s a = s.testBit a.toNat := by unfold valF ofB; rw [if_pos h]
def toR (f : FM) (a : Int) : Int := if a < f.vars then a else f.vars + szTo f (a - f.vars).toNat
def trTo (f : FM) : Nat → List FN
  | 0 => []
  | k + 1 => if (belL f).getD (f.vars.toNat + k) false then trTo f k ++ [⟨(f.nodes.getD k fn0).kind, (f.nodes.getD k fn0).k, (f.nodes.getD k fn0).args.map (toR f)⟩] else trTo f k
def trimF (f : FM) : FM := ⟨f.vars, trTo f f.nodes.length, toR f f.top⟩
theorem trTo_len (f : FM) : ∀ k, (trTo f k).length = szTo f k
  | 0 => rfl
  | k + 1 => by
    rw [trTo, szTo]
    split
    · rw [List.length_append, trTo_len f k]; rfl
    · rw [trTo_len f k]; rfl
theorem sz_mono (f : FM) : ∀ {a b : Nat}, a ≤ b → szTo f a ≤ szTo f b
  | a, 0, h => by rw [show a = 0 from by omega]; exact Nat.le_refl _
  | a, b + 1, h => by
    by_cases e : a = b + 1
    · rw [e]; exact Nat.le_refl _
    · have := sz_mono f (show a ≤ b by omega)
      rw [szTo]; omega
theorem sz_lt {f : FM} {i k : Nat} (h : i < k) (hm : (belL f).getD (f.vars.toNat + i) false = true) : szTo f i < szTo f k := by
  have h1 : szTo f (i + 1) = szTo f i + 1 := by rw [szTo, if_pos hm]
  have := sz_mono f (show i + 1 ≤ k from h)
  omega
theorem trTo_get {f : FM} {i : Nat} (hm : (belL f).getD (f.vars.toNat + i) false = true) : ∀ {k : Nat}, i < k → (trTo f k).getD (szTo f i) fn0 = ⟨(f.nodes.getD i fn0).kind, (f.nodes.getD i fn0).k, (f.nodes.getD i fn0).args.map (toR f)⟩
  | k + 1, h => by
    rw [trTo]
    by_cases e : i = k
    · subst e
      rw [if_pos hm, List.getD_eq_getElem?_getD, List.getElem?_append_right (by rw [trTo_len]; exact Nat.le_refl _), trTo_len, Nat.sub_self]; rfl
    · have hlt := sz_lt (show i < k by omega) hm
      split
      · rw [List.getD_eq_getElem?_getD, List.getElem?_append_left (by rw [trTo_len]; exact hlt), ← List.getD_eq_getElem?_getD]
        exact trTo_get hm (by omega)
      · exact trTo_get hm (by omega)
theorem trTo_from {f : FM} : ∀ {k q : Nat}, q < szTo f k → ∃ i, i < k ∧ (belL f).getD (f.vars.toNat + i) false = true ∧ szTo f i = q
  | k + 1, q, h => by
    rw [szTo] at h
    split at h
    · rename_i hm
      by_cases e : q = szTo f k
      · exact ⟨k, by omega, hm, e.symm⟩
      · obtain ⟨i, h1, h2, h3⟩ := trTo_from (show q < szTo f k by omega)
        exact ⟨i, by omega, h2, h3⟩
    · obtain ⟨i, h1, h2, h3⟩ := trTo_from (show q < szTo f k by omega)
      exact ⟨i, by omega, h2, h3⟩
theorem bel_arg {f : FM} (ok : FrOk f) {i : Nat} (hi : i < f.nodes.length) (hm : (belL f).getD (f.vars.toNat + i) false = true) {a : Int} (ha : a ∈ (f.nodes.getD i fn0).args) : (belL f).getD a.toNat false = true := by
  obtain ⟨q, hq, rfl⟩ := List.mem_iff_getElem.1 ha
  have := bel_closed ok f.nodes.length (Nat.le_refl _) i (by omega) hi hm q hq
  rwa [show (f.nodes.getD i fn0).args.getD q 0 = (f.nodes.getD i fn0).args[q] from getDZ hq] at this
theorem toR_lt {f : FM} (ok : FrOk f) {a : Int} {k : Nat} (h0 : 0 ≤ a) (h1 : a < f.vars + k) (hm : (belL f).getD a.toNat false = true) : 0 ≤ toR f a ∧ toR f a < f.vars + szTo f k := by
  have v0 := ok.v0
  unfold toR
  split
  · omega
  · have hm' : (belL f).getD (f.vars.toNat + (a - f.vars).toNat) false = true := by rw [show f.vars.toNat + (a - f.vars).toNat = a.toNat from by omega]; exact hm
    have := sz_lt (f := f) (i := (a - f.vars).toNat) (k := k) (by omega) hm'
    omega
theorem trim_ok {f : FM} (ok : FrOk f) : FrOk (trimF f) := by
  have hl : (trimF f).nodes.length = szTo f f.nodes.length := trTo_len f _
  have hget : ∀ q, q < (trimF f).nodes.length → ∃ i, i < f.nodes.length ∧ (belL f).getD (f.vars.toNat + i) false = true ∧ szTo f i = q ∧ (trimF f).nodes.getD q fn0 = ⟨(f.nodes.getD i fn0).kind, (f.nodes.getD i fn0).k, (f.nodes.getD i fn0).args.map (toR f)⟩ := fun q hq => by
    obtain ⟨i, h1, h2, h3⟩ := trTo_from (f := f) (k := f.nodes.length) (q := q) (by omega)
    exact ⟨i, h1, h2, h3, by rw [← h3]; exact trTo_get h2 h1⟩
  have hsz := szTo_le f f.nodes.length
  have n128 := ok.n128
  have tl := toR_lt ok ok.t0 ok.t1 (bel_top ok _)
  refine ⟨ok.v0, ok.v24, by omega, fun q hq => ?_, fun q hq => ?_, fun q hq a ha => ?_, fun q hq => ?_, tl.1, by rw [hl]; exact tl.2⟩
  · obtain ⟨i, h1, h2, h3, h4⟩ := hget q hq
    rw [h4]; exact ok.kind i h1
  · obtain ⟨i, h1, h2, h3, h4⟩ := hget q hq
    rw [h4]
    show arityB _ (List.map (toR f) _).length = true
    rw [List.length_map]; exact ok.ari i h1
  · obtain ⟨i, h1, h2, h3, h4⟩ := hget q hq
    rw [h4] at ha
    obtain ⟨b, hb, rfl⟩ := List.mem_map.1 ha
    obtain ⟨b0, b1⟩ := ok.arg i h1 b hb
    have := toR_lt ok b0 b1 (bel_arg ok h1 h2 hb)
    rw [h3] at this
    exact this
  · obtain ⟨i, h1, h2, h3, h4⟩ := hget q hq
    rw [h4]
    have := ok.kc i h1
    unfold kcode at this ⊢
    simp only [List.length_map]
    exact this
theorem trim_val {f : FM} (ok : FrOk f) (s : Nat) : ∀ (n : Nat) (a : Int), a.toNat < n → 0 ≤ a → a < f.vars + f.nodes.length → (belL f).getD a.toNat false = true → valF (trimF f) s (toR f a) = valF f s a := by
  have v0 := ok.v0
  intro n
  induction n with
  | zero => intro a hn; omega
  | succ n ih =>
    intro a hn h0 h1 hm
    by_cases hv : a < f.vars
    · rw [show toR f a = a from by unfold toR; rw [if_pos hv], val_event hv, val_event (show a < (trimF f).vars from hv)]
    · obtain ⟨i, hi⟩ : ∃ i : Nat, a = f.vars + i := ⟨(a - f.vars).toNat, by omega⟩
      subst hi
      have hi : i < f.nodes.length := by omega
      have hm' : (belL f).getD (f.vars.toNat + i) false = true := by rw [show f.vars.toNat + i = (f.vars + (i : Int)).toNat from by omega]; exact hm
      have hlt := sz_lt (k := f.nodes.length) hi hm'
      have hto : toR f (f.vars + i) = (trimF f).vars + (szTo f i : Nat) := by
        unfold toR
        rw [if_neg (by omega), show (f.vars + (i : Int) - f.vars).toNat = i from by omega]; rfl
      rw [hto, val_node (trim_ok ok) (i := szTo f i) (by show szTo f i < (trTo f f.nodes.length).length; rw [trTo_len]; exact hlt), val_node ok hi]
      rw [show (trimF f).nodes.getD (szTo f i) fn0 = ⟨(f.nodes.getD i fn0).kind, (f.nodes.getD i fn0).k, (f.nodes.getD i fn0).args.map (toR f)⟩ from trTo_get hm' hi]
      have hc : cntV (valF (trimF f) s) ((f.nodes.getD i fn0).args.map (toR f)) = cntV (valF f s) (f.nodes.getD i fn0).args := cntV_map fun b hb => by
        obtain ⟨b0, b1⟩ := ok.arg i hi b hb
        exact ih b (by omega) b0 (by omega) (bel_arg ok hi hm' hb)
      unfold nodeV
      simp only [hc, List.length_map]
theorem trim_top {f : FM} (ok : FrOk f) (s : Nat) : valF (trimF f) s (trimF f).top = valF f s f.top := trim_val ok s (f.top.toNat + 1) f.top (by omega) ok.t0 ok.t1 (bel_top ok _)
theorem sz_zero {f : FM} (ok : FrOk f) (h : szTo f f.nodes.length = 0) : f.top < f.vars := by
  refine Classical.byContradiction fun hc => ?_
  have t1 := ok.t1
  have v0 := ok.v0
  have hm := bel_top ok f.nodes.length
  have hm' : (belL f).getD (f.vars.toNat + (f.top - f.vars).toNat) false = true := by rw [show f.vars.toNat + (f.top - f.vars).toNat = f.top.toNat from by omega]; exact hm
  have := sz_lt (f := f) (i := (f.top - f.vars).toNat) (k := f.nodes.length) (by omega) hm'
  omega
end Go.PN
namespace Go.Proofs.YtcoflhkcpnoaaaaGreat
open Go.AI Go.PN
attribute [local irreducible] aw Fa Fh DrK
set_option maxRecDepth 100000 in
set_option maxHeartbeats 3200000 in
theorem fsize_fa (f : FM) (hn : f.nodes.length ≤ 1099511627776) (ha : ArgsOk f) (hc : fcode f = 0) : Fa Tryz.prog 58 [.agg (fmc false f)] (.tup [.c (.int .i64 (szTo f f.nodes.length)), .c (.int .i64 (arTo f f.nodes.length)), .c .nilI]) := by
  have ok := fr_ok hc
  have v0 := ok.v0
  have v24 := ok.v24
  have n128 := ok.n128
  have t0 := ok.t0
  have t1 := ok.t1
  have z := ieq_t hc
  have hbl : (belL f).length = f.vars.toNat + f.nodes.length := belTo_len f f.nodes.length
  refine fa_of_body Tryz.func58 rfl rfl (by simp [Tryz.ntmps58]) fun C hC => ?_
  simp only [initS, Nat.reduceAdd]
  refine yG z ?_
  refine yB z fun g1 hn_g1=>?_
  refine yG (oj z hn_g1) ?_
  refine yC (oj z hn_g1) (fcheck_fa f hn ha ?_ ?_) ?_
  · omega
  · omega
  refine yG (oj z hn_g1) ?_
  refine yN (oj z hn_g1) ?_
  refine yG (oj z hn_g1) ?_
  refine aw_dr 7 ty_mixed (by kernel_rfl) ?_
  refine yG (oj z hn_g1) ?_
  refine yD (oj z hn_g1) (below_fa f ok) ?_
  refine yG (oj z hn_g1) ?_
  rw [show (belL f).length - f.vars.toNat = f.nodes.length from by omega]
  refine aw_lp (fun k : Nat => [(1, .c (.optr g1 0)), (2, .c (.int .i64 (szTo f k))), (3, .c (.int .i64 (arTo f k))), (17, .c (.row true 1 f.nodes.length fun j => .bool ((belL f).getD (f.vars.toNat + j) false))), (18, .c (.int .i64 f.nodes.length)), (19, .c (.int .i64 k))]) (fun _ => [(g1, .cells 50 3 (ofL (fmc false f)))]) (fun k => k ≤ f.nodes.length) (fun k => f.nodes.length - k) 0 (zB (oj z hn_g1)) zZ (Nat.zero_le _) ?_
  rintro k hk
  have hsz := szTo_le f k
  have har := arTo_le ok k hk
  refine yG (oj z hn_g1) ?_
  refine yF (oj z hn_g1) (fun h1=>?_) fun h1=>?_
  · have h1' : k < f.nodes.length := by have := of_decide_eq_true h1; omega
    have hln := ok.len h1'
    have hs1 : szTo f (k + 1) = szTo f k + if (belL f).getD (f.vars.toNat + k) false then 1 else 0 := rfl
    have ha1 : arTo f (k + 1) = arTo f k + if (belL f).getD (f.vars.toNat + k) false then (f.nodes.getD k fn0).args.length else 0 := rfl
    refine yG (oj z hn_g1) ?_
    refine yF (oj z hn_g1) (fun hm=>?_) fun hm=>?_
    · rw [if_pos hm] at hs1 ha1
      refine yG (oj z hn_g1) ?_
      exact aw_stop ⟨k + 1, by omega, by rw [hs1, ha1]; exact (zB (oj z hn_g1)), zZ, by omega⟩
    · have hm' : (belL f).getD (f.vars.toNat + k) false = false := hm
      rw [if_neg (by rw [hm']; simp)] at hs1 ha1
      refine yG (oj z hn_g1) ?_
      exact aw_stop ⟨k + 1, by omega, by rw [hs1, ha1]; exact (zB (oj z hn_g1)), zZ, by omega⟩
  · have h1' : k = f.nodes.length := by have := of_decide_eq_false h1; omega
    subst h1'
    refine yG (oj z hn_g1) ?_
    refine yT hC (oj z hn_g1) ?_
    exact .tup ⟨.c (.int _ _), .c (.int _ _), .c .nilI, trivial⟩
end Go.Proofs.YtcoflhkcpnoaaaaGreat
namespace Go.PN
open Go.AI
def Sub (s t : Nat) : Prop := ∀ j, s.testBit j = true → t.testBit j = true
def cohTo (f : FM) : Nat → Bool
  | 0 => true
  | k + 1 => cohTo f k && !((belL f).getD (f.vars.toNat + k) false && (decide ((f.nodes.getD k fn0).kind = 1) || decide ((f.nodes.getD k fn0).kind = 5)))
theorem cohTo_at {f : FM} {i : Nat} : ∀ {k : Nat}, cohTo f k = true → i < k → (belL f).getD (f.vars.toNat + i) false = true → (f.nodes.getD i fn0).kind ≠ 1 ∧ (f.nodes.getD i fn0).kind ≠ 5
  | 0, _, h, _ => by omega
  | k + 1, hc, h, hb => by
    rw [cohTo, Bool.and_eq_true] at hc
    by_cases e : i = k
    · subst e
      have := hc.2
      rw [hb] at this
      simpa using this
    · exact cohTo_at hc.1 (by omega) hb
theorem cntV_mono {v w : Int → Bool} : ∀ {az : List Int}, (∀ a ∈ az, v a = true → w a = true) → cntV v az ≤ cntV w az
  | [], _ => Nat.le_refl _
  | a :: az, h => by
    have ih := cntV_mono (az := az) fun b hb => h b (List.mem_cons_of_mem _ hb)
    have ha := h a (List.mem_cons_self ..)
    unfold cntV at ih ⊢
    rw [List.filter_cons, List.filter_cons]
    cases hv : v a
    · cases hw : w a <;> simp <;> omega
    · rw [ha hv]; simp; omega
theorem nodeV_mono {v w : Int → Bool} {x : FN} (h1 : x.kind ≠ 1) (h5 : x.kind ≠ 5) (k0 : 0 ≤ x.kind) (k5 : x.kind ≤ 5) (h : ∀ a ∈ x.args, v a = true → w a = true) (hv : nodeV v x = true) : nodeV w x = true := by
  have hm := cntV_mono (v := v) (w := w) h
  have hl : cntV w x.args ≤ x.args.length := List.length_filter_le _ _
  unfold nodeV at hv ⊢
  have hk : x.kind = 0 ∨ x.kind = 2 ∨ x.kind = 3 ∨ x.kind = 4 := by omega
  rcases hk with hk | hk | hk | hk
  · rw [hk] at hv ⊢
    exact hv
  · rw [hk] at hv ⊢
    have hv' : (((cntV v x.args : Nat) : Int) == (x.args.length : Int)) = true := hv
    have := eq_of_beq hv'
    show (((cntV w x.args : Nat) : Int) == (x.args.length : Int)) = true
    exact beq_iff_eq.2 (by omega)
  · rw [hk] at hv ⊢
    have hv' : decide (((cntV v x.args : Nat) : Int) > 0) = true := hv
    have := of_decide_eq_true hv'
    show decide (((cntV w x.args : Nat) : Int) > 0) = true
    exact decide_eq_true (by omega)
  · rw [hk] at hv ⊢
    have hv' : decide (((cntV v x.args : Nat) : Int) ≥ x.k) = true := hv
    have := of_decide_eq_true hv'
    show decide (((cntV w x.args : Nat) : Int) ≥ x.k) = true
    exact decide_eq_true (by omega)
theorem val_mono {f : FM} (ok : FrOk f) (hc : cohTo f f.nodes.length = true) {s t : Nat} (hst : Sub s t) : ∀ (n : Nat) (a : Int), a.toNat < n → 0 ≤ a → a < f.vars + f.nodes.length → (belL f).getD a.toNat false = true → valF f s a = true → valF f t a = true := by
  have v0 := ok.v0
  intro n
  induction n with
  | zero => intro a hn; omega
  | succ n ih =>
    intro a hn h0 h1 hm
    by_cases hv : a < f.vars
    · rw [val_event hv, val_event hv]
      exact hst _
    · obtain ⟨i, hi⟩ : ∃ i : Nat, a = f.vars + i := ⟨(a - f.vars).toNat, by omega⟩
      subst hi
      have hi : i < f.nodes.length := by omega
      have hm' : (belL f).getD (f.vars.toNat + i) false = true := by rw [show f.vars.toNat + i = (f.vars + (i : Int)).toNat from by omega]; exact hm
      rw [val_node ok hi, val_node ok hi]
      obtain ⟨n1, n5⟩ := cohTo_at hc hi hm'
      obtain ⟨k0, k5⟩ := ok.kind i hi
      refine nodeV_mono n1 n5 k0 k5 fun b hb => ?_
      obtain ⟨b0, b1⟩ := ok.arg i hi b hb
      exact ih b (by omega) b0 (by omega) (bel_arg ok hi hm' hb)
theorem coh_mono {f : FM} (ok : FrOk f) (hc : cohTo f f.nodes.length = true) {s t : Nat} (hst : Sub s t) (h : valF f s f.top = true) : valF f t f.top = true :=
  val_mono ok hc hst (f.top.toNat + 1) f.top (by omega) ok.t0 ok.t1 (bel_top ok _) h
end Go.PN
namespace Go.PN
open Go.AI
def cntJ (l : List Nat) (j : Nat) : Nat := l.countP fun s => popN s == j
def profN (l : List Nat) (n : Nat) : List Int := (List.range (n + 1)).map fun (j : Nat) => ((cntJ l j : Nat) : Int)
theorem profN_len (l : List Nat) (n : Nat) : (profN l n).length = n + 1 := by simp [profN]
theorem profN_get {l : List Nat} {n j : Nat} (hj : j < n + 1) : (profN l n).getD j 0 = (cntJ l j : Nat) := by
  unfold profN
  rw [List.getD_eq_getElem?_getD, List.getElem?_map, List.getElem?_range hj]; rfl
theorem prof_end {zs : List Int} {l : List Nat} {n : Nat} (hl : zs.length = n + 1) (h : ∀ j, j < n + 1 → zs.getD j 0 = (cntJ l j : Nat)) : zs = profN l n :=
  ints_extZ (by rw [hl, profN_len]) fun j hj => by rw [h j (by omega), profN_get (by omega)]
theorem cntJ_snoc (l : List Nat) (x j : Nat) : cntJ (l ++ [x]) j = cntJ l j + if popN x = j then 1 else 0 := by
  unfold cntJ
  rw [List.countP_append, List.countP_singleton]
  by_cases h : popN x = j <;> simp [h]
theorem cntJ_le (l : List Nat) (j : Nat) : cntJ l j ≤ l.length := List.countP_le_length
end Go.PN

namespace Go.PN
open Go.AI Go.Proofs.YtcoflhkcpnoaaaaGreat
theorem dn_ext {a b : List DN} (hl : a.length = b.length) (h : ∀ j, j < a.length → a.getD j dn0 = b.getD j dn0) : a = b := by
  refine List.ext_getElem hl fun j h1 h2 => ?_
  have := h j h1
  rwa [getDN h1, getDN h2] at this
end Go.PN

namespace Go.Proofs.YtcoflhkcpnoaaaaGreat
open Go.AI Go.PN
attribute [local irreducible] aw Fa Fh DrK
set_option maxHeartbeats 800000 in
theorem slEqDN_fa (xs ys : List DN) (hl : xs.length ≤ 68719476736) (hl2 : ys.length ≤ 68719476736) : Fa Tryz.prog 144 [.c (dns false xs), .c (dns false ys)] (.c (.bool (decide (xs = ys)))) := by
  refine fa_of_body Tryz.func144 rfl rfl (by simp [Tryz.ntmps144]) fun C hC => ?_
  simp only [initS, Nat.reduceAdd]
  refine xG ?_
  refine xF (fun hb=>?_) fun hb=>?_
  · refine xG ?_
    refine xT hC ?_
    refine .one (.c (ler_bool ?_))
    have : xs ≠ ys := fun e => by rw [e] at hb; simp at hb
    simp [this]
  · have hlen : xs.length = ys.length := by
      have : ((xs.length : Int) == (ys.length : Int)) = true := by simpa [bne] using hb
      have := eq_of_beq this; omega
    refine xG ?_
    refine aw_lp (fun i : Nat => [(0, .c (dns false xs)), (1, .c (dns false ys)), (12, .c (.int .i64 xs.length)), (13, .c (.int .i64 i))]) (fun _ => []) (fun i => i ≤ xs.length ∧ ∀ j, j < i → xs.getD j dn0 = ys.getD j dn0) (fun i => xs.length - i) 0 eB zZ ⟨Nat.zero_le _, fun j hj => by omega⟩ ?_
    rintro i ⟨hi, hs⟩
    refine xG ?_
    refine xF (fun hb=>?_) fun hb=>?_
    · have hin : i < xs.length := by have := of_decide_eq_true hb; omega
      refine xG ?_
      refine aw_dr 9 ty_mixed (by kernel_rfl) ?_
      refine xG ?_
      refine xF (fun hc=>?_) fun hc=>?_
      · have hc' : ¬ xs.getD i dn0 = ys.getD i dn0 := by
          rw [eqDN] at hc
          simpa using hc
        refine xG ?_
        refine xT hC ?_
        refine .one (.c (ler_bool ?_))
        have : xs ≠ ys := fun e => hc' (by rw [e])
        simp [this]
      · have he : xs.getD i dn0 = ys.getD i dn0 := by
          rw [eqDN] at hc
          simpa using hc
        refine xG ?_
        refine aw_stop ⟨i + 1, by omega, eB, zZ, by omega, fun j hj => ?_⟩
        by_cases hji : j = i
        · rw [hji]; exact he
        · exact hs j (by omega)
    · have hin : i = xs.length := by have := of_decide_eq_false hb; omega
      subst hin
      refine xG ?_
      refine xT hC ?_
      refine .one (.c (ler_bool ?_))
      have := dn_ext hlen hs
      simp [this]
theorem bz_ty : tZ1 Tryz.prog 4 = some (.bool false) := by kernel_rfl
set_option maxRecDepth 100000 in
set_option maxHeartbeats 6400000 in
theorem zcheck_fa {n : Nat} {F : Nat → Bool} (z : ZD) (hz : ZOut n F z) (h24 : n ≤ 24) (hn : z.nodes.length ≤ 4096) : Fa Tryz.prog 132 [.agg (zdc false z)] (.c .nilI) := by
  have ht := hz.tab
  have hr := hz.ref
  refine fa_of_body Tryz.func132 rfl rfl (by simp [Tryz.ntmps132]) fun C hC => ?_
  simp only [initS, Nat.reduceAdd]
  refine xG ?_
  refine xB fun g1 hn_g1=>?_
  refine yG hn_g1 ?_
  have t0 : decide ((z.nodes.length : Int) > 4096) = false := decide_eq_false (by omega)
  refine yS (oj hn_g1 t0) ?_
  refine yN (oj hn_g1 t0) ?_
  refine yG (oj hn_g1 t0) ?_
  refine aw_makeMap (Kf := dkV) rfl rfl rfl fun gm hn_gm => ?_
  replace hn_gm := Heap.ne_of hn_gm
  dsimp only [Heap.ne] at hn_gm
  refine yS (oj hn_g1 (oj t0 hn_gm)) ?_
  refine yG (oj hn_g1 (oj t0 hn_gm)) ?_
  refine aw_lp (fun i : Nat => [(1, .c (.optr g1 0)), (3, .c (.raw (.map (some gm)))), (15, .c (dns false z.nodes)), (16, .c (.int .i64 z.nodes.length)), (17, .c (.int .i64 i))]) (fun i => [(gm, .gen (MapI dkV (dkL (z.nodes.take i)))), (g1, .cells 33 2 (ofL (zdc false z)))]) (fun i => i ≤ z.nodes.length) (fun i => z.nodes.length - i) 0 (zB (oj hn_g1 (oj t0 hn_gm))) zZ (Nat.zero_le _) ?_
  rintro i hi
  refine yG (oj hn_g1 (oj t0 hn_gm)) ?_
  refine yF (oj hn_g1 (oj t0 hn_gm)) (fun h1=>?_) fun h1=>?_
  · have hin : i < z.nodes.length := by have := of_decide_eq_true h1; omega
    have nd := ht i hin
    obtain ⟨v0, v1, l0, l1, q0, q1⟩ := nd.nk
    have nh := nd.hi
    have bl := nd.bl
    have bh := nd.bh
    have nw := nd.new
    have evl : ∀ r : Int, 2 ≤ r → evZ n z.nodes r = (z.nodes.getD (r - 2).toNat dn0).v := fun r hr => evZ_node hr
    generalize hx0 : z.nodes.getD i dn0 = nd at *
    have c1 : decide (nd.v < 0) = false := decide_eq_false (by omega)
    have c2 : decide (nd.v ≥ 24) = false := decide_eq_false (by omega)
    have c3 : decide ((if nd.hi < nd.lo then nd.hi else nd.lo) < 0) = false := decide_eq_false (by split <;> omega)
    have c4 : decide ((if nd.hi > nd.lo then nd.hi else nd.lo) > 1 + (i : Int)) = false := decide_eq_false (by split <;> omega)
    have c5 := ieq_f nh
    refine yG (oj hn_g1 (oj t0 hn_gm)) ?_
    refine yA (oj hn_g1 (oj t0 hn_gm)) fun g5 hn_g5=>?_
    refine yG (oj hn_g1 (oj t0 (oj hn_gm (oj hn_g5 (oj c1 (oj c2 (oj c3 (oj c4 (oj c5 hx0))))))))) ?_
    refine yW (oj hn_g1 (oj t0 (oj hn_gm (oj hn_g5 (oj c1 (oj c2 (oj c3 (oj c4 (oj c5 hx0))))))))) ?_
    refine yS (oj hn_g1 (oj t0 (oj hn_gm (oj hn_g5 (oj c1 (oj c2 (oj c3 (oj c4 (oj c5 hx0))))))))) ?_
    refine yG (oj hn_g1 (oj t0 (oj hn_gm (oj hn_g5 (oj c1 (oj c2 (oj c3 (oj c4 (oj c5 hx0))))))))) ?_
    refine yN (oj hn_g1 (oj t0 (oj hn_gm (oj hn_g5 (oj c1 (oj c2 (oj c3 (oj c4 (oj c5 hx0))))))))) ?_
    refine yG (oj hn_g1 (oj t0 (oj hn_gm (oj hn_g5 (oj c1 (oj c2 (oj c3 (oj c4 (oj c5 hx0))))))))) ?_
    refine yN (oj hn_g1 (oj t0 (oj hn_gm (oj hn_g5 (oj c1 (oj c2 (oj c3 (oj c4 (oj c5 hx0))))))))) ?_
    refine aw_seq ?_
    refine aw_cut (fun _ : Unit => [(1, .c (.optr g1 0)), (3, .c (.raw (.map (some gm)))), (5, .c (.optr g5 0)), (15, .c (dns false z.nodes)), (16, .c (.int .i64 z.nodes.length)), (17, .c (.int .i64 i)), (55, .c (.bool false))]) (fun _ => [(g5, .cells 88 3 (ofL [.int .i64 nd.v, .int .i64 nd.lo, .int .i64 nd.hi])), (gm, .gen (MapI dkV (dkL (z.nodes.take i)))), (g1, .cells 33 2 (ofL (zdc false z)))]) (fun _ => (0 : Nat) = 0) ?_ ?_
    · by_cases a1 : nd.lo ≥ 2
      · have d1 : decide (nd.lo ≥ 2) = true := decide_eq_true a1
        have d2 : decide ((z.nodes.getD (nd.lo - 2).toNat dn0).v ≤ nd.v) = false := decide_eq_false (by rw [evl _ a1] at bl; omega)
        by_cases a2 : nd.hi ≥ 2
        · have d3 : decide (nd.hi ≥ 2) = true := decide_eq_true a2
          have d4 : decide ((z.nodes.getD (nd.hi - 2).toNat dn0).v ≤ nd.v) = false := decide_eq_false (by rw [evl _ a2] at bh; omega)
          refine yG (oj hn_g1 (oj t0 (oj hn_gm (oj hn_g5 (oj c1 (oj c2 (oj c3 (oj c4 (oj c5 (oj hx0 (oj d1 (oj d2 (oj d3 d4))))))))))))) ?_
          refine aw_dr 35 ty_mixed (by kernel_rfl) ?_
          refine yG (oj hn_g1 (oj t0 (oj hn_gm (oj hn_g5 (oj c1 (oj c2 (oj c3 (oj c4 (oj c5 (oj hx0 (oj d1 (oj d2 (oj d3 d4))))))))))))) ?_
          exact aw_stop ⟨(), (zB (oj hn_g1 (oj t0 (oj hn_gm (oj hn_g5 (oj c1 (oj c2 (oj c3 (oj c4 (oj c5 (oj hx0 (oj d1 (oj d2 (oj d3 d4)))))))))))))), zZ, rfl⟩
        · have d3 : decide (nd.hi ≥ 2) = false := decide_eq_false a2
          refine yG (oj hn_g1 (oj t0 (oj hn_gm (oj hn_g5 (oj c1 (oj c2 (oj c3 (oj c4 (oj c5 (oj hx0 (oj d1 (oj d2 d3)))))))))))) ?_
          refine aw_dr 35 ty_mixed (by kernel_rfl) ?_
          refine yG (oj hn_g1 (oj t0 (oj hn_gm (oj hn_g5 (oj c1 (oj c2 (oj c3 (oj c4 (oj c5 (oj hx0 (oj d1 (oj d2 d3)))))))))))) ?_
          exact aw_stop ⟨(), (zB (oj hn_g1 (oj t0 (oj hn_gm (oj hn_g5 (oj c1 (oj c2 (oj c3 (oj c4 (oj c5 (oj hx0 (oj d1 (oj d2 d3))))))))))))), zZ, rfl⟩
      · have d1 : decide (nd.lo ≥ 2) = false := decide_eq_false a1
        by_cases a2 : nd.hi ≥ 2
        · have d3 : decide (nd.hi ≥ 2) = true := decide_eq_true a2
          have d4 : decide ((z.nodes.getD (nd.hi - 2).toNat dn0).v ≤ nd.v) = false := decide_eq_false (by rw [evl _ a2] at bh; omega)
          refine yG (oj hn_g1 (oj t0 (oj hn_gm (oj hn_g5 (oj c1 (oj c2 (oj c3 (oj c4 (oj c5 (oj hx0 (oj d1 (oj d3 d4)))))))))))) ?_
          refine aw_dr 35 ty_mixed (by kernel_rfl) ?_
          refine yG (oj hn_g1 (oj t0 (oj hn_gm (oj hn_g5 (oj c1 (oj c2 (oj c3 (oj c4 (oj c5 (oj hx0 (oj d1 (oj d3 d4)))))))))))) ?_
          exact aw_stop ⟨(), (zB (oj hn_g1 (oj t0 (oj hn_gm (oj hn_g5 (oj c1 (oj c2 (oj c3 (oj c4 (oj c5 (oj hx0 (oj d1 (oj d3 d4))))))))))))), zZ, rfl⟩
        · have d3 : decide (nd.hi ≥ 2) = false := decide_eq_false a2
          refine yG (oj hn_g1 (oj t0 (oj hn_gm (oj hn_g5 (oj c1 (oj c2 (oj c3 (oj c4 (oj c5 (oj hx0 (oj d1 d3))))))))))) ?_
          refine aw_dr 35 ty_mixed (by kernel_rfl) ?_
          refine yG (oj hn_g1 (oj t0 (oj hn_gm (oj hn_g5 (oj c1 (oj c2 (oj c3 (oj c4 (oj c5 (oj hx0 (oj d1 d3))))))))))) ?_
          exact aw_stop ⟨(), (zB (oj hn_g1 (oj t0 (oj hn_gm (oj hn_g5 (oj c1 (oj c2 (oj c3 (oj c4 (oj c5 (oj hx0 (oj d1 d3)))))))))))), zZ, rfl⟩
    rintro _ _
    refine yN (oj hn_g1 (oj t0 (oj hn_gm (oj hn_g5 (oj c1 (oj c2 (oj c3 (oj c4 (oj c5 hx0))))))))) ?_
    refine yG (oj hn_g1 (oj t0 (oj hn_gm (oj hn_g5 (oj c1 (oj c2 (oj c3 (oj c4 (oj c5 hx0))))))))) ?_
    refine aw_lookup (a := dk nd) (kv := dkL (z.nodes.take i)) (Kf := dkV) (z := .bool false) rfl rfl rfl (kt := 88) (et := 4) (by kernel_rfl) dk_ok bz_ty (zE (oj hn_g1 (oj t0 (oj hn_gm (oj hn_g5 (oj c1 (oj c2 (oj c3 (oj c4 (oj c5 hx0)))))))))) (zE (oj hn_g1 (oj t0 (oj hn_gm (oj hn_g5 (oj c1 (oj c2 (oj c3 (oj c4 (oj c5 hx0)))))))))) (zE (oj hn_g1 (oj t0 (oj hn_gm (oj hn_g5 (oj c1 (oj c2 (oj c3 (oj c4 (oj c5 hx0)))))))))) dk_rep ?_
    rw [dkL_cst, decide_eq_false nw]
    refine yS (oj hn_g1 (oj t0 (oj hn_gm (oj hn_g5 (oj c1 (oj c2 (oj c3 (oj c4 (oj c5 hx0))))))))) ?_
    refine yG (oj hn_g1 (oj t0 (oj hn_gm (oj hn_g5 (oj c1 (oj c2 (oj c3 (oj c4 (oj c5 hx0))))))))) ?_
    refine yN (oj hn_g1 (oj t0 (oj hn_gm (oj hn_g5 (oj c1 (oj c2 (oj c3 (oj c4 (oj c5 hx0))))))))) ?_
    refine yG (oj hn_g1 (oj t0 (oj hn_gm (oj hn_g5 (oj c1 (oj c2 (oj c3 (oj c4 (oj c5 hx0))))))))) ?_
    refine aw_mapNew (a := dk nd) (kv := dkL (z.nodes.take i)) (Kf := dkV) (v := .bool true) rfl rfl rfl (kt := 88) (et := 4) (by kernel_rfl) dk_ok (zE (oj hn_g1 (oj t0 (oj hn_gm (oj hn_g5 (oj c1 (oj c2 (oj c3 (oj c4 (oj c5 hx0)))))))))) (zE (oj hn_g1 (oj t0 (oj hn_gm (oj hn_g5 (oj c1 (oj c2 (oj c3 (oj c4 (oj c5 hx0)))))))))) (zE (oj hn_g1 (oj t0 (oj hn_gm (oj hn_g5 (oj c1 (oj c2 (oj c3 (oj c4 (oj c5 hx0)))))))))) dk_rep (cv := .c (.bool true)) (zE (oj hn_g1 (oj t0 (oj hn_gm (oj hn_g5 (oj c1 (oj c2 (oj c3 (oj c4 (oj c5 hx0)))))))))) (fun S w u h => h) (by rw [dkL_get, if_neg nw]) (zE (oj hn_g1 (oj t0 (oj hn_gm (oj hn_g5 (oj c1 (oj c2 (oj c3 (oj c4 (oj c5 hx0)))))))))) ?_
    rw [← dkL_push, ← hx0, ← takeDN_push hin]
    refine yS (oj hn_g1 (oj t0 (oj hn_gm (oj hn_g5 (oj c1 (oj c2 (oj c3 (oj c4 (oj c5 hx0))))))))) ?_
    refine yG (oj hn_g1 (oj t0 (oj hn_gm (oj hn_g5 (oj c1 (oj c2 (oj c3 (oj c4 (oj c5 hx0))))))))) ?_
    exact aw_stop ⟨i + 1, by omega, (zB (oj hn_g1 (oj t0 (oj hn_gm (oj hn_g5 (oj c1 (oj c2 (oj c3 (oj c4 (oj c5 hx0)))))))))), List.Sublist.cons _ (List.Sublist.refl _), by omega⟩
  · have hin : i = z.nodes.length := by have := of_decide_eq_false h1; omega
    subst hin
    obtain ⟨rs, hag⟩ := hz.again
    have r1 : decide (z.root < 0) = false := decide_eq_false (by have := hr.1; omega)
    have r2 : decide (z.root > 1 + (z.nodes.length : Int)) = false := decide_eq_false (by have := hr.2; omega)
    refine yG (oj hn_g1 (oj t0 (oj hn_gm (oj r1 r2)))) ?_
    refine yN (oj hn_g1 (oj t0 (oj hn_gm (oj r1 r2)))) ?_
    refine yG (oj hn_g1 (oj t0 (oj hn_gm (oj r1 r2)))) ?_
    refine aw_callh (hc := []) (hr := [(gm, .gen (MapI dkV (dkL (z.nodes.take z.nodes.length)))), (g1, .cells 33 2 (ofL (zdc false z)))]) newSets_fh rfl rfl rfl (.refl _) (zL (oj hn_g1 (oj t0 (oj hn_gm (oj r1 r2))))) ?_
    rintro _ _ ⟨gT, gU, gM, rfl, rfl⟩ _
    refine aw_perm List.perm_append_comm ?_
    refine yS (oj hn_g1 (oj t0 (oj hn_gm (oj r1 r2)))) ?_
    refine yG (oj hn_g1 (oj t0 (oj hn_gm (oj r1 r2)))) ?_
    refine aw_callh (hc := ZHp gT gU gM none [] []) (hr := [(gm, .gen (MapI dkV (dkL (z.nodes.take z.nodes.length)))), (g1, .cells 33 2 (ofL (zdc false z)))]) (zimport_fh gT gU gM z ht hr (by omega)) rfl rfl rfl (List.perm_append_comm (l₁ := [(gm, _), (g1, _)])) (zL (oj hn_g1 (oj t0 (oj hn_gm (oj r1 r2))))) ?_
    rintro _ _ ⟨og, hog, rfl, rfl⟩ _
    refine yS (oj hn_g1 (oj t0 (oj hn_gm (oj r1 r2)))) ?_
    refine yG (oj hn_g1 (oj t0 (oj hn_gm (oj r1 r2)))) ?_
    have hs : ZS n og z.nodes [] := ⟨hog, ht, fun e he => absurd he List.not_mem_nil⟩
    refine aw_callh (hc := ZHp gT gU gM og z.nodes []) (hr := [(gm, .gen (MapI dkV (dkL (z.nodes.take z.nodes.length)))), (g1, .cells 33 2 (ofL (zdc false z)))]) (zexport_fh gT gU gM hs (by omega) hr) rfl rfl rfl (.refl _) (zL (oj hn_g1 (oj t0 (oj hn_gm (oj r1 r2))))) ?_
    rintro _ _ ⟨rs', os, y, hex, rfl, rfl⟩ _
    obtain ⟨_, rfl, rfl⟩ := hex.run.det hag
    refine aw_perm List.perm_append_comm ?_
    refine yS (oj hn_g1 (oj t0 (oj hn_gm (oj r1 r2)))) ?_
    refine yG (oj hn_g1 (oj t0 (oj hn_gm (oj r1 r2)))) ?_
    refine yA (oj hn_g1 (oj t0 (oj hn_gm (oj r1 r2)))) fun g7 hn_g7=>?_
    refine yG (oj hn_g1 (oj t0 (oj hn_gm (oj r1 (oj r2 hn_g7))))) ?_
    have y1 := ieq_t (rfl : z.root = z.root)
    refine yW (oj hn_g1 (oj t0 (oj hn_gm (oj r1 (oj r2 (oj hn_g7 y1)))))) ?_
    refine yS (oj hn_g1 (oj t0 (oj hn_gm (oj r1 (oj r2 (oj hn_g7 y1)))))) ?_
    refine yG (oj hn_g1 (oj t0 (oj hn_gm (oj r1 (oj r2 (oj hn_g7 y1)))))) ?_
    refine aw_callq (slEqDN_fa z.nodes z.nodes (by omega) (by omega)) rfl rfl rfl (zL (oj hn_g1 (oj t0 (oj hn_gm (oj r1 (oj r2 (oj hn_g7 y1))))))) ?_
    rw [decide_eq_true (rfl : z.nodes = z.nodes)]
    refine yS (oj hn_g1 (oj t0 (oj hn_gm (oj r1 (oj r2 (oj hn_g7 y1)))))) ?_
    refine yG (oj hn_g1 (oj t0 (oj hn_gm (oj r1 (oj r2 (oj hn_g7 y1)))))) ?_
    refine yN (oj hn_g1 (oj t0 (oj hn_gm (oj r1 (oj r2 (oj hn_g7 y1)))))) ?_
    refine yG (oj hn_g1 (oj t0 (oj hn_gm (oj r1 (oj r2 (oj hn_g7 y1)))))) ?_
    refine yT hC (oj hn_g1 (oj t0 (oj hn_gm (oj r1 (oj r2 (oj hn_g7 y1)))))) ?_
    exact .one (.c .nilI)
end Go.Proofs.YtcoflhkcpnoaaaaGreat
namespace Go.AI
open Go.PN
def zdZ : ZD := ⟨[], 0⟩
def zdsF (ds : List ZD) : Nat → CV := lf 2 (fun d : ZD => [dns false d.nodes, CV.int .i64 d.root]) zdZ ds
@[go_sem] theorem zdsF_0 (ps : List ZD) (i : Nat) : zdsF ps (i * 2) = dns false (ps.getD i zdZ).nodes := by
  have := lf_at (s := 2) (c := fun d : ZD => [dns false d.nodes, CV.int .i64 d.root]) (d := zdZ) (xs := ps) (i := i) (k := 0) (by omega)
  exact this
@[go_sem] theorem zdsF_1 (ps : List ZD) (i : Nat) : zdsF ps (i * 2 + 1) = .int .i64 (ps.getD i zdZ).root := by
  have := lf_at (s := 2) (c := fun d : ZD => [dns false d.nodes, CV.int .i64 d.root]) (d := zdZ) (xs := ps) (i := i) (k := 1) (by omega)
  exact this
abbrev zds (t : Bool) (ds : List ZD) : CV := .row t 2 ds.length (zdsF ds)
end Go.AI
namespace Go.Proofs.YtcoflhkcpnoaaaaGreat
open Go.AI Go.PN
attribute [local irreducible] aw Fa Fh DrK
set_option maxRecDepth 100000 in
set_option maxHeartbeats 3200000 in
theorem zopen_fh {n : Nat} {F : Nat → Bool} (z : ZD) (hz : ZOut n F z) (h24 : n ≤ 24) (hn : z.nodes.length ≤ 4096) :
    Fh Tryz.prog 94 [] [.c (zds false [z])] (fun x h => ∃ gT gU gM og, (og = none → z.nodes.length = 0) ∧ x = .tup [.c (.optr gT 0), .c (is true [z.root]), .c .nilI] ∧ h = ZHp gT gU gM og z.nodes []) := by
  refine fh_of_body Tryz.func94 rfl rfl (by simp [Tryz.ntmps94]) fun C hC => ?_
  simp only [initS, Nat.reduceAdd]
  refine xG ?_
  refine aw_callh (hc := []) (hr := []) newSets_fh rfl rfl rfl (.refl _) eL ?_
  rintro _ _ ⟨gT, gU, gM, rfl, rfl⟩ _
  rw [List.append_nil]
  refine xS ?_
  refine xG ?_
  refine aw_lp (fun x : Nat × Option Nat × Option Nat × List DN × List Int => [(0, .c (zds false [z])), (5, .c (.optr gT 0)), (6, .c (gs x.2.1 1 x.1)), (11, .c (zds false [z])), (12, .c (.int .i64 1)), (13, .c (.int .i64 x.1))]) (fun x => ZHp gT gU gM x.2.2.1 x.2.2.2.1 [] ++ gh x.2.1 3 (x.1 * 1) (isF x.2.2.2.2))
    (fun x => x.1 ≤ 1 ∧ (x.2.1 = none → x.1 = 0) ∧ (x.2.2.1 = none → x.2.2.2.1.length = 0) ∧ x.2.2.2.2.length = x.1 ∧ (x.1 = 0 → x.2.2.2.1 = [] ∧ x.2.2.1 = none) ∧ (x.1 = 1 → x.2.2.2.1 = z.nodes ∧ x.2.2.2.2 = [z.root])) (fun x => 1 - x.1) (0, none, none, [], []) eB (by simp only [gh, List.append_nil]; exact List.Sublist.refl _) ⟨Nat.zero_le _, fun _ => rfl, fun _ => rfl, rfl, fun _ => ⟨rfl, rfl⟩, fun h => by cases h⟩ ?_
  rintro ⟨k, ogr, og, ns, rl⟩ ⟨hk, hogr, hog, hrl, h0, h1⟩
  dsimp only at hk hogr hog hrl h0 h1 ⊢
  refine xG ?_
  refine xF (fun hb=>?_) fun hb=>?_
  · have hk0 : k = 0 := by have := of_decide_eq_true hb; omega
    subst hk0
    obtain ⟨rfl, rfl⟩ := h0 rfl
    obtain rfl : rl = [] := List.length_eq_zero_iff.1 hrl
    refine xG ?_
    refine xA fun g8 hn_g8=>?_
    refine yG hn_g8 ?_
    refine yW hn_g8 ?_
    refine yS hn_g8 ?_
    refine yG hn_g8 ?_
    refine yC hn_g8 (zcheck_fa z hz h24 hn) ?_
    refine yG hn_g8 ?_
    refine yN hn_g8 ?_
    refine yG hn_g8 ?_
    refine aw_callh (hc := ZHp gT gU gM none [] []) (hr := (g8, .cells 33 2 (ofL [dns false z.nodes, .int .i64 z.root])) :: gh ogr 3 0 (isF [])) (zimport_fh gT gU gM z hz.tab hz.ref (by omega)) rfl rfl rfl (perm_mid (g8, _) _ _) (zL hn_g8) ?_
    rintro _ _ ⟨og1, hog1, rfl, rfl⟩ _
    refine aw_perm (perm_mid (g8, _) _ _).symm ?_
    simp only [ZHp, ZH, List.cons_append, List.nil_append, List.append_assoc]
    refine yS hn_g8 ?_
    refine yG hn_g8 ?_
    refine aw_push (pre := (g8, .cells 33 2 (ofL [dns false z.nodes, .int .i64 z.root])) :: ([(gT, .cells 120 3 (ofL [gs og1 3 z.nodes.length, .raw (.map (some gU)), .raw (.map (some gM))])), (gU, .gen (MapI dkV (uqTo z.nodes 0))), (gM, .gen (MapI keyS (mmL [])))] ++ gh og1 88 (z.nodes.length * 3) (dnsF z.nodes))) rfl rfl rfl rfl rfl rfl rfl (zE hn_g8) (zE hn_g8) (by rfl) (by omega) (by omega) (zE hn_g8) (by omega) (by exact hogr) (zE hn_g8) (by rfl) (by rfl) (by first | rfl | simp only [Nat.mul_one, List.nil_append, List.cons_append] <;> rfl) (by unfold maxLen; omega) (by omega) (by exact (fun j hj => is_push (zs := []) (n := 0) rfl z.root j hj)) fun g hn_g => ?_
    replace hn_g := Heap.ne_of hn_g
    first | dsimp only [Heap.ne, gh] at hn_g | dsimp only [Heap.ne] at hn_g | skip
    refine yS (oj hn_g8 hn_g) ?_
    refine yG (oj hn_g8 hn_g) ?_
    refine aw_stop ⟨(1, some g, og1, z.nodes, [z.root]), by dsimp only; omega, (zB (oj hn_g8 hn_g)), ?_, by dsimp only; omega, some_ne, hog1, rfl, (fun h => by cases h), fun _ => ⟨rfl, rfl⟩⟩
    simp only [ZHp, ZH, List.cons_append, List.nil_append, List.append_assoc]
    exact List.Sublist.cons _ (List.Sublist.refl _)
  · have hk1 : k = 1 := by have := of_decide_eq_false hb; omega
    subst hk1
    obtain ⟨rfl, rfl⟩ := h1 rfl
    obtain ⟨g, rfl⟩ : ∃ g, ogr = some g := by
      cases ogr with
      | none => have := hogr rfl; omega
      | some g => exact ⟨g, rfl⟩
    simp only [gs, gh]
    refine xG ?_
    refine aw_nd fun hnd => ?_
    have hg : g ∉ (ZHp gT gU gM og z.nodes []).keys := by
      have h2 : ((ZHp gT gU gM og z.nodes []).keys ++ [g]).Nodup := by simpa [Heap.keys] using hnd
      exact fun hm => (List.nodup_append.1 h2).2.2 g hm g (by simp) rfl
    refine aw_frz (t := 3) (f := isF [z.root]) rfl (Heap.get_app hg) (by omega) (fun h => by have := (hC g).1 h; simp [Heap.keys] at this) rfl (Heap.del_app hg) ?_
    have e : (CV.row true 1 1 fun j => isF [z.root] (0 + j)) = is true [z.root] := by simp only [Nat.zero_add]; rfl
    rw [e]
    refine xS ?_
    refine xU ?_
    exact ⟨gT, gU, gM, og, hog, rfl, rfl⟩
end Go.Proofs.YtcoflhkcpnoaaaaGreat
namespace Go.Proofs.YtcoflhkcpnoaaaaGreat
open Go.Shelf Go.Proofs
def sortRen : Go.Shelf.Ren := ⟨fun | 6 => 97 | 15 => 135 | 14 => 134 | 28 => 153 | 29 => 154 | 20 => 145 | 21 => 146 | 22 => 147 | 23 => 148 | 24 => 149 | 25 => 150 | 26 => 151 | 27 => 152 | 46 => 155 | 47 => 156 | 48 => 157 | 49 => 158 | 50 => 159 | 57 => 160 | n => n, fun | 22 => 22 | 24 => 3 | 25 => 126 | 3 => 3 | 39 => 82 | 0 => 0 | 53 => 130 | 55 => 132 | 4 => 4 | 46 => 165 | 45 => 164 | 50 => 122 | 5 => 5 | 9 => 9 | 66 => 170 | 70 => 174 | 76 => 176 | 77 => 152 | n => n, fun n => n⟩
theorem sortL : SlLaysF.n6 Tryz.prog sortRen where
  mixed := by kernel_rfl
  f6 := ⟨"slices.SortFunc[[]int,int]", by decide, Tryz.func97.trans (congrArg some (by kernel_rfl))⟩
  f14 := ⟨"slices.pdqsortCmpFunc[int]", by decide, Tryz.func134.trans (congrArg some (by kernel_rfl))⟩
  f15 := Tryz.func135.trans (congrArg some (by kernel_rfl))
  f20 := ⟨"slices.insertionSortCmpFunc[int]", by decide, Tryz.func145.trans (congrArg some (by kernel_rfl))⟩
  f21 := ⟨"slices.heapSortCmpFunc[int]", by decide, Tryz.func146.trans (congrArg some (by kernel_rfl))⟩
  f22 := ⟨"slices.breakPatternsCmpFunc[int]", by decide, Tryz.func147.trans (congrArg some (by kernel_rfl))⟩
  f23 := ⟨"slices.choosePivotCmpFunc[int]", by decide, Tryz.func148.trans (congrArg some (by kernel_rfl))⟩
  f24 := ⟨"slices.reverseRangeCmpFunc[int]", by decide, Tryz.func149.trans (congrArg some (by kernel_rfl))⟩
  f25 := ⟨"slices.partialInsertionSortCmpFunc[int]", by decide, Tryz.func150.trans (congrArg some (by kernel_rfl))⟩
  f26 := ⟨"slices.partitionEqualCmpFunc[int]", by decide, Tryz.func151.trans (congrArg some (by kernel_rfl))⟩
  f27 := ⟨"slices.partitionCmpFunc[int]", by decide, Tryz.func152.trans (congrArg some (by kernel_rfl))⟩
  f28 := Tryz.func153.trans (congrArg some (by kernel_rfl))
  f29 := Tryz.func154.trans (congrArg some (by kernel_rfl))
  f46 := ⟨"slices.siftDownCmpFunc[int]", by decide, Tryz.func155.trans (congrArg some (by kernel_rfl))⟩
  f47 := Tryz.func156.trans (congrArg some (by kernel_rfl))
  f48 := Tryz.func157.trans (congrArg some (by kernel_rfl))
  f49 := ⟨"slices.medianAdjacentCmpFunc[int]", by decide, Tryz.func158.trans (congrArg some (by kernel_rfl))⟩
  f50 := ⟨"slices.medianCmpFunc[int]", by decide, Tryz.func159.trans (congrArg some (by kernel_rfl))⟩
  f57 := ⟨"slices.order2CmpFunc[int]", by decide, Tryz.func160.trans (congrArg some (by kernel_rfl))⟩
  t0 := Tryz.underlying0
  a0 := Tryz.isAgg0
  z0 := Tryz.sizeOf0
  v0 := Tryz.zeroValue0
  t3 := Tryz.underlying3
  a3 := Tryz.isAgg3
  z3 := Tryz.sizeOf3
  v3 := Tryz.zeroValue3
  t4 := Tryz.underlying4
  a4 := Tryz.isAgg4
  z4 := Tryz.sizeOf4
  v4 := Tryz.zeroValue4
  t5 := Tryz.underlying5
  a5 := Tryz.isAgg5
  z5 := Tryz.sizeOf5
  v5 := Tryz.zeroValue5
  t9 := Tryz.underlying9
  a9 := Tryz.isAgg9
  z9 := Tryz.sizeOf9
  v9 := Tryz.zeroValue9
  t22 := Tryz.underlying22
  a22 := Tryz.isAgg22
  z22 := Tryz.sizeOf22
  v22 := Tryz.zeroValue22
  a24 := Tryz.isAgg3
  z24 := Tryz.sizeOf3
  t25 := Tryz.underlying126
  a25 := Tryz.isAgg126
  z25 := Tryz.sizeOf126
  v25 := Tryz.zeroValue126
  t39 := Tryz.underlying82
  a39 := Tryz.isAgg82
  z39 := Tryz.sizeOf82
  v39 := Tryz.zeroValue82
  t45 := Tryz.underlying164
  a45 := Tryz.isAgg164
  z45 := Tryz.sizeOf164
  v45 := Tryz.zeroValue164
  t46 := Tryz.underlying165
  a46 := Tryz.isAgg165
  z46 := Tryz.sizeOf165
  v46 := Tryz.zeroValue165
  t50 := Tryz.underlying122
  a50 := Tryz.isAgg122
  z50 := Tryz.sizeOf122
  v50 := Tryz.zeroValue122
  t53 := Tryz.underlying130
  a53 := Tryz.isAgg130
  z53 := Tryz.sizeOf130
  v53 := Tryz.zeroValue130
  t55 := Tryz.underlying132
  a55 := Tryz.isAgg132
  z55 := Tryz.sizeOf132
  v55 := Tryz.zeroValue132
  t66 := Tryz.underlying170
  a66 := Tryz.isAgg170
  z66 := Tryz.sizeOf170
  v66 := Tryz.zeroValue170
  t70 := Tryz.underlying174
  a70 := Tryz.isAgg174
  z70 := Tryz.sizeOf174
  v70 := Tryz.zeroValue174
  t76 := Tryz.underlying176
  a76 := Tryz.isAgg176
  z76 := Tryz.sizeOf176
  v76 := Tryz.zeroValue176
  t77 := Tryz.underlying152
  a77 := Tryz.isAgg152
  z77 := Tryz.sizeOf152
  v77 := Tryz.zeroValue152
end Go.Proofs.YtcoflhkcpnoaaaaGreat
namespace Go.AI
theorem solid_gs2 {og : Option Nat} {s n : Nat} {k : IntKind} {z : Int} : (AV.agg [gs og s n, .int k z]).cells.all CV.solid = true := by
  cases og <;> rfl
end Go.AI

namespace Go.PN
theorem and_256 {a b c d : Nat} (ha : a < 256) (hc : c < 256) : (a + 256 * b) &&& (c + 256 * d) = (a &&& c) + 256 * (b &&& d) := by
  have e : ∀ x y : Nat, x < 256 → x + 256 * y = 2 ^ 8 * y + x := fun x y _ => by omega
  have hac : a &&& c < 2 ^ 8 := Nat.and_lt_two_pow a (by omega)
  rw [e a b ha, e c d hc, e _ _ hac]
  refine Nat.eq_of_testBit_eq fun j => ?_
  rw [Nat.testBit_and, Nat.testBit_two_pow_mul_add _ (by omega), Nat.testBit_two_pow_mul_add _ (by omega), Nat.testBit_two_pow_mul_add _ hac]
  split
  · rw [Nat.testBit_and]
  · rw [Nat.testBit_and]
def one1 (x m : Nat) : Nat := (x / 2 &&& m) + (x &&& m)
def one2 (x m : Nat) : Nat := (x / 4 &&& m) + (x &&& m)
def one3 (x m : Nat) : Nat := (x + x / 16) &&& m
theorem d1 : ∀ b < 256, ∀ q < 2, (b / 2 + 128 * q) &&& 85 = b / 2 &&& 85 := by decide +kernel
theorem d2 : ∀ b < 256, ∀ q < 4, (b / 4 + 64 * q) &&& 51 = b / 4 &&& 51 := by decide +kernel
theorem d3 : ∀ b < 256, ∀ q < 5, (one2 (one1 b 85) 51 + one2 (one1 b 85) 51 / 16 + 16 * q) &&& 15 = one3 (one2 (one1 b 85) 51) 15 ∧ one2 (one1 b 85) 51 + one2 (one1 b 85) 51 / 16 + 16 * q < 256 := by decide +kernel
theorem d4 : ∀ b < 256, one1 b 85 < 256 ∧ one2 (one1 b 85) 51 < 256 ∧ one2 (one1 b 85) 51 % 16 < 5 ∧ one3 (one2 (one1 b 85) 51) 15 = popF 8 b := by decide +kernel
theorem d5 : ∀ b < 256, popF 8 b ≤ 8 := by decide +kernel
theorem one1_256 {b r m : Nat} (hb : b < 256) : one1 (b + 256 * r) (85 + 256 * m) = one1 b 85 + 256 * one1 r m := by
  unfold one1
  rw [show (b + 256 * r) / 2 = (b / 2 + 128 * (r % 2)) + 256 * (r / 2) from by omega, and_256 (by omega) (by omega), and_256 hb (by omega), d1 b hb _ (by omega)]
  omega
theorem one2_256 {b r m : Nat} (hb : b < 256) : one2 (b + 256 * r) (51 + 256 * m) = one2 b 51 + 256 * one2 r m := by
  unfold one2
  rw [show (b + 256 * r) / 4 = (b / 4 + 64 * (r % 4)) + 256 * (r / 4) from by omega, and_256 (by omega) (by omega), and_256 hb (by omega), d2 b hb _ (by omega)]
  omega
theorem one3_256 {b r m : Nat} (hb : b < 256) (hr : r % 16 < 5) : one3 (one2 (one1 b 85) 51 + 256 * r) (15 + 256 * m) = one3 (one2 (one1 b 85) 51) 15 + 256 * one3 r m := by
  obtain ⟨e1, e2⟩ := d3 b hb (r % 16) hr
  rw [← e1]
  unfold one3
  generalize one2 (one1 b 85) 51 = y at *
  rw [show y + 256 * r + (y + 256 * r) / 16 = (y + y / 16 + 16 * (r % 16)) + 256 * (r + r / 16) from by omega, and_256 e2 (by omega)]
theorem pop_byte (b r : Nat) (hb : b < 256) : popN (b + 256 * r) = popF 8 b + popN r := by
  have step : ∀ y : Nat, popN y = y % 2 + (y / 2 % 2 + (y / 2 / 2 % 2 + (y / 2 / 2 / 2 % 2 + (y / 2 / 2 / 2 / 2 % 2 + (y / 2 / 2 / 2 / 2 / 2 % 2 + (y / 2 / 2 / 2 / 2 / 2 / 2 % 2 + (y / 2 / 2 / 2 / 2 / 2 / 2 / 2 % 2 + popN (y / 2 / 2 / 2 / 2 / 2 / 2 / 2 / 2)))))))) := fun y => by
    rw [pop_half y, pop_half (y / 2), pop_half (y / 2 / 2), pop_half (y / 2 / 2 / 2), pop_half (y / 2 / 2 / 2 / 2), pop_half (y / 2 / 2 / 2 / 2 / 2), pop_half (y / 2 / 2 / 2 / 2 / 2 / 2), pop_half (y / 2 / 2 / 2 / 2 / 2 / 2 / 2)]
  rw [step, show (b + 256 * r) / 2 / 2 / 2 / 2 / 2 / 2 / 2 / 2 = r from by omega]
  simp only [popF]
  omega
theorem pop_small (b : Nat) (hb : b < 256) : popN b = popF 8 b := pop_eq (k := 8) (by omega)
theorem ones_three {x : Nat} (hx : x < 16777216) : ∃ p q r : Nat, p ≤ 8 ∧ q ≤ 8 ∧ r ≤ 8 ∧ one1 x 6148914691236517205 < 16777216 ∧ one2 (one1 x 6148914691236517205) 3689348814741910323 < 16777216 ∧ one3 (one2 (one1 x 6148914691236517205) 3689348814741910323) 1085102592571150095 = p + 256 * (q + 256 * r) ∧ popN x = p + q + r := by
  obtain ⟨b, c, d, hb, hc, hd, rfl⟩ : ∃ b c d, b < 256 ∧ c < 256 ∧ d < 256 ∧ x = b + 256 * (c + 256 * d) := ⟨x % 256, x / 256 % 256, x / 65536, by omega, by omega, by omega, by omega⟩
  have z1 : ∀ m, one1 d (85 + 256 * m) = one1 d 85 := fun m => by
    have := one1_256 (b := d) (r := 0) (m := m) hd
    rw [Nat.mul_zero, Nat.add_zero] at this
    rw [this]; unfold one1; simp
  have e1 : one1 (b + 256 * (c + 256 * d)) 6148914691236517205 = one1 b 85 + 256 * (one1 c 85 + 256 * one1 d 85) := by
    rw [show 6148914691236517205 = 85 + 256 * (85 + 256 * (85 + 256 * 366503875925)) from rfl, one1_256 hb, one1_256 hc, z1]
  obtain ⟨b1, b2, b3, b4⟩ := d4 b hb
  obtain ⟨c1, c2, c3, c4⟩ := d4 c hc
  obtain ⟨d1', d2', d3', d4'⟩ := d4 d hd
  have z2 : ∀ m, one2 (one1 d 85) (51 + 256 * m) = one2 (one1 d 85) 51 := fun m => by
    have := one2_256 (b := one1 d 85) (r := 0) (m := m) d1'
    rw [Nat.mul_zero, Nat.add_zero] at this
    rw [this]; unfold one2; simp
  have e2 : one2 (one1 b 85 + 256 * (one1 c 85 + 256 * one1 d 85)) 3689348814741910323 = one2 (one1 b 85) 51 + 256 * (one2 (one1 c 85) 51 + 256 * one2 (one1 d 85) 51) := by
    rw [show 3689348814741910323 = 51 + 256 * (51 + 256 * (51 + 256 * 219902325555)) from rfl, one2_256 b1, one2_256 c1, z2]
  have z3 : ∀ m, one3 (one2 (one1 d 85) 51) (15 + 256 * m) = one3 (one2 (one1 d 85) 51) 15 := fun m => by
    have := one3_256 (b := d) (r := 0) (m := m) hd (by omega)
    rw [Nat.mul_zero, Nat.add_zero] at this
    rw [this]
    have : one3 0 m = 0 := by unfold one3; simp
    rw [this]; omega
  have e3 : one3 (one2 (one1 b 85) 51 + 256 * (one2 (one1 c 85) 51 + 256 * one2 (one1 d 85) 51)) 1085102592571150095 = popF 8 b + 256 * (popF 8 c + 256 * popF 8 d) := by
    rw [show 1085102592571150095 = 15 + 256 * (15 + 256 * (15 + 256 * 64677154575)) from rfl, one3_256 hb (by omega), one3_256 hc d3', z3, b4, c4, d4']
  refine ⟨popF 8 b, popF 8 c, popF 8 d, d5 b hb, d5 c hc, d5 d hd, by rw [e1]; omega, by rw [e1, e2]; omega, by rw [e1, e2, e3], ?_⟩
  rw [pop_byte _ _ hb, pop_byte _ _ hc, pop_small d hd]
  omega
end Go.PN
namespace Go.AI
theorem and_u64' (a b : Nat) (ha : a < 18446744073709551616) (hb : b < 18446744073709551616) : andZ .u64 (a : Int) (b : Int) = ((a &&& b : Nat) : Int) := by
  have hx : a &&& b < 2 ^ 64 := Nat.and_lt_two_pow a (by omega)
  rw [andZ_eq]
  show IntKind.u64.wrap (((BitVec.ofInt 64 (a : Int)) &&& (BitVec.ofInt 64 (b : Int))).toNat : Int) = _
  rw [BitVec.toNat_and, ofInt64, ofInt64, Nat.mod_eq_of_lt ha, Nat.mod_eq_of_lt hb, IntKind.wrap_u64]
  omega
theorem aw_condF0 {E : Env} {K : List It} {σ : Sl} {h : Heap} {x y : Code} (k : aw E (.code y :: K) σ h) : aw E (.code (.cond (.const (.bool false)) x y) :: K) σ h := fun a w s => wp_cond_split (t := false) rfl (fun e => by cases e) (fun _ => k a w s)
end Go.AI
namespace Go.Proofs.YtcoflhkcpnoaaaaGreat
open Go.AI Go.PN
attribute [local irreducible] aw Fa Fh DrK
set_option maxRecDepth 100000 in
set_option maxHeartbeats 3200000 in
theorem ones64_fa (x : Nat) (hx : x < 16777216) : Fa Tryz.prog 89 [.c (.int .u64 x)] (.c (.int .i64 (popN x))) := by
  obtain ⟨p, q, r, hp, hq, hr, h1, h2, h3, hpop⟩ := ones_three hx
  obtain ⟨m1, hm1, hm1'⟩ : ∃ m : Nat, m = 6148914691236517205 ∧ m < 18446744073709551616 := ⟨_, rfl, by decide⟩
  obtain ⟨m2, hm2, hm2'⟩ : ∃ m : Nat, m = 3689348814741910323 ∧ m < 18446744073709551616 := ⟨_, rfl, by decide⟩
  obtain ⟨m3, hm3, hm3'⟩ : ∃ m : Nat, m = 1085102592571150095 ∧ m < 18446744073709551616 := ⟨_, rfl, by decide⟩
  have c1 : (6148914691236517205 : Int) = (m1 : Int) := by omega
  have c2 : (3689348814741910323 : Int) = (m2 : Int) := by omega
  have c3 : (1085102592571150095 : Int) = (m3 : Int) := by omega
  rw [← hm1, ← hm2, ← hm3] at h3
  rw [← hm1, ← hm2] at h2
  rw [← hm1] at h1
  clear hm1 hm2 hm3
  obtain ⟨a1, ha1⟩ : ∃ a, x / 2 &&& m1 = a := ⟨_, rfl⟩
  obtain ⟨a2, ha2⟩ : ∃ a, x &&& m1 = a := ⟨_, rfl⟩
  obtain ⟨y, hy⟩ : ∃ a, one1 x m1 = a := ⟨_, rfl⟩
  obtain ⟨b1, hb1⟩ : ∃ a, y / 4 &&& m2 = a := ⟨_, rfl⟩
  obtain ⟨b2, hb2⟩ : ∃ a, y &&& m2 = a := ⟨_, rfl⟩
  obtain ⟨z, hz⟩ : ∃ a, one2 y m2 = a := ⟨_, rfl⟩
  rw [hy] at h1 h2 h3
  rw [hz] at h2 h3
  have s1 : a1 + a2 = y := by rw [← hy, ← ha1, ← ha2]; rfl
  have s2 : b1 + b2 = z := by rw [← hz, ← hb1, ← hb2]; rfl
  obtain ⟨w, hw⟩ : ∃ w, p + 256 * (q + 256 * r) = w := ⟨_, rfl⟩
  have s3 : (z + z / 16) &&& m3 = w := by rw [← hw, ← h3]; rfl
  clear h3 hy hz
  have f1 : shrZ .u64 (x : Int) 1 = ((x / 2 : Nat) : Int) := shr_u64 x 1 (by omega)
  have f2 : andZ .u64 ((x / 2 : Nat) : Int) 6148914691236517205 = (a1 : Int) := by rw [c1, and_u64' _ _ (by omega) hm1', ha1]
  have f3 : andZ .u64 (x : Int) 6148914691236517205 = (a2 : Int) := by rw [c1, and_u64' _ _ (by omega) hm1', ha2]
  have f4 : shrZ .u64 (y : Int) 2 = ((y / 4 : Nat) : Int) := shr_u64 y 2 (by omega)
  have f5 : andZ .u64 ((y / 4 : Nat) : Int) 3689348814741910323 = (b1 : Int) := by rw [c2, and_u64' _ _ (by omega) hm2', hb1]
  have f6 : andZ .u64 (y : Int) 3689348814741910323 = (b2 : Int) := by rw [c2, and_u64' _ _ (by omega) hm2', hb2]
  have f7 : shrZ .u64 (z : Int) 4 = ((z / 16 : Nat) : Int) := shr_u64 z 4 (by omega)
  have f8 : andZ .u64 (((z / 16 : Nat) : Int) + (z : Int)) 1085102592571150095 = (w : Int) := by
    rw [c3, show ((z / 16 : Nat) : Int) + (z : Int) = ((z + z / 16 : Nat) : Int) from by omega, and_u64' _ _ (by omega) hm3', s3]
  have f9 : shrZ .u64 (w : Int) 8 = ((w / 256 : Nat) : Int) := shr_u64 w 8 (by omega)
  obtain ⟨u, hu⟩ : ∃ u, w + w / 256 = u := ⟨_, rfl⟩
  have f10 : shrZ .u64 (u : Int) 16 = ((u / 65536 : Nat) : Int) := shr_u64 u 16 (by omega)
  obtain ⟨v, hv⟩ : ∃ v, u + u / 65536 = v := ⟨_, rfl⟩
  have f11 : shrZ .u64 (v : Int) 32 = ((v / 4294967296 : Nat) : Int) := shr_u64 v 32 (by omega)
  have g1 : (a1 : Int) + (a2 : Int) = (y : Int) := by omega
  have g2 : (b1 : Int) + (b2 : Int) = (z : Int) := by omega
  have g3 : (w : Int) + ((w / 256 : Nat) : Int) = (u : Int) := by omega
  have g4 : (u : Int) + ((u / 65536 : Nat) : Int) = (v : Int) := by omega
  have hu' : u = p + q + 256 * (q + r) + 65536 * r := by
    have : w / 256 = q + 256 * r := by omega
    omega
  have hv' : v = p + q + r + 256 * (q + r) + 65536 * r := by
    have : u / 65536 = r := by omega
    omega
  have g5 : (v : Int) + ((v / 4294967296 : Nat) : Int) = (v : Int) := by omega
  have f12 : andZ .i64 (v : Int) 127 = ((popN x : Nat) : Int) := by
    rw [show (127 : Int) = ((127 : Nat) : Int) from rfl, andZ_nat _ _ (by omega) (by omega), show (127 : Nat) = 2 ^ 7 - 1 from rfl, Nat.and_two_pow_sub_one_eq_mod, hpop]
    omega
  have f13 : wrapZ .i64 (v : Int) = (v : Int) := by rw [wrapZ_eq, wrap_i64 (by omega) (by omega)]
  refine fa_of_body Tryz.func89 rfl rfl (by simp [Tryz.ntmps89]) fun C hC => ?_
  simp only [initS, Nat.reduceAdd]
  refine yG (oj f13 (oj f1 (oj f2 (oj f3 (oj f4 (oj f5 (oj f6 (oj f7 (oj f8 (oj f9 (oj f10 (oj f11 (oj f12 (oj g1 (oj g2 (oj g3 (oj g4 g5))))))))))))))))) ?_
  refine yT hC (oj f13 (oj f1 (oj f2 (oj f3 (oj f4 (oj f5 (oj f6 (oj f7 (oj f8 (oj f9 (oj f10 (oj f11 (oj f12 (oj g1 (oj g2 (oj g3 (oj g4 g5))))))))))))))))) ?_
  exact .one (.c (ler_int rfl))
set_option maxRecDepth 100000 in
theorem ones_fa (x : Nat) (hx : x < 16777216) : Fa Tryz.prog 51 [.c (.int .u64 x)] (.c (.int .i64 (popN x))) := by
  refine fa_of_body Tryz.func51 rfl rfl (by simp [Tryz.ntmps51]) fun C hC => ?_
  simp only [initS, Nat.reduceAdd]
  refine xG ?_
  refine aw_condF0 ?_
  refine xG ?_
  refine xC (ones64_fa x hx) ?_
  refine xG ?_
  refine xT hC ?_
  exact .one (.c (ler_int rfl))
end Go.Proofs.YtcoflhkcpnoaaaaGreat
