/- Blocks of one proof, laid one behind the other by a program (merge2.py). -/
import Derived.Test.YtcoflhkcpnoaaaaGreatDoorM22
set_option linter.unusedSimpArgs false
set_option linter.unusedVariables false
namespace Go.PN
open Go.AI
structure DepOk (f : FM) (s : List Bool) (i : Nat) (oe : Option Nat) (e : List Int) : Prop where
  nodup : e.Nodup
  mem : ∀ x : Int, x ∈ e ↔ 0 ≤ x ∧ x < f.vars ∧ (s.getD x.toNat false = true ∨ x < i)
  none' : oe = none → e.length = 0
theorem DepOk.le {f : FM} {s : List Bool} {i : Nat} {oe : Option Nat} {e : List Int} (h : DepOk f s i oe e) : e.length ≤ f.vars.toNat := by
  have := nodup_le (m := (List.range f.vars.toNat).map fun (i : Nat) => (i : Int)) h.nodup (fun x hx => by
    have h1 := (h.mem x).1 hx
    exact List.mem_map.2 ⟨x.toNat, List.mem_range.2 (by omega), by omega⟩)
  simpa using this
theorem DepOk.start {f : FM} {s : List Bool} {oe : Option Nat} {e : List Int} (h : WalkOk f oe e s) : DepOk f s 0 oe e := by
  refine ⟨h.nodup, fun x => ?_, h.none'⟩
  rw [h.mem x]
  constructor
  · rintro ⟨h0, h1, h2⟩; exact ⟨h0, h1, .inl h2⟩
  · rintro ⟨h0, h1, h2 | h2⟩
    · exact ⟨h0, h1, h2⟩
    · omega
theorem DepOk.skip {f : FM} {s : List Bool} {i : Nat} {oe : Option Nat} {e : List Int} (h : DepOk f s i oe e) (hs : s.getD i false = true) : DepOk f s (i + 1) oe e := by
  refine ⟨h.nodup, fun x => ?_, h.none'⟩
  rw [h.mem x]
  constructor
  · rintro ⟨h0, h1, h2 | h2⟩
    · exact ⟨h0, h1, .inl h2⟩
    · exact ⟨h0, h1, .inr (by omega)⟩
  · rintro ⟨h0, h1, h2 | h2⟩
    · exact ⟨h0, h1, .inl h2⟩
    · by_cases e1 : x = i
      · subst e1; exact ⟨h0, h1, .inl (by rw [Int.toNat_natCast]; exact hs)⟩
      · exact ⟨h0, h1, .inr (by omega)⟩
theorem DepOk.push {f : FM} {s : List Bool} {i : Nat} {oe : Option Nat} {e : List Int} (h : DepOk f s i oe e) (hi : (i : Int) < f.vars) (hs : s.getD i false = false) (g : Nat) : DepOk f s (i + 1) (some g) (e ++ [(i : Int)]) := by
  refine ⟨?_, fun x => ?_, fun e => by cases e⟩
  · rw [List.nodup_append]
    refine ⟨h.nodup, by simp, fun x hx y hy => ?_⟩
    rw [List.mem_singleton] at hy
    subst hy
    intro he
    subst he
    rcases ((h.mem _).1 hx).2.2 with h1 | h1
    · rw [Int.toNat_natCast, hs] at h1; cases h1
    · omega
  · rw [List.mem_append, List.mem_singleton, h.mem x]
    constructor
    · rintro (⟨h0, h1, h2 | h2⟩ | e1)
      · exact ⟨h0, h1, .inl h2⟩
      · exact ⟨h0, h1, .inr (by omega)⟩
      · exact ⟨by omega, by omega, .inr (by omega)⟩
    · rintro ⟨h0, h1, h2 | h2⟩
      · exact .inl ⟨h0, h1, .inl h2⟩
      · by_cases e1 : x = i
        · exact .inr e1
        · exact .inl ⟨h0, h1, .inr (by omega)⟩
theorem DepOk.done {f : FM} {s : List Bool} {i : Nat} {oe : Option Nat} {e : List Int} (h : DepOk f s i oe e) (v0 : 0 ≤ f.vars) (hi : f.vars ≤ i) : Perm0 e ∧ e.length = f.vars.toNat := by
  have h1 := h.le
  have h2 := nodup_le (l := (List.range f.vars.toNat).map fun (i : Nat) => (i : Int)) (m := e) (List.Pairwise.map _ (fun a b (h : a ≠ b) (e : (a : Int) = b) => h (by omega)) List.nodup_range) (fun x hx => by
    obtain ⟨q, hq, rfl⟩ := List.mem_map.1 hx
    rw [List.mem_range] at hq
    exact (h.mem _).2 ⟨by omega, by omega, .inr (by omega)⟩)
  rw [List.length_map, List.length_range] at h2
  have h3 : e.length = f.vars.toNat := by omega
  exact ⟨⟨fun x hx => by have := (h.mem x).1 hx; omega, h.nodup⟩, h3⟩
theorem walk_start (f : FM) : WalkOk f none [] (List.replicate (f.vars.toNat + f.nodes.length) false) := by
  refine ⟨List.length_replicate .., List.nodup_nil, fun x => ?_, fun _ => rfl⟩
  constructor
  · intro h; cases h
  · rintro ⟨_, _, h⟩
    rw [List.getD_eq_getElem?_getD, List.getElem?_replicate] at h
    split at h <;> cases h
end Go.PN
namespace Go.Proofs.YtcoflhkcpnoaaaaGreatDoor
open Go.AI Go.PN
attribute [local irreducible] aw Fa Fh DrK
theorem make_bs' (n : Nat) : (fun j => [CV.bool false][j % 1]?.getD .any) = bsF (List.replicate n false) := by
  rw [← make_bs n]
  funext j
  rw [Nat.mod_one]; rfl
set_option maxRecDepth 100000 in
set_option maxHeartbeats 6400000 in
theorem odepth_fh (f : FM) (ok : FrOk f) : Fh Tryz.prog 86 [] [.agg (fmc false f)] (fun x h => h = [] ∧ ∃ (o : List Int) (s : List Bool), x = .tup [.c (is true o), .c (.row true 1 (f.vars.toNat + f.nodes.length) (bsF s))] ∧ Perm0 o ∧ o.length = f.vars.toNat) := by
  have v0 := ok.v0
  have v24 := ok.v24
  have n128 := ok.n128
  have t0 := ok.t0
  have t1 := ok.t1
  obtain ⟨V, hV⟩ := Int.eq_ofNat_of_zero_le v0
  obtain ⟨T, hT⟩ := Int.eq_ofNat_of_zero_le t0
  have hN : f.vars + (f.nodes.length : Int) = ((f.vars.toNat + f.nodes.length : Nat) : Int) := by omega
  refine fh_of_body Tryz.func86 rfl rfl (by simp [Tryz.ntmps86]) fun C hC => ?_
  simp only [initS, Nat.reduceAdd]
  refine xG ?_
  refine xB fun g1 hn_g1=>?_
  refine yG hn_g1 ?_
  refine aw_drB 8 ty_mixed (by kernel_rfl) ?_
  repeat first | (refine drb_2q true rfl (fun R hR => ?_); simp only [go_sem, hn_g1, hN]; (with_reducible refine hR _ _ ?_ ?_); (focus (((try simp only [inRange]) <;> and_intros <;> first | exact True.intro | omega | trivial); done)); clear hR R) | fail
  refine drb_new rfl (NewX.make (n := f.vars.toNat + f.nodes.length) (c := f.vars.toNat + f.nodes.length) (size := 1) (z := [.bool false]) rfl rfl rfl (zE (oj hn_g1 hN)) (zE (oj hn_g1 hN)) rfl (by omega) (zE (oj hn_g1 hN)) (zE (oj hn_g1 hN)) rfl rfl (by omega) (by omega) (by omega)) (by kernel_rfl) ?_
  refine yS (oj hn_g1 hN) ?_
  refine drb_nil fun γ => ?_
  refine yS (oj hn_g1 hN) ?_
  rw [make_bs' (f.vars.toNat + f.nodes.length)]
  generalize γ 7 = gS
  refine yG (oj hn_g1 hN) ?_
  refine yB (oj hn_g1 hN) fun gW hn_gW=>?_
  refine yG (oj hn_g1 (oj hN hn_gW)) ?_
  refine aw_nd fun hnd => ?_
  simp only [Heap.keys, List.map_cons, List.map_nil] at hnd
  replace hnd := ndP_of hnd
  dsimp only [ndP, neA] at hnd
  refine yG hnd ?_
  refine aw_callh (hr := [(g1, .cells 24 3 (ofL (fmc false f)))]) (visit_fh f ok gW gS (T + 1) T none [] (List.replicate (f.vars.toNat + f.nodes.length) false) (by omega) (by omega) (walk_start f)) rfl rfl rfl (List.Perm.refl _) (by rw [hT]; exact (zL hnd)) ?_
  rintro _ _ ⟨rfl, oe, e, s, rfl, hw⟩ hk
  have hd0 := DepOk.start hw
  have hsl := hw.len
  clear hw hk
  refine yS hnd ?_
  refine aw_perm (h' := ([(g1, .cells 24 3 (ofL (fmc false f)))] : Heap) ++ WH f gW gS oe e s) (List.perm_append_comm (l₁ := WH f gW gS oe e s) (l₂ := ([(g1, .cells 24 3 (ofL (fmc false f)))] : Heap))) ?_
  simp only [List.cons_append, List.nil_append]
  refine yG hnd ?_
  refine aw_lp (fun y : Nat × Option Nat × List Int => [(4, .c (.optr gW 0)), (21, .c (.int .i64 f.vars)), (22, .c (.int .i64 y.1))]) (fun y => WH f gW gS y.2.1 y.2.2 s)
    (fun y => (y.1 : Int) ≤ f.vars ∧ DepOk f s y.1 y.2.1 y.2.2) (fun y => f.vars.toNat - y.1) (0, oe, e) (zB hnd) (List.Sublist.cons _ (List.Sublist.refl _)) ⟨v0, hd0⟩ ?_
  clear hd0
  clear oe e
  rintro ⟨i, oe, e⟩ ⟨hi, hd⟩
  dsimp only at hi hd ⊢
  have hel := hd.le
  refine yG hnd ?_
  refine yF hnd (fun h1=>?_) fun h1=>?_
  · have h1' : (i : Int) < f.vars := of_decide_eq_true h1
    refine yG hnd ?_
    refine yF hnd (fun h2=>?_) fun h2=>?_
    · have h2' : s.getD i false = false := by simpa using h2
      have hd2 := fun g => hd.push h1' h2' g
      refine yG hnd ?_
      refine aw_push (pre := [(gW, .cells 151 5 (ofL [.int .i64 f.vars, fns false f.nodes, .int .i64 f.top, gs oe 1 e.length, .osl gS 1 0 (f.vars.toNat + f.nodes.length)])), (gS, .cells 4 (f.vars.toNat + f.nodes.length) (bsF s))]) rfl rfl rfl rfl rfl rfl rfl (zE hnd) (zE hnd) (by rfl) (by omega) (by omega) (zE hnd) (by omega) (by exact hd.none') (zE hnd) (by rfl) (by rfl) (by first | rfl | simp only [Nat.mul_one, List.nil_append, List.cons_append] <;> rfl) (by unfold maxLen; omega) (by omega) (by exact is_push rfl (i : Int)) fun g hn_g => ?_
      replace hn_g := Heap.ne_of hn_g
      first | dsimp only [Heap.ne, gh] at hn_g | dsimp only [Heap.ne] at hn_g | skip
      refine yS (oj hnd hn_g) ?_
      refine yG (oj hnd hn_g) ?_
      refine yW (oj hnd hn_g) ?_
      refine yS (oj hnd hn_g) ?_
      refine yG (oj hnd hn_g) ?_
      rw [updF_at _ 3 _ (by simp)]
      have hl1 : (e ++ [(i : Int)]).length = e.length + 1 := by simp
      exact aw_stop ⟨(i + 1, some g, e ++ [(i : Int)]), by dsimp only; omega, (zB (oj hnd hn_g)), (by dsimp only; rw [WH, hl1]; exact List.Sublist.refl _), by dsimp only; omega, hd2 g⟩
    · have h2' : s.getD i false = true := by simpa using h2
      refine yG hnd ?_
      exact aw_stop ⟨(i + 1, oe, e), by dsimp only; omega, (zB hnd), zZ, by dsimp only; omega, hd.skip h2'⟩
  · have h1' : f.vars ≤ i := by have := of_decide_eq_false h1; omega
    obtain ⟨hp, hl⟩ := hd.done v0 h1'
    refine yG hnd ?_
    refine aw_perm (h' := (gW, .cells 151 5 (ofL [.int .i64 f.vars, fns false f.nodes, .int .i64 f.top, gs oe 1 e.length, .osl gS 1 0 (f.vars.toNat + f.nodes.length)])) :: (gh oe 3 (e.length * 1) (isF e) ++ [(gS, .cells 4 (f.vars.toNat + f.nodes.length) (bsF s))])) (by
      rw [Nat.mul_one]
      exact List.Perm.cons _ (List.perm_append_comm (l₁ := ([(gS, .cells 4 (f.vars.toNat + f.nodes.length) (bsF s))] : Heap)))) ?_
    refine aw_frzG (j0 := 3) (og := oe) (s := 1) (n := e.length) (f' := ofL [.int .i64 f.vars, fns false f.nodes, .int .i64 f.top, is true e, .osl gS 1 0 (f.vars.toNat + f.nodes.length)]) rfl rfl (fun j hj hne => ?_) hd.none' (fun g e => ?_) ?_
    · match j, hj, hne with
      | 0, _, _ => rfl
      | 1, _, _ => rfl
      | 2, _, _ => rfl
      | 3, _, hne => exact absurd rfl hne
      | 4, _, _ => rfl
    · exact fun h => by have := (hC g).1 h; simp [Heap.keys] at this
    refine aw_frzC (j0 := 4) (n' := f.vars.toNat + f.nodes.length) (f' := ofL [.int .i64 f.vars, fns false f.nodes, .int .i64 f.top, is true e, .row true 1 (f.vars.toNat + f.nodes.length) (bsF s)]) rfl (Nat.le_refl _) rfl (fun j hj hne => ?_) ?_ ?_
    · match j, hj, hne with
      | 0, _, _ => rfl
      | 1, _, _ => rfl
      | 2, _, _ => rfl
      | 3, _, _ => rfl
      | 4, _, hne => exact absurd rfl hne
    · exact fun h => by have := (hC gS).1 h; simp [Heap.keys] at this
    refine yG hnd ?_
    refine aw_dr 10 ty_mixed (by kernel_rfl) ?_
    refine yG hnd ?_
    refine aw_rethw (h' := []) rfl (List.nil_sublist _) (fun R hR => ?_)
    simp only [go_sem, hnd]
    refine hR _ rfl ?_
    exact ⟨rfl, e, s, rfl, hp, hl⟩
set_option maxHeartbeats 3200000 in
theorem oDepth_fh (f : FM) (hn : f.nodes.length ≤ 1099511627776) (ha : ArgsOk f) (hc : fcode f = 0) : Fh Tryz.prog 50 [] [.agg (fmc false f)] (fun x h => h = [] ∧ ∃ (o : List Int), x = .tup [.c (is true o), .c .nilI] ∧ Perm0 o ∧ o.length = f.vars.toNat) := by
  have ok := fr_ok hc
  have v0 := ok.v0
  have v24 := ok.v24
  have n128 := ok.n128
  have t0 := ok.t0
  have t1 := ok.t1
  have z := ieq_t hc
  refine fh_of_body Tryz.func50 rfl rfl (by simp [Tryz.ntmps50]) fun C hC => ?_
  simp only [initS, Nat.reduceAdd]
  refine yG z ?_
  refine yB z fun g1 hn_g1=>?_
  refine yG (oj z hn_g1) ?_
  refine aw_callq (fcheck_fa f hn ha (by omega) (by omega)) rfl rfl rfl (zL (oj z hn_g1)) ?_
  refine yS (oj z hn_g1) ?_
  refine yG (oj z hn_g1) ?_
  refine yN (oj z hn_g1) ?_
  refine yG (oj z hn_g1) ?_
  refine aw_callh (hr := [(g1, .cells 24 3 (ofL (fmc false f)))]) (odepth_fh f ok) rfl rfl rfl (List.Perm.refl _) (zL (oj z hn_g1)) ?_
  rintro _ _ ⟨rfl, o, s, rfl, hp, hl⟩ _
  refine yS (oj z hn_g1) ?_
  refine yG (oj z hn_g1) ?_
  refine aw_rethw (h' := []) rfl (List.nil_sublist _) (fun R hR => ?_)
  simp only [go_sem, z, hn_g1]
  refine hR _ rfl ?_
  exact ⟨rfl, o, rfl, hp, hl⟩
end Go.Proofs.YtcoflhkcpnoaaaaGreatDoor
namespace Go.PN
theorem oscan_zero {vars : Int} : ∀ (o seen : List Int), (∀ x ∈ o, 0 ≤ x ∧ x < vars) → (seen ++ o).Nodup → oscan vars seen o = 0
  | [], _, _, _ => rfl
  | x :: o, seen, h, hs => by
    rw [oscan, if_neg (by have := h x (List.mem_cons_self ..); omega), if_neg (fun hm => by
      rw [List.nodup_append] at hs
      exact hs.2.2 x hm x (List.mem_cons_self ..) rfl)]
    exact oscan_zero o (seen ++ [x]) (fun y hy => h y (List.mem_cons_of_mem _ hy)) (by simpa using hs)
theorem perm_code {o : List Int} (hp : Perm0 o) (hl : o.length ≤ 24) : ocode o o.length = 0 := by
  unfold ocode
  rw [if_neg (by omega), if_neg (by simp)]
  exact oscan_zero o [] hp.range (by simpa using hp.nodup)
end Go.PN
namespace Go.Proofs.YtcoflhkcpnoaaaaGreatDoor
open Go.AI Go.PN
attribute [local irreducible] aw Fa Fh DrK
set_option maxRecDepth 100000 in
set_option maxHeartbeats 6400000 in
theorem stop_fh (f : FM) (p : List RD) (hn : f.nodes.length ≤ 1099511627776) (ha : ArgsOk f) (hc : fcode f = 0) (h6 : f.vars ≤ 6) (hw : ∀ r ∈ p, r.wf 16) (hp : pcode p f.vars = 0) (hpl : (p.length : Int) = f.vars) : Fh Tryz.prog 17 [] [.agg (fmc false f), .c (rats false p)] (fun x h => h = [] ∧ ∃ D, DOut D.order (fun s => valF f s f.top) D ∧ D.order.length = p.length ∧ x = .tup [.agg (rdc (rd (sumQ p (tabL D) (2 ^ p.length)))), .c .nilI]) := by
  have ok := fr_ok hc
  have v0 := ok.v0
  have n128 := ok.n128
  have t0 := ok.t0
  have t1 := ok.t1
  have z := ieq_t hc
  have z2 := ieq_t hp
  refine fh_of_body Tryz.func17 rfl rfl (by simp [Tryz.ntmps17]) fun C hC => ?_
  simp only [initS, Nat.reduceAdd]
  refine yG (oj z z2) ?_
  refine yB (oj z z2) fun g2 hn_g2=>?_
  refine yG (oj z (oj z2 hn_g2)) ?_
  refine yA (oj z (oj z2 hn_g2)) fun g4 hn_g4=>?_
  refine yG (oj z (oj z2 (oj hn_g2 hn_g4))) ?_
  refine aw_callq (fcheck_fa f hn ha (by omega) (by omega)) rfl rfl rfl (zL (oj z (oj z2 (oj hn_g2 hn_g4)))) ?_
  refine yS (oj z (oj z2 (oj hn_g2 hn_g4))) ?_
  refine yG (oj z (oj z2 (oj hn_g2 hn_g4))) ?_
  refine yN (oj z (oj z2 (oj hn_g2 hn_g4))) ?_
  refine yG (oj z (oj z2 (oj hn_g2 hn_g4))) ?_
  refine aw_callq (scheck_fa p f.vars (fun r hr => wf_mono (hw r hr) (by omega)) (by omega)) rfl rfl rfl (zL (oj z (oj z2 (oj hn_g2 hn_g4)))) ?_
  refine yS (oj z (oj z2 (oj hn_g2 hn_g4))) ?_
  refine yG (oj z (oj z2 (oj hn_g2 hn_g4))) ?_
  refine yN (oj z (oj z2 (oj hn_g2 hn_g4))) ?_
  refine yG (oj z (oj z2 (oj hn_g2 hn_g4))) ?_
  refine aw_callh (hc := []) (hr := [(g4, .cells 30 3 (ofL [.bool false, .nils, .nils])), (g2, .cells 24 3 (ofL (fmc false f)))]) (oDepth_fh f hn ha hc) rfl rfl rfl (.refl _) (zL (oj z (oj z2 (oj hn_g2 hn_g4)))) ?_
  rintro _ _ ⟨rfl, o, rfl, hpo, hol⟩ _
  refine yS (oj z (oj z2 (oj hn_g2 hn_g4))) ?_
  refine yG (oj z (oj z2 (oj hn_g2 hn_g4))) ?_
  refine yN (oj z (oj z2 (oj hn_g2 hn_g4))) ?_
  refine yG (oj z (oj z2 (oj hn_g2 hn_g4))) ?_
  have hoc : ocode o o.length = 0 := perm_code hpo (by omega)
  refine aw_callh (hc := []) (hr := [(g4, .cells 30 3 (ofL [.bool false, .nils, .nils])), (g2, .cells 24 3 (ofL (fmc false f)))]) (build_fh f hn ha hc o hoc hol (by omega)) rfl rfl rfl (.refl _) (zL (oj z (oj z2 (oj hn_g2 hn_g4)))) ?_
  rintro _ _ ⟨rfl, D, hD, rfl⟩ _
  refine yS (oj z (oj z2 (oj hn_g2 hn_g4))) ?_
  refine yG (oj z (oj z2 (oj hn_g2 hn_g4))) ?_
  refine yA (oj z (oj z2 (oj hn_g2 hn_g4))) fun g10 hn_g10=>?_
  refine yG (oj z (oj z2 (oj hn_g2 (oj hn_g4 hn_g10)))) ?_
  refine yW (oj z (oj z2 (oj hn_g2 (oj hn_g4 hn_g10)))) ?_
  refine yS (oj z (oj z2 (oj hn_g2 (oj hn_g4 hn_g10)))) ?_
  refine yG (oj z (oj z2 (oj hn_g2 (oj hn_g4 hn_g10)))) ?_
  refine yN (oj z (oj z2 (oj hn_g2 (oj hn_g4 hn_g10)))) ?_
  refine yG (oj z (oj z2 (oj hn_g2 (oj hn_g4 hn_g10)))) ?_
  have okD := dg_ok hD.code
  have hoD := hD.order
  have hplD : p.length = D.order.length := by rw [hoD]; omega
  have k1 := okD.n4096
  have k2 := okD.r1
  have k0 := okD.r0
  have k3 := vlen (ps := p) (ns := D.nodes)
  have hB6 : D.order.length ≤ 6 := by omega
  refine aw_dr 6 ty_mixed (by kernel_rfl) ?_
  refine yG (oj z (oj z2 (oj hn_g2 (oj hn_g4 hn_g10)))) ?_
  refine yD (oj z (oj z2 (oj hn_g2 (oj hn_g4 hn_g10)))) (values_fa D p 3000 ?_ ?_ (fun r hr => wf_mono (hw r hr) ?_) (vals_wf okD hplD (L := 16) ?_ hw (Nat.le_trans (Bl_mono hB6) ?_)) (ns_len okD hplD) ?_) ?_
  · omega
  · omega
  · omega
  · omega
  · decide
  · omega
  refine yG (oj z (oj z2 (oj hn_g2 (oj hn_g4 hn_g10)))) ?_
  refine yD (oj z (oj z2 (oj hn_g2 (oj hn_g4 hn_g10)))) (of_fa' (valsL p D.nodes []) D.root okD.r0 ?_ ?_) ?_
  · omega
  · omega
  refine yG (oj z (oj z2 (oj hn_g2 (oj hn_g4 hn_g10)))) ?_
  refine yW (oj z (oj z2 (oj hn_g2 (oj hn_g4 hn_g10)))) ?_
  refine yS (oj z (oj z2 (oj hn_g2 (oj hn_g4 hn_g10)))) ?_
  refine yG (oj z (oj z2 (oj hn_g2 (oj hn_g4 hn_g10)))) ?_
  refine aw_rethw (h' := []) rfl (List.nil_sublist _) (fun R hR => ?_)
  simp only [go_sem, z, z2, hn_g2, hn_g4, hn_g10]
  refine hR _ rfl ?_
  refine ⟨rfl, D, by rw [hoD]; exact hD, hplD.symm, ?_⟩
  rw [← plain_law okD hplD]
end Go.Proofs.YtcoflhkcpnoaaaaGreatDoor
namespace Go.Proofs.YtcoflhkcpnoaaaaGreatDoor
open Go.AI Go.PN
attribute [local irreducible] aw Fa Fh DrK
theorem form_range (f : FM) : ∀ n, formTo f n = (List.range n).map fun s => valF f s f.top
  | 0 => rfl
  | n + 1 => by rw [formTo, form_range f n, List.range_succ, List.map_append]; rfl
theorem form_tab {f : FM} {D : DG} (h : DOut D.order (fun s => valF f s f.top) D) (hl : D.order.length = f.vars.toNat) : tabL D = formTo f (2 ^ f.vars.toNat) := by
  rw [form_range, tabL, hl]
  exact List.map_congr_left fun s _ => h.ev s
end Go.Proofs.YtcoflhkcpnoaaaaGreatDoor
namespace Go.PN
open Go.AI
theorem signQ_zero {x y : Rat} : (signQ (x - y) != 0) = !decide (x = y) := by
  have h0 : signQ (x - y) = 0 ↔ x = y := by
    unfold signQ
    constructor
    · intro h
      split at h
      · rename_i h1; grind
      · split at h <;> cases h
    · intro h; rw [if_pos (by grind)]
  by_cases h : x = y
  · rw [h0.2 h]; simp [h]
  · have : signQ (x - y) ≠ 0 := fun e => h (h0.1 e)
    simp [h, this]
end Go.PN

namespace Go.PN
open Go.AI
def cohTo (f : FM) : Nat → Bool
  | 0 => true
  | k + 1 => cohTo f k && !((belL f).getD (f.vars.toNat + k) false && (decide ((f.nodes.getD k fn0).kind = 1) || decide ((f.nodes.getD k fn0).kind = 5)))
end Go.PN
namespace Go.PN
open Go.AI
def minQ (a b : Rat) : Rat := if signQ (a - b) > 0 then b else a
def maxQ (a b : Rat) : Rat := -minQ (-a) (-b)
end Go.PN
namespace Go.Proofs.YtcoflhkcpnoaaaaGreatDoor
open Go.AI Go.PN
attribute [local irreducible] aw Fa Fh DrK
theorem min_fits {a b : Rat} {L : Nat} (ha : fits a L) (hb : fits b L) : fits (minQ a b) L := by
  unfold minQ
  split
  · exact hb
  · exact ha
end Go.Proofs.YtcoflhkcpnoaaaaGreatDoor
namespace Go.AI
section
variable {E : Env} {K : List It} {σ σ' : Sl} {h : Heap}
theorem aw_frzGT {t s n n' : Nat} {og : Option Nat} {ty : TypeId} {f f' : Nat → CV} (hog : og = none → n = 0) (hnn : n = n') (ht : σ.get t = .c (gs og s n)) (hn : ∀ g, og = some g → ¬ E.C.own0 g) (hf : ∀ j, j < n * s → f j = f' j) (hσ : σ.set t (.c (.row true s n' f')) = σ') (k : aw E K σ' h) : aw E K σ (gh og ty (n * s) f ++ h) := by
  subst hnn
  cases og with
  | none =>
    have h0 := hog rfl
    subst h0
    refine aw_conv (t := t) (v := .c (.row true s 0 f')) (fun S w u hr => ?_) hσ k
    rw [ht] at hr
    exact repC_nil hr
  | some g =>
    refine aw_frzT (t := t) (g := g) (s := s) (off := 0) (n := n) (m := n * s) (ty := ty) (f := f) f' ht ?_ (by omega) (hn g rfl) (fun j hj => by rw [Nat.zero_add]; exact hf j hj) hσ ?_ k
    · show Heap.get ((g, _) :: h) g = _
      simp [Heap.get]
    · show Heap.del ((g, _) :: h) g = _
      simp [Heap.del]
end
end Go.AI
namespace Go.PN
open Go.AI
theorem signQ_gt (x : Rat) : decide (signQ x > 0) = decide (0 < x) := by
  have h := signQ_le x
  by_cases h0 : x ≤ 0
  · rw [decide_eq_true h0] at h
    have := of_decide_eq_true h
    rw [decide_eq_false (show ¬ signQ x > 0 by omega), decide_eq_false (show ¬ 0 < x by grind)]
  · rw [decide_eq_false h0] at h
    have := of_decide_eq_false h
    rw [decide_eq_true (show signQ x > 0 by omega), decide_eq_true (show 0 < x by grind)]
theorem min_le (a b : Rat) : minQ a b ≤ a ∧ minQ a b ≤ b ∧ (minQ a b = a ∨ minQ a b = b) := by
  have h := signQ_gt (a - b)
  unfold minQ
  by_cases hs : signQ (a - b) > 0
  · rw [decide_eq_true hs] at h
    have := of_decide_eq_true h.symm
    rw [if_pos hs]
    exact ⟨by grind, Rat.le_refl, .inr rfl⟩
  · rw [decide_eq_false hs] at h
    have := of_decide_eq_false h.symm
    rw [if_neg hs]
    exact ⟨Rat.le_refl, by grind, .inl rfl⟩
theorem max_ge (a b : Rat) : a ≤ maxQ a b ∧ b ≤ maxQ a b ∧ (maxQ a b = a ∨ maxQ a b = b) := by
  obtain ⟨h1, h2, h3⟩ := min_le (-a) (-b)
  unfold maxQ
  refine ⟨by grind, by grind, ?_⟩
  rcases h3 with h | h <;> rw [h] <;> grind
end Go.PN
namespace Go.Proofs.YtcoflhkcpnoaaaaGreatDoor
open Go.AI Go.PN
attribute [local irreducible] aw Fa Fh DrK
theorem pcode_mk {p : List RD} {v : Int} (h1 : (p.length : Int) = v) (h2 : ∀ r ∈ p, r.prob = true) : pcode p v = 0 := by
  unfold pcode
  rw [if_neg (by simpa using h1), if_pos (List.all_eq_true.2 h2)]
theorem sum_ex {f : FM} {D : DG} {p : List RD} (hD : DOut D.order (fun s => valF f s f.top) D) (hl : D.order.length = p.length) : sumQ p (tabL D) (2 ^ p.length) = exQ (prP p) p.length (fun s => evB (valF f s f.top)) := by
  have := prS_ex (d := D) (p := p) hl
  unfold prS at this
  rw [this]
  exact ex_congr _ _ _ fun s _ => by rw [hD.ev s]
end Go.Proofs.YtcoflhkcpnoaaaaGreatDoor
namespace Go.PN
open Go.AI
def grps (n : Nat) : List (List UInt8) := if h : n = 0 then [] else nineL (n % 1000000000) :: grps (n / 1000000000)
termination_by n
decreasing_by omega
theorem grps_zero : grps 0 = [] := by rw [grps]; simp
theorem grps_cons {n : Nat} (h : n ≠ 0) : grps n = nineL (n % 1000000000) :: grps (n / 1000000000) := by rw [grps]; simp [h]
theorem grps_len : ∀ (M n : Nat), n < 536870912 ^ M → (grps n).length ≤ M
  | 0, n, h => by
    have : n = 0 := by simpa using h
    subst this
    rw [grps_zero]; simp
  | M + 1, n, h => by
    by_cases h0 : n = 0
    · subst h0; rw [grps_zero]; simp
    · rw [grps_cons h0, List.length_cons]
      have := grps_len M (n / 1000000000) (by
        rw [Nat.pow_succ] at h
        generalize 536870912 ^ M = K at *
        omega)
      omega
theorem grps_nine : ∀ (M n : Nat), n ≤ M → ∀ g ∈ grps n, g.length = 9
  | 0, n, h, g, hg => by
    have : n = 0 := by omega
    subst this
    rw [grps_zero] at hg; cases hg
  | M + 1, n, h, g, hg => by
    by_cases h0 : n = 0
    · subst h0; rw [grps_zero] at hg; cases hg
    · rw [grps_cons h0, List.mem_cons] at hg
      rcases hg with rfl | hg
      · exact nineL_len _
      · exact grps_nine M _ (by omega) g hg
theorem grps_bound {xs : List Nat} (hx : ∀ x ∈ xs, x < 4294967296) : (grps (val xs)).length ≤ 2 * xs.length := by
  refine grps_len _ _ (Nat.lt_of_lt_of_le (val_lt xs hx) ?_)
  rw [Nat.pow_mul]
  exact Nat.pow_le_pow_left (by decide) _
def strF (G : List (List UInt8)) (j : Nat) : CV := .str (sB (G.getD j []))
@[go_sem] theorem strF_at (G : List (List UInt8)) (j : Nat) : strF G j = .str (sB (G.getD j [])) := rfl
theorem str_push {zs : List (List UInt8)} {n : Nat} (hn : zs.length = n) (x : List UInt8) : ∀ j, j < (n + 1) * 1 → appF (strF zs) (n * 1) (ofL [.str (sB x)]) j = strF (zs ++ [x]) j := fun j hj => by
  subst hn
  unfold appF
  by_cases h : j < zs.length * 1
  · rw [if_pos h]
    show CV.str (sB (zs.getD j [])) = CV.str (sB ((zs ++ [x]).getD j []))
    rw [List.getD_eq_getElem?_getD, List.getD_eq_getElem?_getD, List.getElem?_append_left (by omega)]
  · have e : j = zs.length := by omega
    subst e
    rw [if_neg h]
    show ofL [.str (sB x)] (zs.length - zs.length * 1) = CV.str (sB ((zs ++ [x]).getD zs.length []))
    rw [Nat.mul_one, Nat.sub_self, List.getD_eq_getElem?_getD, List.getElem?_append_right (Nat.le_refl _), Nat.sub_self]
    rfl
def catTo (G : List (List UInt8)) : Nat → List UInt8
  | 0 => []
  | i + 1 => catTo G i ++ G.getD (G.length - 1 - i) []
theorem catTo_len {G : List (List UInt8)} (h : ∀ g ∈ G, g.length = 9) : ∀ i, i ≤ G.length → (catTo G i).length = 9 * i
  | 0, _ => rfl
  | i + 1, hi => by
    have h1 := catTo_len h i (by omega)
    have h2 : (G.getD (G.length - 1 - i) []).length = 9 := by
      rw [List.getD_eq_getElem?_getD, List.getElem?_eq_getElem (by omega)]
      exact h _ (List.getElem_mem _)
    rw [catTo, List.length_append, h1, h2]; omega
def txtN (n : Nat) : List UInt8 := if ((catTo (grps n) (grps n).length).dropWhile (· == 48)) == [] then [48] else (catTo (grps n) (grps n).length).dropWhile (· == 48)
theorem txtN_len {xs : List Nat} (hx : ∀ x ∈ xs, x < 4294967296) : (txtN (val xs)).length ≤ 18 * xs.length + 1 := by
  have h1 := catTo_len (grps_nine _ (val xs) (Nat.le_refl _)) (grps (val xs)).length (Nat.le_refl _)
  have h2 := grps_bound hx
  have h3 := (List.dropWhile_sublist (· == (48 : UInt8)) (l := catTo (grps (val xs)) (grps (val xs)).length)).length_le
  unfold txtN
  split
  · simp
  · omega
def bA (gB : Nat) : Nat → CV
  | 0 => .raw (.pointer none)
  | _ + 1 => .optr gB 0
theorem bA_or (gB i : Nat) : bA gB i = .raw (.pointer none) ∨ bA gB i = .optr gB 0 := by cases i; exact .inl rfl; exact .inr rfl
end Go.PN
namespace Go.Proofs.YtcoflhkcpnoaaaaGreatDoor
open Go.AI Go.PN
attribute [local irreducible] aw Fa Fh DrK
set_option maxRecDepth 100000 in
set_option maxHeartbeats 3200000 in
theorem ntext_fa (xs : List Nat) (hx : ∀ x ∈ xs, x < 4294967296) (hl : xs.length ≤ 1000000) : Fa Tryz.prog 61 [.c (ws false xs)] (.c (.str (sB (txtN (val xs))))) := by
  have hgb := grps_bound hx
  have hwl := words_val_len xs hx
  have hnine := grps_nine _ (val xs) (Nat.le_refl _)
  have htx : txtN (val xs) = if ((catTo (grps (val xs)) (grps (val xs)).length).dropWhile (· == 48)) == [] then [48] else (catTo (grps (val xs)) (grps (val xs)).length).dropWhile (· == 48) := rfl
  refine fa_of_body Tryz.func61 rfl rfl (by simp [Tryz.ntmps61]) fun C hC => ?_
  simp only [initS, Nat.reduceAdd]
  refine xG ?_
  refine xC (trim_fa xs hx ?_) ?_
  · omega
  refine xG ?_
  generalize val xs = N at *
  refine aw_lp (fun x : Option Nat × List (List UInt8) × Nat => [(0, .c (ws true (words x.2.2))), (3, .c (gs x.1 1 x.2.1.length))]) (fun x => gh x.1 9 (x.2.1.length * 1) (strF x.2.1))
    (fun x => grps N = x.2.1 ++ grps x.2.2 ∧ x.2.2 ≤ N ∧ (x.1 = none → x.2.1.length = 0)) (fun x => x.2.2) (none, [], N) eB zZ ⟨rfl, Nat.le_refl _, fun _ => rfl⟩ ?_
  rintro ⟨og, G, v⟩ ⟨hG, hv, hog⟩
  dsimp only at hG hv hog ⊢
  have hGl : G.length + (grps v).length ≤ 2 * xs.length := by rw [← List.length_append, ← hG]; exact hgb
  have hvl := words_len_mono hv
  refine xG ?_
  refine xF (fun h1=>?_) fun h1=>?_
  · have h1' : v ≠ 0 := by
      intro e
      subst e
      rw [words_zero] at h1
      simp at h1
    have hst := grps_cons h1'
    have hnl : (nineL (v % 1000000000)).length = 9 := nineL_len _
    refine xG ?_
    have hsm := small_fa (words v) 1000000000 (words_lt v) (by omega) (by omega) (by omega)
    rw [val_words] at hsm
    refine xC (hsm) ?_
    refine xG ?_
    refine xC (nine_fa (v % 1000000000) ?_) ?_
    · omega
    refine xG ?_
    refine aw_push (pre := []) rfl rfl rfl rfl rfl rfl rfl eE eE (by rfl) (by omega) (by omega) eE (by omega) (by exact hog) eE (by rfl) (by rfl) (by first | rfl | simp only [Nat.mul_one, List.nil_append, List.cons_append] <;> rfl) (by unfold maxLen; omega) (by omega) (by exact str_push rfl _) fun g hn_g => ?_
    replace hn_g := Heap.ne_of hn_g
    first | dsimp only [Heap.ne, gh] at hn_g | dsimp only [Heap.ne] at hn_g | skip
    refine yS hn_g ?_
    refine yG hn_g ?_
    have e : (G ++ [nineL (v % 1000000000)]).length = G.length + 1 := by simp
    refine aw_stop ⟨(some g, G ++ [nineL (v % 1000000000)], v / 1000000000), by dsimp only; omega, ?_, ?_, by dsimp only; rw [List.append_assoc, hG, hst]; rfl, by dsimp only; omega, some_ne⟩
    · dsimp only
      rw [e]
      exact (zB hn_g)
    · dsimp only
      rw [e]
      exact zZ
  · have h1' : v = 0 := by
      apply Classical.byContradiction
      intro e
      have := of_decide_eq_false h1
      rw [words_cons e] at this
      simp at this
    subst h1'
    rw [grps_zero, List.append_nil] at hG
    have hcl := catTo_len hnine
    rw [hG] at hgb hnine htx hcl
    refine aw_perm (h' := gh og 9 (G.length * 1) (strF G) ++ []) (by rw [List.append_nil, Nat.mul_one]) ?_
    refine aw_frzGT (t := 3) (f' := strF G) hog rfl eE (fun g _ => hC g) (fun _ _ => rfl) rfl ?_
    refine xS ?_
    refine xG ?_
    refine aw_allocR (vs := [.pointer none, .slice none 0 0]) rfl rfl rfl (by kernel_rfl) fun gB hn_gB => ?_
    refine (?_ : aw _ _ _ [bldO gB (bA gB 0) (gsR none 0)])
    refine xS ?_
    refine xG ?_
    refine aw_lp (fun x : Option Nat × Nat => [(3, .c (.row true 1 G.length (strF G))), (6, .c (.optr gB 0)), (7, .c (.int .i64 ((G.length : Int) - 1 - (x.2 : Int))))]) (fun x => bldO gB (bA gB x.2) (gsR x.1 (catTo G x.2).length) :: gh x.1 5 (catTo G x.2).length (byF (catTo G x.2)))
      (fun x => x.2 ≤ G.length ∧ (x.1 = none → x.2 = 0) ∧ (x.2 = 0 → x.1 = none)) (fun x => G.length - x.2) (none, 0) (by refine xS ?_; simp) zZ ⟨Nat.zero_le _, fun _ => rfl, fun _ => rfl⟩ ?_
    rintro ⟨og2, i⟩ ⟨hi, hn1, hn2⟩
    dsimp only at hi hn1 hn2 ⊢
    have hci := hcl i hi
    refine xG ?_
    refine xF (fun h2=>?_) fun h2=>?_
    · have h2' : i < G.length := by have := of_decide_eq_true h2; omega
      obtain ⟨q, hq⟩ : ∃ q : Nat, q = G.length - 1 - i := ⟨_, rfl⟩
      have hqi : (G.length : Int) - 1 - (i : Int) = (q : Int) := by omega
      have hcat : catTo G (i + 1) = catTo G i ++ G.getD q [] := by rw [catTo, hq]
      have hl9 : (G.getD q []).length = 9 := by
        rw [List.getD_eq_getElem?_getD, List.getElem?_eq_getElem (by omega)]
        exact hnine _ (List.getElem_mem _)
      have hci2 := hcl (i + 1) (by omega)
      rw [hqi]
      refine xG ?_
      refine aw_callh (hc := bldO gB (bA gB i) (gsR og2 (catTo G i).length) :: gh og2 5 (catTo G i).length (byF (catTo G i))) (hr := []) (wstr_fh gB _ (bA_or gB i) og2 (catTo G i) (G.getD q []) (fun e => by rw [hn1 e]; rfl) (by omega)) rfl rfl rfl (by rw [List.append_nil]) eL ?_
      rintro _ _ ⟨og', h3, rfl, rfl⟩ _
      rw [← hcat, List.append_nil] at *
      refine xS ?_
      refine xG ?_
      rw [show (q : Int) - 1 = (G.length : Int) - 1 - ((i + 1 : Nat) : Int) from by omega]
      exact aw_stop ⟨(og', i + 1), by dsimp only; omega, eB, zZ, by dsimp only; omega, fun e => by have := h3 e; omega, fun e => by dsimp only at e; omega⟩
    · have h2' : i = G.length := by have := of_decide_eq_false h2; omega
      subst h2'
      refine xG ?_
      refine aw_callh (hc := bldO gB (bA gB G.length) (gsR og2 (catTo G G.length).length) :: gh og2 5 (catTo G G.length).length (byF (catTo G G.length))) (hr := []) (bstr_fh gB _ og2 (catTo G G.length) (fun e => by rw [hn1 e]; rfl) (fun e => hn2 (by rw [e] at hci; simp only [List.length_nil] at hci; omega)) (by omega)) rfl rfl rfl (by rw [List.append_nil]) eL ?_
      rintro _ _ ⟨rfl, rfl⟩ _
      generalize catTo G G.length = B at *
      refine xS ?_
      refine xG ?_
      refine xC (trimLeft_fa B ?_) ?_
      · omega
      refine xG ?_
      refine xF (fun h5=>?_) fun h5=>?_
      · rw [show (⟨#[]⟩ : ByteArray) = sB [] from rfl, sb_eq] at h5
        refine xG ?_
        rw [htx, if_pos h5]
        refine xT hC ?_
        exact .one (.c (.str _))
      · rw [show (⟨#[]⟩ : ByteArray) = sB [] from rfl, sb_eq] at h5
        refine xG ?_
        rw [htx, if_neg (by rw [h5]; simp)]
        refine xT hC ?_
        exact .one (.c (.str _))
end Go.Proofs.YtcoflhkcpnoaaaaGreatDoor
namespace Go.PN
open Go.AI
def RD.abs (r : RD) : Rat := sq false r.pn r.pd
def maxR (a b : Rat) : Rat := if signQ (a - b) ≥ 0 then a else b
theorem min_eq (a b : Rat) : (if signQ (a - b) ≤ 0 then a else b) = minQ a b := by
  unfold minQ
  by_cases h : signQ (a - b) ≤ 0
  · rw [if_pos h, if_neg (by omega)]
  · rw [if_neg h, if_pos (by omega)]
theorem max_eq (a b : Rat) : maxR a b = maxQ a b := by
  have h := signQ_ge (a - b)
  obtain ⟨h1, h2, h3⟩ := max_ge a b
  unfold maxR
  by_cases hs : signQ (a - b) ≥ 0
  · rw [decide_eq_true hs] at h
    have := of_decide_eq_true h.symm
    rw [if_pos hs]
    grind
  · rw [decide_eq_false hs] at h
    have := of_decide_eq_false h.symm
    rw [if_neg hs]
    grind
def rtxt (r : RD) : List UInt8 := (if r.ps then [45] ++ txtN r.pn else txtN r.pn) ++ (if r.pd = 1 then [] else [47] ++ txtN r.pd)
theorem txtN_le {n L : Nat} (h : (words n).length ≤ L) : (txtN n).length ≤ 18 * L + 1 := by
  have := txtN_len (words_lt n)
  rw [val_words] at this
  omega
theorem rtxt_len {r : RD} {L : Nat} (hL : 1 ≤ L) (h : r.wf L) : (rtxt r).length ≤ 36 * L + 4 := by
  obtain ⟨h1, h2⟩ := RD.p_len h hL
  have h3 := txtN_le h1
  have h4 := txtN_le h2
  unfold rtxt
  split <;> split <;> simp <;> omega
end Go.PN
namespace Go.Proofs.YtcoflhkcpnoaaaaGreatDoor
open Go.AI Go.PN
attribute [local irreducible] aw Fa Fh DrK
set_option maxHeartbeats 1600000 in
theorem rsame_fa (r : RD) (hw : r.wf 1073741824) : Fa Tryz.prog 149 [.agg (rdc r)] (.agg (rdc (rd r.q))) := by
  obtain ⟨hl1, hl2⟩ := RD.p_len hw (by omega)
  refine fa_of_body Tryz.func149 rfl rfl (by simp [Tryz.ntmps149]) fun C hC => ?_
  simp only [initS, Nat.reduceAdd]
  refine xG ?_
  refine xB fun g1 hn_g1=>?_
  refine yA hn_g1 fun g2 hn_g2=>?_
  refine yG (oj hn_g1 hn_g2) ?_
  refine yC (oj hn_g1 hn_g2) (rparts_fa r hw) ?_
  refine yG (oj hn_g1 hn_g2) ?_
  refine yC (oj hn_g1 hn_g2) (rform_fa _ r.pn r.pd ?_ ?_ (RD.pd_ne hw)) ?_
  · omega
  · omega
  refine yG (oj hn_g1 hn_g2) ?_
  refine yW (oj hn_g1 hn_g2) ?_
  refine yS (oj hn_g1 hn_g2) ?_
  refine yG (oj hn_g1 hn_g2) ?_
  refine yT hC (oj hn_g1 hn_g2) ?_
  exact ler_rd rfl
set_option maxHeartbeats 1600000 in
theorem rabs_fa (r : RD) (hw : r.wf 1073741824) : Fa Tryz.prog 103 [.agg (rdc r)] (.agg (rdc (rd r.abs))) := by
  obtain ⟨hl1, hl2⟩ := RD.p_len hw (by omega)
  refine fa_of_body Tryz.func103 rfl rfl (by simp [Tryz.ntmps103]) fun C hC => ?_
  simp only [initS, Nat.reduceAdd]
  refine xG ?_
  refine xB fun g1 hn_g1=>?_
  refine yA hn_g1 fun g2 hn_g2=>?_
  refine yG (oj hn_g1 hn_g2) ?_
  refine yC (oj hn_g1 hn_g2) (rparts_fa r hw) ?_
  refine yG (oj hn_g1 hn_g2) ?_
  refine yC (oj hn_g1 hn_g2) (rform_fa false r.pn r.pd ?_ ?_ (RD.pd_ne hw)) ?_
  · omega
  · omega
  refine yG (oj hn_g1 hn_g2) ?_
  refine yW (oj hn_g1 hn_g2) ?_
  refine yS (oj hn_g1 hn_g2) ?_
  refine yG (oj hn_g1 hn_g2) ?_
  refine yT hC (oj hn_g1 hn_g2) ?_
  exact ler_rd rfl
set_option maxHeartbeats 1600000 in
theorem rmin_fa (a b : RD) (ha : a.wf 400000000) (hb : b.wf 400000000) : Fa Tryz.prog 110 [.agg (rdc a), .agg (rdc b)] (.agg (rdc (rd (minQ a.q b.q)))) := by
  have he := min_eq a.q b.q
  refine fa_of_body Tryz.func110 rfl rfl (by simp [Tryz.ntmps110]) fun C hC => ?_
  simp only [initS, Nat.reduceAdd]
  refine xG ?_
  refine xB fun g2 hn_g2=>?_
  refine yB hn_g2 fun g3 hn_g3=>?_
  refine yA (oj hn_g2 hn_g3) fun g4 hn_g4=>?_
  refine yG (oj hn_g2 (oj hn_g3 hn_g4)) ?_
  refine yC (oj hn_g2 (oj hn_g3 hn_g4)) (rcmp_fa a b (wf_mono ha ?_) (wf_mono hb ?_)) ?_
  · omega
  · omega
  refine yG (oj hn_g2 (oj hn_g3 hn_g4)) ?_
  refine yF (oj hn_g2 (oj hn_g3 hn_g4)) (fun hc=>?_) fun hc=>?_
  · rw [if_pos (of_decide_eq_true hc)] at he
    refine yG (oj hn_g2 (oj hn_g3 hn_g4)) ?_
    refine yC (oj hn_g2 (oj hn_g3 hn_g4)) (rsame_fa a (wf_mono ha ?_)) ?_
    · omega
    refine yG (oj hn_g2 (oj hn_g3 hn_g4)) ?_
    refine yW (oj hn_g2 (oj hn_g3 hn_g4)) ?_
    refine yS (oj hn_g2 (oj hn_g3 hn_g4)) ?_
    refine yG (oj hn_g2 (oj hn_g3 hn_g4)) ?_
    refine yT hC (oj hn_g2 (oj hn_g3 hn_g4)) ?_
    exact ler_rd (congrArg rd he)
  · rw [if_neg (of_decide_eq_false hc)] at he
    refine yG (oj hn_g2 (oj hn_g3 hn_g4)) ?_
    refine yC (oj hn_g2 (oj hn_g3 hn_g4)) (rsame_fa b (wf_mono hb ?_)) ?_
    · omega
    refine yG (oj hn_g2 (oj hn_g3 hn_g4)) ?_
    refine yW (oj hn_g2 (oj hn_g3 hn_g4)) ?_
    refine yS (oj hn_g2 (oj hn_g3 hn_g4)) ?_
    refine yG (oj hn_g2 (oj hn_g3 hn_g4)) ?_
    refine yT hC (oj hn_g2 (oj hn_g3 hn_g4)) ?_
    exact ler_rd (congrArg rd he)
set_option maxHeartbeats 1600000 in
theorem rmax_fa (a b : RD) (ha : a.wf 400000000) (hb : b.wf 400000000) : Fa Tryz.prog 111 [.agg (rdc a), .agg (rdc b)] (.agg (rdc (rd (maxQ a.q b.q)))) := by
  have he := max_eq a.q b.q
  unfold maxR at he
  refine fa_of_body Tryz.func111 rfl rfl (by simp [Tryz.ntmps111]) fun C hC => ?_
  simp only [initS, Nat.reduceAdd]
  refine xG ?_
  refine xB fun g2 hn_g2=>?_
  refine yB hn_g2 fun g3 hn_g3=>?_
  refine yA (oj hn_g2 hn_g3) fun g4 hn_g4=>?_
  refine yG (oj hn_g2 (oj hn_g3 hn_g4)) ?_
  refine yC (oj hn_g2 (oj hn_g3 hn_g4)) (rcmp_fa a b (wf_mono ha ?_) (wf_mono hb ?_)) ?_
  · omega
  · omega
  refine yG (oj hn_g2 (oj hn_g3 hn_g4)) ?_
  refine yF (oj hn_g2 (oj hn_g3 hn_g4)) (fun hc=>?_) fun hc=>?_
  · rw [if_pos (of_decide_eq_true hc)] at he
    refine yG (oj hn_g2 (oj hn_g3 hn_g4)) ?_
    refine yC (oj hn_g2 (oj hn_g3 hn_g4)) (rsame_fa a (wf_mono ha ?_)) ?_
    · omega
    refine yG (oj hn_g2 (oj hn_g3 hn_g4)) ?_
    refine yW (oj hn_g2 (oj hn_g3 hn_g4)) ?_
    refine yS (oj hn_g2 (oj hn_g3 hn_g4)) ?_
    refine yG (oj hn_g2 (oj hn_g3 hn_g4)) ?_
    refine yT hC (oj hn_g2 (oj hn_g3 hn_g4)) ?_
    exact ler_rd (congrArg rd he)
  · rw [if_neg (of_decide_eq_false hc)] at he
    refine yG (oj hn_g2 (oj hn_g3 hn_g4)) ?_
    refine yC (oj hn_g2 (oj hn_g3 hn_g4)) (rsame_fa b (wf_mono hb ?_)) ?_
    · omega
    refine yG (oj hn_g2 (oj hn_g3 hn_g4)) ?_
    refine yW (oj hn_g2 (oj hn_g3 hn_g4)) ?_
    refine yS (oj hn_g2 (oj hn_g3 hn_g4)) ?_
    refine yG (oj hn_g2 (oj hn_g3 hn_g4)) ?_
    refine yT hC (oj hn_g2 (oj hn_g3 hn_g4)) ?_
    exact ler_rd (congrArg rd he)
set_option maxHeartbeats 1600000 in
theorem rtext_fa (r : RD) (hw : r.wf 100000) : Fa Tryz.prog 30 [.agg (rdc r)] (.c (.str (sB (rtxt r)))) := by
  obtain ⟨hl1, hl2⟩ := RD.p_len hw (by omega)
  have t1 := ntext_fa (words r.pn) (words_lt _) (by omega)
  have t2 := ntext_fa (words r.pd) (words_lt _) (by omega)
  have z1 := txtN_le hl1
  have z2 := txtN_le hl2
  rw [val_words] at t1 t2
  have hr : rtxt r = (if r.ps then [45] ++ txtN r.pn else txtN r.pn) ++ (if r.pd = 1 then [] else [47] ++ txtN r.pd) := rfl
  generalize txtN r.pn = T1 at *
  generalize txtN r.pd = T2 at *
  have e1 : (⟨#[45]⟩ : ByteArray) = sB [45] := rfl
  have e2 : (⟨#[47]⟩ : ByteArray) = sB [47] := rfl
  have s1 : ∀ l : List UInt8, (sB l).size = l.length := fun _ => rfl
  have s2 : (⟨#[45]⟩ : ByteArray).size = 1 := rfl
  have s3 : (⟨#[47]⟩ : ByteArray).size = 1 := rfl
  have s4 := s1 T1
  have s5 := s1 T2
  refine fa_of_body Tryz.func30 rfl rfl (by simp [Tryz.ntmps30]) fun C hC => ?_
  simp only [initS, Nat.reduceAdd]
  refine xG ?_
  refine xB fun g1 hn_g1=>?_
  refine yG hn_g1 ?_
  refine yC hn_g1 (rparts_fa r (wf_mono hw ?_)) ?_
  · omega
  refine yG hn_g1 ?_
  refine yC hn_g1 (t1) ?_
  refine yG hn_g1 ?_
  have hcm : Fa Tryz.prog 62 [.c (ws false (words r.pd)), .c (ws false [1])] (.c (.int .i64 (cmpN r.pd 1))) := by
    have := cmpW r.pd 1 (by omega) (by rw [words_cons (by omega)]; simp [words_zero])
    rwa [show words 1 = [1] from by rw [words_cons (by omega)]; simp [words_zero]] at this
  refine yF hn_g1 (fun hp=>?_) fun hp=>?_
  · rw [if_pos hp] at hr
    refine yG hn_g1 ?_
    refine aw_pok (POk.addStr (a := sB [45]) (b := sB T1) (by rw [s1, s1]; simp; omega) (by rfl) (zE hn_g1)) rfl rfl ?_
    rw [sb_app]
    refine yS hn_g1 ?_
    have s6 : (sB ([45] ++ T1)).size = T1.length + 1 := by show ([45] ++ T1).length = _; simp
    have s9 : ([45] ++ T1).length = T1.length + 1 := by simp
    replace hr : rtxt r = (45 :: T1) ++ (if r.pd = 1 then [] else [47] ++ T2) := hr
    have s7 : ∀ V : List UInt8, (sB ([47] ++ V)).size = V.length + 1 := fun V => by show ([47] ++ V).length = _; simp
    have s8 := s7 T2
    refine yG hn_g1 ?_
    refine yC hn_g1 (one_fa) ?_
    refine yG hn_g1 ?_
    refine yC hn_g1 (hcm) ?_
    refine yG hn_g1 ?_
    refine yF hn_g1 (fun hd=>?_) fun hd=>?_
    · have hd' : r.pd ≠ 1 := fun e => by rw [e] at hd; simp [cmpN] at hd
      rw [if_neg hd'] at hr
      refine yG hn_g1 ?_
      refine yC hn_g1 (t2) ?_
      refine yG hn_g1 ?_
      refine aw_pok (POk.addStr (a := sB [47]) (b := sB T2) (by rw [s1, s1]; simp; omega) (by rfl) (zE hn_g1)) rfl rfl ?_
      rw [sb_app]
      refine yS hn_g1 ?_
      refine yG hn_g1 ?_
      refine aw_pok (POk.addStr (a := sB (45 :: T1)) (b := sB (47 :: T2)) (by rw [s1, s1]; simp; omega) (zE hn_g1) (zE hn_g1)) rfl rfl ?_
      rw [sb_app, show (47 :: T2) = [47] ++ T2 from rfl, ← hr]
      refine yS hn_g1 ?_
      refine yG hn_g1 ?_
      refine yT hC hn_g1 ?_
      exact .one (.c (.str _))
    · have hd' : r.pd = 1 := by
        apply Classical.byContradiction
        intro e
        unfold cmpN at hd
        rw [if_neg e] at hd
        split at hd <;> simp at hd
      rw [if_pos hd', List.append_nil] at hr
      refine yG hn_g1 ?_
      rw [← hr]
      refine yT hC hn_g1 ?_
      exact .one (.c (.str _))
  · rw [if_neg (by rw [hp]; simp)] at hr
    have s7 : ∀ V : List UInt8, (sB ([47] ++ V)).size = V.length + 1 := fun V => by show ([47] ++ V).length = _; simp
    have s8 := s7 T2
    refine yG hn_g1 ?_
    refine yC hn_g1 (one_fa) ?_
    refine yG hn_g1 ?_
    refine yC hn_g1 (hcm) ?_
    refine yG hn_g1 ?_
    refine yF hn_g1 (fun hd=>?_) fun hd=>?_
    · have hd' : r.pd ≠ 1 := fun e => by rw [e] at hd; simp [cmpN] at hd
      rw [if_neg hd'] at hr
      refine yG hn_g1 ?_
      refine yC hn_g1 (t2) ?_
      refine yG hn_g1 ?_
      refine aw_pok (POk.addStr (a := sB [47]) (b := sB T2) (by rw [s1, s1]; simp; omega) (by rfl) (zE hn_g1)) rfl rfl ?_
      rw [sb_app]
      refine yS hn_g1 ?_
      refine yG hn_g1 ?_
      refine aw_pok (POk.addStr (a := sB T1) (b := sB (47 :: T2)) (by rw [s1, s1]; simp; omega) (zE hn_g1) (zE hn_g1)) rfl rfl ?_
      rw [sb_app, show (47 :: T2) = [47] ++ T2 from rfl, ← hr]
      refine yS hn_g1 ?_
      refine yG hn_g1 ?_
      refine yT hC hn_g1 ?_
      exact .one (.c (.str _))
    · have hd' : r.pd = 1 := by
        apply Classical.byContradiction
        intro e
        unfold cmpN at hd
        rw [if_neg e] at hd
        split at hd <;> simp at hd
      rw [if_pos hd', List.append_nil] at hr
      refine yG hn_g1 ?_
      rw [← hr]
      refine yT hC hn_g1 ?_
      exact .one (.c (.str _))
end Go.Proofs.YtcoflhkcpnoaaaaGreatDoor
namespace Go.PN
open Go.AI
structure SD where
  lo : RD
  hi : RD
def sd0 : SD := ⟨rd0, rd0⟩
abbrev spc (s : SD) : List CV := [.bool s.lo.neg, ws true s.lo.num, ws true s.lo.den, .bool s.hi.neg, ws true s.hi.num, ws true s.hi.den]
def SD.wf (s : SD) (L : Nat) : Prop := s.lo.wf L ∧ s.hi.wf L
def validS (s : SD) : Bool := s.lo.valid && s.hi.valid && decide (signQ (s.lo.q - s.hi.q) ≤ 0)
def nlo (s : SD) : Rat := if validS s then s.lo.q else 0
def nhi (s : SD) : Rat := if validS s then s.hi.q else 0
abbrev normS (s : SD) : SD := ⟨rd (nlo s), rd (nhi s)⟩
def mnF (a : Rat) (xs : List RD) : Rat := xs.foldl (fun a r => minQ a r.q) a
def mxF (a : Rat) (xs : List RD) : Rat := xs.foldl (fun a r => maxQ a r.q) a
theorem mnF_take {a : Rat} {xs : List RD} {j : Nat} (h : j < xs.length) : mnF a (xs.take (j + 1)) = minQ (mnF a (xs.take j)) (xs.getD j rd0).q := by
  unfold mnF
  rw [List.take_succ_eq_append_getElem h, List.foldl_append, List.getD_eq_getElem?_getD, List.getElem?_eq_getElem h]; rfl
theorem mxF_take {a : Rat} {xs : List RD} {j : Nat} (h : j < xs.length) : mxF a (xs.take (j + 1)) = maxQ (mxF a (xs.take j)) (xs.getD j rd0).q := by
  unfold mxF
  rw [List.take_succ_eq_append_getElem h, List.foldl_append, List.getD_eq_getElem?_getD, List.getElem?_eq_getElem h]; rfl
theorem mnF_fits {L : Nat} (hL : 1 ≤ L) : ∀ {xs : List RD} {a : Rat}, fits a L → (∀ r ∈ xs, r.wf L) → fits (mnF a xs) L
  | [], a, h, _ => h
  | x :: xs, a, h, hx => mnF_fits hL (xs := xs) (Go.Proofs.YtcoflhkcpnoaaaaGreatDoor.min_fits h (RD.fits (hx x (List.mem_cons_self ..)) hL)) fun r hr => hx r (List.mem_cons_of_mem _ hr)
theorem mxF_fits {L : Nat} (hL : 1 ≤ L) : ∀ {xs : List RD} {a : Rat}, fits a L → (∀ r ∈ xs, r.wf L) → fits (mxF a xs) L
  | [], a, h, _ => h
  | x :: xs, a, h, hx => mxF_fits hL (xs := xs) (fits_neg (Go.Proofs.YtcoflhkcpnoaaaaGreatDoor.min_fits (fits_neg h) (fits_neg (RD.fits (hx x (List.mem_cons_self ..)) hL)))) fun r hr => hx r (List.mem_cons_of_mem _ hr)
theorem min_self (a : Rat) : minQ a a = a := by rcases (min_le a a).2.2 with h | h <;> exact h
theorem max_self (a : Rat) : maxQ a a = a := by rcases (max_ge a a).2.2 with h | h <;> exact h
theorem ratsF_tail (x : RD) (xs : List RD) : (fun j => ratsF (x :: xs) (3 + j)) = ratsF xs := funext fun j => by
  show ofL _ ((3 + j) % 3) = ofL _ (j % 3)
  rw [show (3 + j) % 3 = j % 3 from by omega]
  congr 1
  rw [show (3 + j) / 3 = j / 3 + 1 from by omega]
  rfl
theorem valid_le {s : SD} (h : validS s = true) : s.lo.q ≤ s.hi.q := by
  unfold validS at h
  rw [signQ_le] at h
  simp only [Bool.and_eq_true, decide_eq_true_eq] at h
  have := h.2
  grind
theorem min_of_le {a b : Rat} (h : a ≤ b) : minQ a b = a := by obtain ⟨h1, h2, h3⟩ := min_le a b; grind
theorem max_of_le {a b : Rat} (h : a ≤ b) : maxQ a b = b := by obtain ⟨h1, h2, h3⟩ := max_ge a b; grind
theorem norm_fits {s : SD} {L : Nat} (hL : 1 ≤ L) (h : s.wf L) : fits (nlo s) L ∧ fits (nhi s) L := by
  unfold nlo nhi
  split
  · exact ⟨RD.fits h.1 hL, RD.fits h.2 hL⟩
  · exact ⟨fits_mono fits_zero hL, fits_mono fits_zero hL⟩
end Go.PN
namespace Go.Proofs.YtcoflhkcpnoaaaaGreatDoor
open Go.AI Go.PN
attribute [local irreducible] aw Fa Fh DrK
theorem lerl_sp {h : Heap} {s : SD} : LeRL h (spc s) (spc s) := ⟨.bool _, ler_ws, ler_ws, .bool _, ler_ws, ler_ws, trivial⟩
theorem ler_sp {h : Heap} {r s : SD} (e : r = s) : LeRA h (.agg (spc r)) (.agg (spc s)) := by subst e; exact .one (.agg lerl_sp)
set_option maxHeartbeats 1600000 in
theorem spvalid_fa (s : SD) (hw : s.wf 1000000) : Fa Tryz.prog 18 [.agg (spc s)] (.c (.bool (validS s))) := by
  obtain ⟨h1, h2⟩ := hw
  unfold validS
  refine fa_of_body Tryz.func18 rfl rfl (by simp [Tryz.ntmps18]) fun C hC => ?_
  simp only [initS, Nat.reduceAdd]
  refine xG ?_
  refine xB fun g1 hn_g1=>?_
  refine yG hn_g1 ?_
  refine yC hn_g1 (rvalid_fa s.lo (wf_mono h1 ?_)) ?_
  · omega
  refine yG hn_g1 ?_
  refine aw_split 6 (zE hn_g1) (fun hv => ?_) (fun hv => ?_) <;> refine yS hn_g1 ?_
  · refine yG hn_g1 ?_
    refine yC hn_g1 (rvalid_fa s.hi (wf_mono h2 ?_)) ?_
    · omega
    refine yG hn_g1 ?_
    refine aw_split 11 (zE hn_g1) (fun hv2 => ?_) (fun hv2 => ?_) <;> refine yS hn_g1 ?_
    · refine yG hn_g1 ?_
      refine yC hn_g1 (rcmp_fa s.lo s.hi (wf_mono h1 ?_) (wf_mono h2 ?_)) ?_
      · omega
      · omega
      refine yG hn_g1 ?_
      refine yT hC hn_g1 ?_
      exact .one (.c (ler_bool (by rw [hv, hv2]; rfl)))
    · refine yG hn_g1 ?_
      refine yT hC hn_g1 ?_
      exact .one (.c (ler_bool (by rw [hv, hv2]; rfl)))
  · refine yG hn_g1 ?_
    refine aw_split 11 (zE hn_g1) (fun hv2 => ?_) (fun hv2 => ?_) <;> refine yS hn_g1 ?_
    · cases hv2
    refine yG hn_g1 ?_
    refine yT hC hn_g1 ?_
    exact .one (.c (ler_bool (by rw [hv]; rfl)))
set_option maxRecDepth 100000 in
set_option maxHeartbeats 3200000 in
theorem spof_fa (x : RD) (xs : List RD) (hx : x.wf 100000) (hw : ∀ r ∈ xs, r.wf 100000) (hl : xs.length ≤ 1000) : Fa Tryz.prog 65 [.c (rats false (x :: xs))] (.agg (spc ⟨rd (mnF x.q xs), rd (mxF x.q xs)⟩)) := by
  have hfx := RD.fits hx (by omega)
  have m1 := rmin_fa x x (wf_mono hx (by omega)) (wf_mono hx (by omega))
  have m2 := rmax_fa x x (wf_mono hx (by omega)) (wf_mono hx (by omega))
  rw [min_self] at m1
  rw [max_self] at m2
  refine fa_of_body Tryz.func65 rfl rfl (by simp [Tryz.ntmps65]) fun C hC => ?_
  simp only [initS, Nat.reduceAdd]
  refine xG ?_
  refine xA fun g2 hn_g2=>?_
  refine yG hn_g2 ?_
  refine aw_cw ([]) [(0,0),(1,0),(2,0),(3,0),(4,0),(5,0),(6,0),(7,0),(8,0),(9,0),(10,0),(11,0),(12,0),(13,0),(14,0),(15,1),(16,1)] ty_mixed (by kernel_rfl) eI ?_
  refine yG hn_g2 ?_
  refine cw_callq rfl m1 rfl rfl rfl (fun _ _ => (zL hn_g2)) ?_
  refine yS hn_g2 ?_
  refine yG hn_g2 ?_
  refine cw_callq rfl m2 rfl rfl rfl (fun _ _ => (zL hn_g2)) ?_
  refine yS hn_g2 ?_
  refine yG hn_g2 ?_
  refine cw_alloc rfl rfl rfl rfl (zE hn_g2) has0_nil (fun g3 hn_g3 => ?_) (hm := .inr ⟨rfl, rfl⟩)
  replace hn_g3 := Heap.ne_of hn_g3
  dsimp only [Heap.ne] at hn_g3
  refine yS (oj hn_g2 hn_g3) ?_
  refine cw_store rfl rfl rfl rfl rfl (zE (oj hn_g2 hn_g3)) (zE (oj hn_g2 hn_g3)) (zE (oj hn_g2 hn_g3)) (zE (oj hn_g2 hn_g3)) (fun _ e => by cases e) rfl rfl (Nat.le_refl 6) rfl has0_nil ?_ (hm := .inr ⟨rfl, rfl⟩)
  refine yS (oj hn_g2 hn_g3) ?_
  refine yG (oj hn_g2 hn_g3) ?_
  refine aw_conv1 (f' := ofL (spc ⟨rd (mnF x.q (xs.take 0)), rd (mxF x.q (xs.take 0))⟩)) (fun j hj => by match j, hj with | 0, _ => rfl | 1, _ => rfl | 2, _ => rfl | 3, _ => rfl | 4, _ => rfl | 5, _ => rfl) ?_
  rw [ratsF_tail, show xs.length + 1 - 1 = xs.length from rfl]
  refine aw_lp (fun j : Nat => [(2, .c (.optr g2 0)), (3, .c (.optr g3 0)), (22, .c (rats false xs)), (23, .c (.int .i64 xs.length)), (24, .c (.int .i64 j))]) (fun j => [(g3, .cells 32 6 (ofL (spc ⟨rd (mnF x.q (xs.take j)), rd (mxF x.q (xs.take j))⟩))), (g2, .cells 32 6 (ofL [.bool false, .nils, .nils, .bool false, .nils, .nils]))]) (fun j => j ≤ xs.length) (fun j => xs.length - j) 0 (zB (oj hn_g2 hn_g3)) zZ (Nat.zero_le _) ?_
  rintro j hj
  have hmn := mnF_fits (L := 100000) (by omega) hfx (fun r hr => hw r (List.mem_of_mem_take (i := j) hr))
  have hmx := mxF_fits (L := 100000) (by omega) hfx (fun r hr => hw r (List.mem_of_mem_take (i := j) hr))
  refine yG (oj hn_g2 hn_g3) ?_
  refine yF (oj hn_g2 hn_g3) (fun h1=>?_) fun h1=>?_
  · have h1' : j < xs.length := by have := of_decide_eq_true h1; omega
    have hyw : (xs.getD j rd0).wf 100000 := by
      rw [List.getD_eq_getElem?_getD, List.getElem?_eq_getElem h1']
      exact hw _ (List.getElem_mem _)
    have e1 := mnF_take (a := x.q) h1'
    have e2 := mxF_take (a := x.q) h1'
    generalize mnF x.q (xs.take j) = A at *
    generalize mxF x.q (xs.take j) = B at *
    have m1 := rmin_fa (rd A) (xs.getD j rd0) (wf_mono (rd_wf hmn) (by omega)) (wf_mono hyw (by omega))
    have m2 := rmax_fa (rd B) (xs.getD j rd0) (wf_mono (rd_wf hmx) (by omega)) (wf_mono hyw (by omega))
    rw [rd_q, ← e1] at m1
    rw [rd_q, ← e2] at m2
    refine yG (oj hn_g2 hn_g3) ?_
    refine yA (oj hn_g2 hn_g3) fun g5 hn_g5=>?_
    refine yG (oj hn_g2 (oj hn_g3 hn_g5)) ?_
    refine yW (oj hn_g2 (oj hn_g3 hn_g5)) ?_
    refine yS (oj hn_g2 (oj hn_g3 hn_g5)) ?_
    refine aw_conv1 (f' := ofL (rdc (xs.getD j rd0))) (fun j hj => by match j, hj with | 0, _ => rfl | 1, _ => rfl | 2, _ => rfl) ?_
    refine yG (oj hn_g2 (oj hn_g3 hn_g5)) ?_
    generalize xs.getD j rd0 = y at *
    refine aw_cw ([(g5, .cells 30 3 (ofL (rdc y))), (g3, .cells 32 6 (ofL (spc ⟨rd A, rd B⟩)))]) [(0,0),(1,0),(2,0),(3,0),(4,0),(5,0),(6,0),(7,0),(8,0),(9,2),(10,0),(11,1)] ty_mixed (by kernel_rfl) eI ?_
    refine yG (oj hn_g2 (oj hn_g3 hn_g5)) ?_
    refine cw_callq rfl m1 rfl rfl rfl (fun _ _ => (zL (oj hn_g2 (oj hn_g3 hn_g5)))) ?_
    refine yS (oj hn_g2 (oj hn_g3 hn_g5)) ?_
    refine yG (oj hn_g2 (oj hn_g3 hn_g5)) ?_
    refine cw_callq rfl m2 rfl rfl rfl (fun _ _ => (zL (oj hn_g2 (oj hn_g3 hn_g5)))) ?_
    refine yS (oj hn_g2 (oj hn_g3 hn_g5)) ?_
    refine yG (oj hn_g2 (oj hn_g3 hn_g5)) ?_
    refine cw_store (FP' := []) rfl rfl rfl rfl rfl (zE (oj hn_g2 (oj hn_g3 hn_g5))) (zE (oj hn_g2 (oj hn_g3 hn_g5))) (zE (oj hn_g2 (oj hn_g3 hn_g5))) (zE (oj hn_g2 (oj hn_g3 hn_g5))) (fun _ e => by cases e) rfl rfl (by show 0 + 3 ≤ 6; omega) rfl has0_nil ?_
    refine yS (oj hn_g2 (oj hn_g3 hn_g5)) ?_
    refine yG (oj hn_g2 (oj hn_g3 hn_g5)) ?_
    refine cw_store rfl rfl rfl rfl rfl (zE (oj hn_g2 (oj hn_g3 hn_g5))) (zE (oj hn_g2 (oj hn_g3 hn_g5))) (zE (oj hn_g2 (oj hn_g3 hn_g5))) (zE (oj hn_g2 (oj hn_g3 hn_g5))) (fun _ e => by cases e) rfl rfl (by show 3 + 3 ≤ 6; omega) rfl has0_nil ?_ (hm := .inr ⟨rfl, rfl⟩)
    refine yS (oj hn_g2 (oj hn_g3 hn_g5)) ?_
    refine yG (oj hn_g2 (oj hn_g3 hn_g5)) ?_
    refine aw_weak (Sl.le_refl _) (List.sublist_cons_self _ _) ?_
    refine aw_conv1 (f' := ofL (spc ⟨rd (mnF x.q (xs.take (j + 1))), rd (mxF x.q (xs.take (j + 1)))⟩)) (fun j hj => by match j, hj with | 0, _ => rfl | 1, _ => rfl | 2, _ => rfl | 3, _ => rfl | 4, _ => rfl | 5, _ => rfl) ?_
    exact aw_stop ⟨j + 1, by omega, (zB (oj hn_g2 (oj hn_g3 hn_g5))), zZ, by omega⟩
  · have h1' : j = xs.length := by have := of_decide_eq_false h1; omega
    subst h1'
    rw [List.take_length] at *
    refine yG (oj hn_g2 hn_g3) ?_
    refine yW (oj hn_g2 hn_g3) ?_
    refine yS (oj hn_g2 hn_g3) ?_
    refine yG (oj hn_g2 hn_g3) ?_
    refine yT hC (oj hn_g2 hn_g3) ?_
    show LeRA _ (.agg (spc ⟨rd (mnF x.q xs), rd (mxF x.q xs)⟩)) _
    exact ler_sp rfl
theorem zero_sp {h : Heap} : LeRA h (.agg [.bool false, .nils, .nils, .bool false, .nils, .nils]) (.agg (spc ⟨rd 0, rd 0⟩)) := by
  rw [rd_zero]
  exact .one (.agg ⟨.bool _, .nils, .nils, .bool _, .nils, .nils, trivial⟩)
set_option maxRecDepth 100000 in
set_option maxHeartbeats 3200000 in
theorem norm_fa (s : SD) (hw : s.wf 100000) : Fa Tryz.prog 55 [.agg (spc s)] (.agg (spc (normS s))) := by
  have ho := spof_fa s.lo [s.hi] hw.1 (by simpa using hw.2) (by simp)
  refine fa_of_body Tryz.func55 rfl rfl (by simp [Tryz.ntmps55]) fun C hC => ?_
  simp only [initS, Nat.reduceAdd]
  refine xG ?_
  refine xB fun g1 hn_g1=>?_
  refine yA hn_g1 fun g2 hn_g2=>?_
  refine yG (oj hn_g1 hn_g2) ?_
  refine yC (oj hn_g1 hn_g2) (spvalid_fa s ⟨wf_mono hw.1 ?_, wf_mono hw.2 ?_⟩) ?_
  · omega
  · omega
  refine yG (oj hn_g1 hn_g2) ?_
  refine yF (oj hn_g1 hn_g2) (fun hv=>?_) fun hv=>?_
  · have hv' : validS s = false := by simpa using hv
    refine yG (oj hn_g1 hn_g2) ?_
    refine yW (oj hn_g1 hn_g2) ?_
    refine yS (oj hn_g1 hn_g2) ?_
    refine yG (oj hn_g1 hn_g2) ?_
    refine yT hC (oj hn_g1 hn_g2) ?_
    show LeRA _ (.agg [.bool false, .nils, .nils, .bool false, .nils, .nils]) (.agg (spc ⟨rd (nlo s), rd (nhi s)⟩))
    rw [show nlo s = 0 from by unfold nlo; rw [hv']; rfl, show nhi s = 0 from by unfold nhi; rw [hv']; rfl]
    exact zero_sp
  · have hv' : validS s = true := by simpa using hv
    have hle := valid_le hv'
    rw [show mnF s.lo.q [s.hi] = nlo s from by unfold nlo; rw [if_pos hv']; exact min_of_le hle, show mxF s.lo.q [s.hi] = nhi s from by unfold nhi; rw [if_pos hv']; exact max_of_le hle] at ho
    refine yG (oj hn_g1 hn_g2) ?_
    refine aw_buildSlice (xs := [.tmp 8, .tmp 10]) (cells := rdc s.lo ++ rdc s.hi) rfl (zE (oj hn_g1 hn_g2)) rfl (zE (oj hn_g1 hn_g2)) (by refine yS (oj hn_g1 hn_g2) ?_; rfl) rfl (by omega) (by omega) (by intro x hx; simp only [List.mem_cons, List.not_mem_nil, or_false] at hx; rcases hx with rfl | rfl <;> exact ⟨rfl, rfl, rfl⟩) rfl fun g9 hn_g9 => ?_
    replace hn_g9 := Heap.ne_of hn_g9
    dsimp only [Heap.ne] at hn_g9
    refine yS (oj hn_g1 (oj hn_g2 hn_g9)) ?_
    refine aw_frzT (t := 11) (ratsF [s.lo, s.hi]) (zE (oj hn_g1 (oj hn_g2 hn_g9))) (zE (oj hn_g1 (oj hn_g2 hn_g9))) (by omega) (hC g9) (fun q hq => by match q, hq with | 0, _ => rfl | 1, _ => rfl | 2, _ => rfl | 3, _ => rfl | 4, _ => rfl | 5, _ => rfl) rfl (zE (oj hn_g1 (oj hn_g2 hn_g9))) ?_
    refine yS (oj hn_g1 (oj hn_g2 hn_g9)) ?_
    refine yG (oj hn_g1 (oj hn_g2 hn_g9)) ?_
    refine yC (oj hn_g1 (oj hn_g2 hn_g9)) (ho) ?_
    refine yG (oj hn_g1 (oj hn_g2 hn_g9)) ?_
    refine yW (oj hn_g1 (oj hn_g2 hn_g9)) ?_
    refine yS (oj hn_g1 (oj hn_g2 hn_g9)) ?_
    refine yG (oj hn_g1 (oj hn_g2 hn_g9)) ?_
    refine yT hC (oj hn_g1 (oj hn_g2 hn_g9)) ?_
    show LeRA _ (.agg (spc ⟨rd (nlo s), rd (nhi s)⟩)) _
    exact ler_sp rfl
end Go.Proofs.YtcoflhkcpnoaaaaGreatDoor
