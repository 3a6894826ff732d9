/- Texts of one proof, laid one behind the other by a program (merge.py): Tab2, Tab3, Tab4, Bld1, Tab5, Tab6, Tab7, Bld2. -/
import Derived.Test.YtmfmnmkipjpjhaaGreatDoorV20
import Derived.Test.YtmfmnmkipjpjhaaGreatDoorV17
import Derived.Test.YtmfmnmkipjpjhaaGreatDoorV18
set_option linter.unusedSimpArgs false
set_option linter.unusedVariables false
/- decision.Table: Event, level, Kids. -/
namespace Go.Proofs.YtmfmnmkipjpjhaaGreatDoor
open Go.AI Go.PN
attribute [local irreducible] aw Fa Fh DrK
theorem th_ne {gT gU gM : Nat} {og : Option Nat} {o pl : List Int} {ns : List DN} {mm : Mem3} (hnd : (THp gT gU gM og o pl ns mm).keys.Nodup) : (¬ gT = gU ∧ ¬ gU = gT) ∧ (¬ gT = gM ∧ ¬ gM = gT) ∧ (¬ gU = gM ∧ ¬ gM = gU) ∧ ∀ g, og = some g → (¬ gT = g ∧ ¬ g = gT) ∧ (¬ gU = g ∧ ¬ g = gU) ∧ (¬ gM = g ∧ ¬ g = gM) := by
  cases og with
  | none =>
    simp only [THp, TH, gh, Heap.keys, List.append_nil, List.map_cons, List.map_nil, List.nodup_cons, List.mem_cons, List.not_mem_nil, or_false, not_or, not_false_eq_true, List.nodup_nil, and_true] at hnd
    obtain ⟨⟨h1, h2⟩, h3⟩ := hnd
    exact ⟨⟨h1, fun e => h1 e.symm⟩, ⟨h2, fun e => h2 e.symm⟩, ⟨h3, fun e => h3 e.symm⟩, fun g e => by cases e⟩
  | some g' =>
    simp only [THp, TH, gh, Heap.keys, List.cons_append, List.nil_append, List.map_cons, List.map_nil, List.nodup_cons, List.mem_cons, List.not_mem_nil, or_false, not_or, not_false_eq_true, List.nodup_nil, and_true] at hnd
    obtain ⟨⟨h1, h2, h4⟩, ⟨h3, h5⟩, h6⟩ := hnd
    refine ⟨⟨h1, fun e => h1 e.symm⟩, ⟨h2, fun e => h2 e.symm⟩, ⟨h3, fun e => h3 e.symm⟩, fun g e => ?_⟩
    injection e with e
    subst e
    exact ⟨⟨h4, fun e => h4 e.symm⟩, ⟨h5, fun e => h5 e.symm⟩, ⟨h6, fun e => h6 e.symm⟩⟩
/-- The places of the events of an order. -/
def PlOk (o pl : List Int) : Prop := pl.length = o.length ∧ ∀ v : Nat, v < o.length → pl.getD v 0 = placeZ o v
set_option maxRecDepth 100000 in
set_option maxHeartbeats 1600000 in
theorem level_fh (gT gU gM : Nat) (og : Option Nat) (o pl : List Int) (ns : List DN) (mm : Mem3) (r : Int) (hog : og = none → ns.length = 0) (hn : ns.length ≤ 1000000000) (ht : TabOk o ns) (hr : RefOk ns r) (hpl : PlOk o pl) (ho : o.length ≤ 1000) :
    Fh Tryz.prog 171 (THp gT gU gM og o pl ns mm) [.c (.optr gT 0), .c (.int .i64 r)] (fun x h => x = .c (.int .i64 (lvZ o ns r)) ∧ h = THp gT gU gM og o pl ns mm) := by
  unfold RefOk at hr
  refine fh_of_body Tryz.func171 rfl rfl (by simp [Tryz.ntmps171]) fun C hC => ?_
  simp only [initS, Nat.reduceAdd]
  refine aw_nd fun hnd => ?_
  obtain ⟨d1, d2, d3, d4⟩ := th_ne hnd
  unfold THp TH
  simp only [List.cons_append, List.nil_append]
  refine yG (oj d1 (oj d2 d3)) ?_
  refine yF (oj d1 (oj d2 d3)) (fun h1=>?_) fun h1=>?_
  · have h1' := of_decide_eq_true h1
    refine yG (oj d1 (oj d2 d3)) ?_
    refine yU (oj d1 (oj d2 d3)) ?_
    unfold lvZ
    rw [if_pos h1']
    exact ⟨rfl, rfl⟩
  have h1' := of_decide_eq_false h1
  obtain ⟨g, rfl⟩ : ∃ g, og = some g := by
    cases og with
    | none => have := hog rfl; omega
    | some g => exact ⟨g, rfl⟩
  obtain ⟨q1, q2, q3⟩ := d4 g rfl
  have hi : (r - 2).toNat < ns.length := by omega
  obtain ⟨v0, v1, _, _, _, _⟩ := (ht _ hi).nk
  obtain ⟨p1, p2⟩ := hpl
  have hv := p2 (ns.getD (r - 2).toNat dn0).v.toNat (by omega)
  rw [show (((ns.getD (r - 2).toNat dn0).v.toNat : Nat) : Int) = (ns.getD (r - 2).toNat dn0).v from by omega] at hv
  simp only [gs, gh]
  refine yG (oj d1 (oj d2 (oj d3 (oj q1 (oj q2 (oj q3 hv)))))) ?_
  refine aw_dr 16 ty_mixed (by kernel_rfl) ?_
  refine yG (oj d1 (oj d2 (oj d3 (oj q1 (oj q2 (oj q3 hv)))))) ?_
  refine yU (oj d1 (oj d2 (oj d3 (oj q1 (oj q2 (oj q3 hv)))))) ?_
  unfold lvZ
  rw [if_neg h1']
  exact ⟨rfl, rfl⟩
set_option maxRecDepth 100000 in
set_option maxHeartbeats 1600000 in
theorem kids_fh (gT gU gM : Nat) (og : Option Nat) (o pl : List Int) (ns : List DN) (mm : Mem3) (r L : Int) (hog : og = none → ns.length = 0) (hn : ns.length ≤ 1000000000) (ht : TabOk o ns) (hr : RefOk ns r) (hpl : PlOk o pl) (ho : o.length ≤ 1000) (hL : L < o.length) :
    Fh Tryz.prog 172 (THp gT gU gM og o pl ns mm) [.c (.optr gT 0), .c (.int .i64 r), .c (.int .i64 L)] (fun x h => x = .tup [.c (.int .i64 (kidsF o ns r L).1), .c (.int .i64 (kidsF o ns r L).2)] ∧ h = THp gT gU gM og o pl ns mm) := by
  refine fh_of_body Tryz.func172 rfl rfl (by simp [Tryz.ntmps172]) fun C hC => ?_
  simp only [initS, Nat.reduceAdd]
  refine xG ?_
  refine aw_callh (hr := []) (level_fh gT gU gM og o pl ns mm r hog hn ht hr hpl ho) rfl rfl rfl (by rw [List.append_nil]) eL ?_
  rintro _ _ ⟨rfl, rfl⟩ _
  rw [List.append_nil]
  refine xS ?_
  refine xG ?_
  refine xF (fun h1=>?_) fun h1=>?_
  · refine xG ?_
    refine xU ?_
    unfold kidsF
    rw [if_pos (by simpa using h1)]
    exact ⟨rfl, rfl⟩
  have h1' : lvZ o ns r = L := by simpa using h1
  have hr2 : 2 ≤ r := by
    refine Classical.byContradiction fun hc => ?_
    unfold lvZ at h1'
    rw [if_pos (by omega)] at h1'
    omega
  unfold RefOk at hr
  refine aw_nd fun hnd => ?_
  obtain ⟨d1, d2, d3, d4⟩ := th_ne hnd
  obtain ⟨g, rfl⟩ : ∃ g, og = some g := by
    cases og with
    | none => have := hog rfl; omega
    | some g => exact ⟨g, rfl⟩
  obtain ⟨q1, q2, q3⟩ := d4 g rfl
  unfold THp TH
  simp only [gs, gh, List.cons_append, List.nil_append]
  refine yG (oj d1 (oj d2 (oj d3 (oj q1 (oj q2 q3))))) ?_
  refine yA (oj d1 (oj d2 (oj d3 (oj q1 (oj q2 q3))))) fun g8 hn_g8=>?_
  refine yG (oj d1 (oj d2 (oj d3 (oj q1 (oj q2 (oj q3 hn_g8)))))) ?_
  refine yW (oj d1 (oj d2 (oj d3 (oj q1 (oj q2 (oj q3 hn_g8)))))) ?_
  refine yS (oj d1 (oj d2 (oj d3 (oj q1 (oj q2 (oj q3 hn_g8)))))) ?_
  refine yG (oj d1 (oj d2 (oj d3 (oj q1 (oj q2 (oj q3 hn_g8)))))) ?_
  refine aw_dr 6 ty_mixed (by kernel_rfl) ?_
  refine yG (oj d1 (oj d2 (oj d3 (oj q1 (oj q2 (oj q3 hn_g8)))))) ?_
  refine aw_keep [(6, .c (.int .i64 (ns.getD (r - 2).toNat dn0).lo)), (7, .c (.int .i64 (ns.getD (r - 2).toNat dn0).hi))] (THp gT gU gM (some g) o pl ns mm) (zB (oj d1 (oj d2 (oj d3 (oj q1 (oj q2 (oj q3 hn_g8))))))) (List.Sublist.cons _ (List.Sublist.refl _)) ?_
  refine yU (oj d1 (oj d2 (oj d3 (oj q1 (oj q2 (oj q3 hn_g8)))))) ?_
  unfold kidsF
  rw [if_neg (by simpa using h1')]
  exact ⟨rfl, rfl⟩
set_option maxHeartbeats 800000 in
theorem event_fh (gT gU gM : Nat) (og : Option Nat) (o pl : List Int) (ns : List DN) (mm : Mem3) (v : Int) (hog : og = none → ns.length = 0) (hn : ns.length ≤ 1000000000) :
    Fh Tryz.prog 105 (THp gT gU gM og o pl ns mm) [.c (.optr gT 0), .c (.int .i64 v)]
      (fun r h => ∃ og', (og' = none → (mkF ns v 0 1).1.length = 0) ∧ r = .c (.int .i64 (mkF ns v 0 1).2) ∧ h = THp gT gU gM og' o pl (mkF ns v 0 1).1 mm) := by
  refine fh_of_body Tryz.func105 rfl rfl (by simp [Tryz.ntmps105]) fun C hC => ?_
  simp only [initS, Nat.reduceAdd]
  refine xG ?_
  refine aw_callh (hr := []) (make_fh gT gU gM og o pl ns mm v 0 1 hog hn) rfl rfl rfl (by rw [List.append_nil]) eL ?_
  rintro _ _ ⟨og', h1, rfl, rfl⟩ _
  rw [List.append_nil]
  refine xS ?_
  refine xG ?_
  refine xU ?_
  exact ⟨og', h1, rfl, rfl⟩
end Go.Proofs.YtmfmnmkipjpjhaaGreatDoor

/- decision.Table: Choose. -/
namespace Go.Proofs.YtmfmnmkipjpjhaaGreatDoor
open Go.AI Go.PN
attribute [local irreducible] aw Fa Fh DrK
theorem ty_k3 : KeyOk Tryz.prog 196 key3 := by
  obtain ⟨_, inf, hi, hsz, _⟩ := tElem_spec (show tElem Tryz.prog 70 = some (3, 1, 8) from by kernel_rfl)
  exact key3_ok Tryz.underlying196 Tryz.underlying3 hi hsz
theorem key3_rep {c a b : Int} : ∀ (S : Bool → Nat → Prop) (w : World) (u : Value), Rep S w (.agg [.int .i64 c, .int .i64 a, .int .i64 b]) u → u = key3 (c, a, b) := by
  rintro S w u ⟨us, rfl, h⟩
  match us, h with
  | [x, y, z], ⟨h1, h2, h3, _⟩ =>
    have h1 : x = _ := h1
    have h2 : y = _ := h2
    have h3 : z = _ := h3
    rw [h1, h2, h3]; rfl
/-- The order of a table. -/
structure OdOk (o pl : List Int) : Prop where
  perm : Perm0 o
  pl : PlOk o pl
  l24 : o.length ≤ 24
theorem OdOk.mem {o pl : List Int} (h : OdOk o pl) : ∀ v : Int, 0 ≤ v → v < o.length → v ∈ o := fun v h0 h1 => by
  have := h.perm.all (j := v.toNat) (by omega)
  rwa [show ((v.toNat : Nat) : Int) = v from by omega] at this
theorem OdOk.at {o pl : List Int} (h : OdOk o pl) : ∀ i : Nat, i < o.length → 0 ≤ o.getD i 0 ∧ o.getD i 0 < o.length ∧ placeZ o (o.getD i 0) = i := fun i hi => by
  have := h.perm.range (o.getD i 0) (by rw [getDZ hi]; exact List.getElem_mem hi)
  exact ⟨this.1, this.2, place_get h.perm.nodup hi⟩
/-- What Choose does with k levels left. -/
def ChooseOk (gT gU gM : Nat) (o pl : List Int) (k : Nat) : Prop := ∀ (og : Option Nat) (ns : List DN) (mm : Mem3) (c a b : Int), (og = none → ns.length = 0) → ns.length + 2 ^ k ≤ 1000000000 → TabOk o ns → MemOk o ns mm → RefOk ns c → RefOk ns a → RefOk ns b → o.length + 1 ≤ lv3 o ns (c, a, b) + k →
    Fh Tryz.prog 166 (THp gT gU gM og o pl ns mm) [.c (.optr gT 0), .c (.int .i64 c), .c (.int .i64 a), .c (.int .i64 b)]
      (fun x h => ∃ og' ns' mm' r, (og' = none → ns'.length = 0) ∧ ChP o ns mm c a b (lv3 o ns (c, a, b)) k ns' mm' r ∧ x = .c (.int .i64 r) ∧ h = THp gT gU gM og' o pl ns' mm')
theorem mmL_push (mm : Mem3) (k : Int × Int × Int) (r : Int) : mmL mm ++ [(k, .int .i64 r)] = mmL (mm ++ [(k, r)]) := by simp [mmL]
set_option maxRecDepth 100000 in
set_option maxHeartbeats 6400000 in
theorem choose_ok (gT gU gM : Nat) (o pl : List Int) (ho : OdOk o pl) : ∀ k, ChooseOk gT gU gM o pl k := by
  intro k
  induction k with
  | zero =>
    intro og ns mm c a b _ _ _ _ _ _ _ hk
    have h1 := lv_le (o := o) (ns := ns) (r := c)
    unfold lv3 at hk
    simp only at hk
    omega
  | succ k ih =>
    intro og ns mm c a b hog hn ht hm hc ha hb hk
    have l24 := ho.l24
    have lc := lv_le (o := o) (ns := ns) (r := c)
    have hp2 : 2 ^ (k + 1) = 2 ^ k + 2 ^ k := by rw [Nat.pow_succ]; omega
    have hp1 : 0 < 2 ^ k := Nat.pow_pos (by omega)
    have hL : lv3 o ns (c, a, b) ≤ lvZ o ns c ∧ lv3 o ns (c, a, b) ≤ lvZ o ns a ∧ lv3 o ns (c, a, b) ≤ lvZ o ns b := by
      unfold lv3
      simp only
      omega
    have hlen := lenCV_gs (s := 3) hog
    refine fh_of_body Tryz.func166 rfl rfl (by simp [Tryz.ntmps166]) fun C hC => ?_
    simp only [initS, Nat.reduceAdd]
    refine xI ?_
    refine aw_cut (fun _ : Unit => [(0, .c (.optr gT 0)), (1, .c (.int .i64 c)), (2, .c (.int .i64 a)), (3, .c (.int .i64 b))]) (fun _ => THp gT gU gM og o pl ns mm) (fun _ => (¬ c = 1 ∧ ¬ a = b) ∧ ¬ c = 0 ∧ ¬ (a = 1 ∧ b = 0)) ?_ ?_
    · refine xG ?_
      refine aw_split 25 eE (fun hb => ?_) (fun hb => ?_) <;> refine xS ?_
      · refine xG ?_
        have hb' : c = 1 := by simpa using hb
        refine xP ?_
        refine xG ?_
        refine xU ?_
        exact ⟨og, ns, mm, a, hog, ChP.same ht hm ha hL.2.1 (fun s => by rw [hb', evalD_leaf (r := 1) (by omega)]; rfl), rfl, rfl⟩
      · have h1 : ¬ c = 1 := by simpa using hb
        refine xG ?_
        refine xF (fun h2=>?_) fun h2=>?_
        · have h2' : a = b := by simpa using h2
          refine xG ?_
          refine xU ?_
          exact ⟨og, ns, mm, a, hog, ChP.same ht hm ha hL.2.1 (fun s => by rw [h2']; split <;> rfl), rfl, rfl⟩
        · have h2' : ¬ a = b := by simpa using h2
          refine xG ?_
          refine xF (fun h3=>?_) fun h3=>?_
          · have h3' : c = 0 := by simpa using h3
            refine xG ?_
            refine xU ?_
            exact ⟨og, ns, mm, b, hog, ChP.same ht hm ‹RefOk ns b› hL.2.2 (fun s => by rw [h3', evalD_leaf (r := 0) (by omega)]; rfl), rfl, rfl⟩
          · have h3' : ¬ c = 0 := by simpa using h3
            refine xG ?_
            refine aw_split 38 eE (fun h4 => ?_) (fun h4 => ?_) <;> refine xS ?_
            · have h4' : a = 1 := by simpa using h4
              refine xG ?_
              refine xF (fun h5=>?_) fun h5=>?_
              · have h5' : b = 0 := by simpa using h5
                refine xG ?_
                refine xU ?_
                exact ⟨og, ns, mm, c, hog, ChP.same ht hm hc hL.1 (fun s => by rw [h4', h5', evalD_leaf (r := 1) (by omega), evalD_leaf (r := 0) (by omega)]; cases evalD ns s c <;> rfl), rfl, rfl⟩
              · have h5' : ¬ b = 0 := by simpa using h5
                refine xG ?_
                exact aw_stop ⟨(), eB, zZ, ⟨h1, h2'⟩, h3', fun x => h5' x.2⟩
            · have h4' : ¬ a = 1 := by simpa using h4
              refine xG ?_
              refine xN ?_
              refine xG ?_
              exact aw_stop ⟨(), eB, zZ, ⟨h1, h2'⟩, h3', fun x => h4' x.1⟩
    rintro _ ⟨⟨n1, n2⟩, n3, n4⟩
    have hc2 : 2 ≤ c := by unfold RefOk at hc; omega
    have hclt := lv_lt ht hc hc2
    have g0 := lv3_nonneg ho.mem ht hc
    have g1 := lv3_nonneg ho.mem ht ha
    have g2 := lv3_nonneg ho.mem ht hb
    obtain ⟨L, hLe⟩ : ∃ L, lv3 o ns (c, a, b) = L := ⟨_, rfl⟩
    rw [hLe] at hL hk ⊢
    have hL0 : 0 ≤ L := by rw [← hLe]; unfold lv3; simp only; omega
    refine aw_nd fun hnd => ?_
    obtain ⟨d1, d2, d3, d4⟩ := th_ne hnd
    unfold THp TH
    simp only [List.cons_append, List.nil_append]
    refine yG (oj d1 (oj d2 d3)) ?_
    refine aw_pure rfl (buildArr_ok Tryz.underlying196 (el := 3) (n := 3) (s := 1) (ag := false) (z := [.int .i64 0, .int .i64 0, .int .i64 0]) (out := [.int .i64 c, .int .i64 a, .int .i64 b]) (by kernel_rfl) (by kernel_rfl) (by rfl) (by decide) (by rfl)) rfl rfl ?_
    refine yS (oj d1 (oj d2 d3)) ?_
    refine yG (oj d1 (oj d2 d3)) ?_
    refine yA (oj d1 (oj d2 d3)) fun g9 hn_g9=>?_
    refine yG (oj d1 (oj d2 (oj d3 hn_g9))) ?_
    refine yW (oj d1 (oj d2 (oj d3 hn_g9))) ?_
    refine yS (oj d1 (oj d2 (oj d3 hn_g9))) ?_
    refine yG (oj d1 (oj d2 (oj d3 hn_g9))) ?_
    refine aw_dr 11 ty_mixed (by kernel_rfl) ?_
    refine yG (oj d1 (oj d2 (oj d3 hn_g9))) ?_
    refine drk_lookup2 (a := (c, a, b)) (kv := mmL mm) (Kf := key3) (kt := 196) (et := 3) rfl rfl rfl (by kernel_rfl) ty_k3 ty_iz (zE (oj d1 (oj d2 (oj d3 hn_g9)))) (zE (oj d1 (oj d2 (oj d3 hn_g9)))) (zE (oj d1 (oj d2 (oj d3 hn_g9)))) key3_rep ?_
    refine yS (oj d1 (oj d2 (oj d3 hn_g9))) ?_
    rw [mm_get]
    cases hf : memGet (c, a, b) mm with
    | some r =>
      try simp only [Option.map_some, Option.getD_some, Option.isSome_some, cstC]
      refine yG (oj d1 (oj d2 (oj d3 hn_g9))) ?_
      refine yP (oj d1 (oj d2 (oj d3 hn_g9))) ?_
      refine yG (oj d1 (oj d2 (oj d3 hn_g9))) ?_
      refine aw_keep [(8, .c (.int .i64 r))] (THp gT gU gM og o pl ns mm) (zB (oj d1 (oj d2 (oj d3 hn_g9)))) (List.Sublist.cons _ (List.Sublist.refl _)) ?_
      refine yU (oj d1 (oj d2 (oj d3 hn_g9))) ?_
      have me := hm _ (mem_mem hf)
      exact ⟨og, ns, mm, r, hog, ChP.same ht hm me.r (by rw [← hLe]; exact me.lv) me.sem, rfl, rfl⟩
    | none =>
      try simp only [Option.map_none, Option.getD_none, Option.isSome_none, cstC]
      refine yG (oj d1 (oj d2 (oj d3 hn_g9))) ?_
      refine yN (oj d1 (oj d2 (oj d3 hn_g9))) ?_
      refine yG (oj d1 (oj d2 (oj d3 hn_g9))) ?_
      refine aw_callh (hc := THp gT gU gM og o pl ns mm) (hr := [(g9, .cells 196 3 (ofL [.int .i64 c, .int .i64 a, .int .i64 b]))]) (level_fh gT gU gM og o pl ns mm c hog (by omega) ht hc ho.pl (by omega)) rfl rfl rfl (List.perm_append_singleton _ _).symm (zL (oj d1 (oj d2 (oj d3 hn_g9)))) ?_
      rintro _ _ ⟨rfl, rfl⟩ _
      refine yS (oj d1 (oj d2 (oj d3 hn_g9))) ?_
      refine yG (oj d1 (oj d2 (oj d3 hn_g9))) ?_
      refine aw_callh (level_fh gT gU gM og o pl ns mm a hog (by omega) ht ha ho.pl (by omega)) rfl rfl rfl (.refl _) (zL (oj d1 (oj d2 (oj d3 hn_g9)))) ?_
      rintro _ _ ⟨rfl, rfl⟩ _
      refine yS (oj d1 (oj d2 (oj d3 hn_g9))) ?_
      refine yG (oj d1 (oj d2 (oj d3 hn_g9))) ?_
      refine aw_callh (level_fh gT gU gM og o pl ns mm b hog (by omega) ht hb ho.pl (by omega)) rfl rfl rfl (.refl _) (zL (oj d1 (oj d2 (oj d3 hn_g9)))) ?_
      rintro _ _ ⟨rfl, rfl⟩ _
      refine yS (oj d1 (oj d2 (oj d3 hn_g9))) ?_
      refine aw_min3 (a := lvZ o ns c) (b := lvZ o ns a) (c := lvZ o ns b) rfl rfl rfl (zE (oj d1 (oj d2 (oj d3 hn_g9)))) (zE (oj d1 (oj d2 (oj d3 hn_g9)))) (zE (oj d1 (oj d2 (oj d3 hn_g9)))) ?_
      have hmin : min (lvZ o ns c) (min (lvZ o ns a) (lvZ o ns b)) = L := hLe
      rw [hmin]
      refine yS (oj d1 (oj d2 (oj d3 hn_g9))) ?_
      refine yG (oj d1 (oj d2 (oj d3 hn_g9))) ?_
      refine aw_callh (kids_fh gT gU gM og o pl ns mm c L hog (by omega) ht hc ho.pl (by omega) (by omega)) rfl rfl rfl (.refl _) (zL (oj d1 (oj d2 (oj d3 hn_g9)))) ?_
      rintro _ _ ⟨rfl, rfl⟩ _
      refine yS (oj d1 (oj d2 (oj d3 hn_g9))) ?_
      refine yG (oj d1 (oj d2 (oj d3 hn_g9))) ?_
      refine aw_callh (kids_fh gT gU gM og o pl ns mm a L hog (by omega) ht ha ho.pl (by omega) (by omega)) rfl rfl rfl (.refl _) (zL (oj d1 (oj d2 (oj d3 hn_g9)))) ?_
      rintro _ _ ⟨rfl, rfl⟩ _
      refine yS (oj d1 (oj d2 (oj d3 hn_g9))) ?_
      refine yG (oj d1 (oj d2 (oj d3 hn_g9))) ?_
      refine aw_callh (kids_fh gT gU gM og o pl ns mm b L hog (by omega) ht hb ho.pl (by omega) (by omega)) rfl rfl rfl (.refl _) (zL (oj d1 (oj d2 (oj d3 hn_g9)))) ?_
      rintro _ _ ⟨rfl, rfl⟩ _
      refine yS (oj d1 (oj d2 (oj d3 hn_g9))) ?_
      refine yG (oj d1 (oj d2 (oj d3 hn_g9))) ?_
      obtain ⟨c0, c1, c2, c3, _⟩ := kids_ok ht ho.mem hc hL0 (by omega) hL.1
      obtain ⟨a0, a1, a2, a3, _⟩ := kids_ok ht ho.mem ha hL0 (by omega) hL.2.1
      obtain ⟨b0, b1, b2, b3, _⟩ := kids_ok ht ho.mem hb hL0 (by omega) hL.2.2
      have q0 : L + 1 ≤ lv3 o ns ((kidsF o ns c L).1, (kidsF o ns a L).1, (kidsF o ns b L).1) := by unfold lv3; simp only; omega
      have q1 : L + 1 ≤ lv3 o ns ((kidsF o ns c L).2, (kidsF o ns a L).2, (kidsF o ns b L).2) := by unfold lv3; simp only; omega
      refine aw_callh (ih og ns mm _ _ _ hog (by omega) ht hm c0 a0 b0 (by omega)) rfl rfl rfl (.refl _) (zL (oj d1 (oj d2 (oj d3 hn_g9)))) ?_
      rintro _ _ ⟨og1, ns1, mm1, lo, hog1, p1, rfl, rfl⟩ _
      refine yS (oj d1 (oj d2 (oj d3 hn_g9))) ?_
      refine yG (oj d1 (oj d2 (oj d3 hn_g9))) ?_
      have w1 := p1.lat.len
      have hk2 : lv3 o ns1 ((kidsF o ns c L).2, (kidsF o ns a L).2, (kidsF o ns b L).2) = lv3 o ns ((kidsF o ns c L).2, (kidsF o ns a L).2, (kidsF o ns b L).2) := p1.lat.lv3 c1 a1 b1
      refine aw_callh (ih og1 ns1 mm1 _ _ _ hog1 (by omega) p1.lat.tab p1.mem (p1.lat.ref c1) (p1.lat.ref a1) (p1.lat.ref b1) (by omega)) rfl rfl rfl (.refl _) (zL (oj d1 (oj d2 (oj d3 hn_g9)))) ?_
      rintro _ _ ⟨og2, ns2, mm2, hi, hog2, p2, rfl, rfl⟩ _
      have w2 := p2.lat.len
      rw [hk2] at p2
      have st := ChP.step ho.mem ho.at ht hc ha hb hL0 (by omega) hLe (p1.mono q0) (p2.mono q1)
      have habs : ∀ e ∈ mm2, e.1 ≠ (c, a, b) := by
        intro e he ec
        have hl12 : ∀ {n}, Later o ns ns1 n → lv3 o ns1 (c, a, b) = L := fun h => by rw [h.lv3 (k := (c, a, b)) hc ha hb]; exact hLe
        rcases p2.mnew e he with h | h
        · rcases p1.mnew e h with h' | h'
          · exact mem_none hf e h' ec
          · rw [ec, hl12 p1.lat] at h'
            omega
        · rw [ec, p2.lat.lv3 (k := (c, a, b)) (p1.lat.ref hc) (p1.lat.ref ha) (p1.lat.ref hb), hl12 p1.lat] at h
          omega
      refine yS (oj d1 (oj d2 (oj d3 hn_g9))) ?_
      refine aw_perm (List.perm_append_singleton _ _) ?_
      refine aw_nd fun hnd2 => ?_
      have hnd3 := (List.nodup_cons.1 hnd2).2
      obtain ⟨e1, e2, e3, e4⟩ := th_ne hnd3
      have e9 := (List.nodup_cons.1 hnd2).1
      replace e9 := Heap.ne_of e9
      have hlen2 := lenCV_gs (s := 3) hog2
      unfold THp TH at e9 ⊢
      simp only [List.cons_append, List.nil_append] at e9 ⊢
      dsimp only [Heap.ne, gh] at e9
      refine yG (oj d1 (oj d2 (oj d3 (oj hn_g9 e9)))) ?_
      refine aw_callh (hc := THp gT gU gM og2 o pl ns2 mm2) (hr := [(g9, .cells 196 3 (ofL [.int .i64 c, .int .i64 a, .int .i64 b]))]) (make_fh gT gU gM og2 o pl ns2 mm2 (o.getD L.toNat 0) lo hi hog2 (by omega)) rfl rfl rfl (List.perm_append_singleton _ _).symm (zL (oj d1 (oj d2 (oj d3 (oj hn_g9 e9))))) ?_
      rintro _ _ ⟨og3, hog3, rfl, rfl⟩ _
      refine yS (oj d1 (oj d2 (oj d3 (oj hn_g9 e9)))) ?_
      refine aw_perm (List.perm_append_singleton _ _) ?_
      unfold THp TH
      simp only [List.cons_append, List.nil_append]
      refine yG (oj d1 (oj d2 (oj d3 (oj hn_g9 e9)))) ?_
      refine aw_dr 6 ty_mixed (by kernel_rfl) ?_
      refine yG (oj d1 (oj d2 (oj d3 (oj hn_g9 e9)))) ?_
      refine aw_mapNew (a := (c, a, b)) (kv := mmL mm2) (Kf := key3) (v := .int .i64 (mkF ns2 (o.getD L.toNat 0) lo hi).2) rfl rfl rfl (kt := 196) (et := 3) (by kernel_rfl) ty_k3 (zE (oj d1 (oj d2 (oj d3 (oj hn_g9 e9))))) (zE (oj d1 (oj d2 (oj d3 (oj hn_g9 e9))))) (zE (oj d1 (oj d2 (oj d3 (oj hn_g9 e9))))) key3_rep (cv := .c (.int .i64 (mkF ns2 (o.getD L.toNat 0) lo hi).2)) (zE (oj d1 (oj d2 (oj d3 (oj hn_g9 e9))))) (fun S w u h => h) (by rw [mm_get, mem_none' habs]; rfl) (zE (oj d1 (oj d2 (oj d3 (oj hn_g9 e9))))) ?_
      rw [mmL_push]
      refine yS (oj d1 (oj d2 (oj d3 (oj hn_g9 e9)))) ?_
      refine yG (oj d1 (oj d2 (oj d3 (oj hn_g9 e9)))) ?_
      refine aw_keep [(8, .c (.int .i64 (mkF ns2 (o.getD L.toNat 0) lo hi).2))] (THp gT gU gM og3 o pl (mkF ns2 (o.getD L.toNat 0) lo hi).1 (mm2 ++ [((c, a, b), (mkF ns2 (o.getD L.toNat 0) lo hi).2)])) (zB (oj d1 (oj d2 (oj d3 (oj hn_g9 e9))))) (List.Sublist.cons _ (List.Sublist.refl _)) ?_
      refine yU (oj d1 (oj d2 (oj d3 (oj hn_g9 e9)))) ?_
      exact ⟨og3, _, _, _, hog3, st, rfl, rfl⟩
/-- A table in order. -/
structure TS (o : List Int) (og : Option Nat) (ns : List DN) (mm : Mem3) : Prop where
  og : og = none → ns.length = 0
  tab : TabOk o ns
  mem : MemOk o ns mm
/-- What an operation of the table hands back: a reference whose value in a state s is f s. -/
def OpQ (gT gU gM : Nat) (o pl : List Int) (ns : List DN) (n : Nat) (f : Nat → Bool) (x : AV) (h : Heap) : Prop := ∃ og' ns' mm' r, TS o og' ns' mm' ∧ Later o ns ns' n ∧ RefOk ns' r ∧ (∀ s, evalD ns' s r = f s) ∧ x = .c (.int .i64 r) ∧ h = THp gT gU gM og' o pl ns' mm'
theorem choose_fh (gT gU gM : Nat) {o pl : List Int} (ho : OdOk o pl) {og : Option Nat} {ns : List DN} {mm : Mem3} (hs : TS o og ns mm) (hn : ns.length + 2 ^ (o.length + 1) ≤ 1000000000) {c a b : Int} (hc : RefOk ns c) (ha : RefOk ns a) (hb : RefOk ns b) :
    Fh Tryz.prog 166 (THp gT gU gM og o pl ns mm) [.c (.optr gT 0), .c (.int .i64 c), .c (.int .i64 a), .c (.int .i64 b)] (OpQ gT gU gM o pl ns (2 ^ (o.length + 1) - 1) fun s => if evalD ns s c then evalD ns s a else evalD ns s b) := by
  have h1 := lv3_nonneg ho.mem hs.tab hc
  have h2 := lv3_nonneg ho.mem hs.tab ha
  have h3 := lv3_nonneg ho.mem hs.tab hb
  have := choose_ok gT gU gM o pl ho (o.length + 1) og ns mm c a b hs.og hn hs.tab hs.mem hc ha hb (by unfold lv3; simp only; omega)
  refine this.mono ?_
  rintro x h ⟨og', ns', mm', r, e1, p, e2, e3⟩
  exact ⟨og', ns', mm', r, ⟨e1, p.lat.tab, p.mem⟩, p.lat, p.ref, p.sem, e2, e3⟩
end Go.Proofs.YtmfmnmkipjpjhaaGreatDoor

/- decision.Table: Not, And, Or, Xor, Event. -/
namespace Go.Proofs.YtmfmnmkipjpjhaaGreatDoor
open Go.AI Go.PN
attribute [local irreducible] aw Fa Fh DrK
theorem ref0 {ns : List DN} : RefOk ns 0 := ⟨by omega, by omega⟩
theorem ref1 {ns : List DN} : RefOk ns 1 := ⟨by omega, by omega⟩
theorem ev0 {ns : List DN} {s : Nat} : evalD ns s 0 = false := by rw [evalD_leaf (by omega)]; rfl
theorem ev1 {ns : List DN} {s : Nat} : evalD ns s 1 = true := by rw [evalD_leaf (by omega)]; rfl
theorem tnot_fh (gT gU gM : Nat) {o pl : List Int} (ho : OdOk o pl) {og : Option Nat} {ns : List DN} {mm : Mem3} (hs : TS o og ns mm) (hn : ns.length + 2 ^ (o.length + 1) ≤ 1000000000) {a : Int} (ha : RefOk ns a) :
    Fh Tryz.prog 139 (THp gT gU gM og o pl ns mm) [.c (.optr gT 0), .c (.int .i64 a)] (OpQ gT gU gM o pl ns (2 ^ (o.length + 1) - 1) fun s => !evalD ns s a) := by
  refine fh_of_body Tryz.func139 rfl rfl (by simp [Tryz.ntmps139]) fun C hC => ?_
  simp only [initS, Nat.reduceAdd]
  refine xG ?_
  refine aw_callh (hr := []) (choose_fh gT gU gM ho hs hn ha ref0 ref1) rfl rfl rfl (by rw [List.append_nil]) eL ?_
  rintro _ _ ⟨og', ns', mm', r, e1, e2, e3, e4, rfl, rfl⟩ _
  rw [List.append_nil]
  refine xS ?_
  refine xG ?_
  refine xU ?_
  exact ⟨og', ns', mm', r, e1, e2, e3, fun s => by rw [e4]; dsimp only; rw [ev0, ev1]; cases evalD ns s a <;> rfl, rfl, rfl⟩
theorem tand_fh (gT gU gM : Nat) {o pl : List Int} (ho : OdOk o pl) {og : Option Nat} {ns : List DN} {mm : Mem3} (hs : TS o og ns mm) (hn : ns.length + 2 ^ (o.length + 1) ≤ 1000000000) {a b : Int} (ha : RefOk ns a) (hb : RefOk ns b) :
    Fh Tryz.prog 141 (THp gT gU gM og o pl ns mm) [.c (.optr gT 0), .c (.int .i64 a), .c (.int .i64 b)] (OpQ gT gU gM o pl ns (2 ^ (o.length + 1) - 1) fun s => evalD ns s a && evalD ns s b) := by
  refine fh_of_body Tryz.func141 rfl rfl (by simp [Tryz.ntmps141]) fun C hC => ?_
  simp only [initS, Nat.reduceAdd]
  refine xG ?_
  refine aw_callh (hr := []) (choose_fh gT gU gM ho hs hn ha hb ref0) rfl rfl rfl (by rw [List.append_nil]) eL ?_
  rintro _ _ ⟨og', ns', mm', r, e1, e2, e3, e4, rfl, rfl⟩ _
  rw [List.append_nil]
  refine xS ?_
  refine xG ?_
  refine xU ?_
  exact ⟨og', ns', mm', r, e1, e2, e3, fun s => by rw [e4]; dsimp only; rw [ev0]; cases evalD ns s a <;> rfl, rfl, rfl⟩
theorem tor_fh (gT gU gM : Nat) {o pl : List Int} (ho : OdOk o pl) {og : Option Nat} {ns : List DN} {mm : Mem3} (hs : TS o og ns mm) (hn : ns.length + 2 ^ (o.length + 1) ≤ 1000000000) {a b : Int} (ha : RefOk ns a) (hb : RefOk ns b) :
    Fh Tryz.prog 142 (THp gT gU gM og o pl ns mm) [.c (.optr gT 0), .c (.int .i64 a), .c (.int .i64 b)] (OpQ gT gU gM o pl ns (2 ^ (o.length + 1) - 1) fun s => evalD ns s a || evalD ns s b) := by
  refine fh_of_body Tryz.func142 rfl rfl (by simp [Tryz.ntmps142]) fun C hC => ?_
  simp only [initS, Nat.reduceAdd]
  refine xG ?_
  refine aw_callh (hr := []) (choose_fh gT gU gM ho hs hn ha ref1 hb) rfl rfl rfl (by rw [List.append_nil]) eL ?_
  rintro _ _ ⟨og', ns', mm', r, e1, e2, e3, e4, rfl, rfl⟩ _
  rw [List.append_nil]
  refine xS ?_
  refine xG ?_
  refine xU ?_
  exact ⟨og', ns', mm', r, e1, e2, e3, fun s => by rw [e4]; dsimp only; rw [ev1]; cases evalD ns s a <;> rfl, rfl, rfl⟩
theorem txor_fh (gT gU gM : Nat) {o pl : List Int} (ho : OdOk o pl) {og : Option Nat} {ns : List DN} {mm : Mem3} (hs : TS o og ns mm) (hn : ns.length + 2 ^ (o.length + 1) + 2 ^ (o.length + 1) ≤ 1000000000) {a b : Int} (ha : RefOk ns a) (hb : RefOk ns b) :
    Fh Tryz.prog 143 (THp gT gU gM og o pl ns mm) [.c (.optr gT 0), .c (.int .i64 a), .c (.int .i64 b)] (OpQ gT gU gM o pl ns (2 ^ (o.length + 1) + 2 ^ (o.length + 1)) fun s => evalD ns s a != evalD ns s b) := by
  have hB : 0 < 2 ^ (o.length + 1) := Nat.pow_pos (by omega)
  refine fh_of_body Tryz.func143 rfl rfl (by simp [Tryz.ntmps143]) fun C hC => ?_
  simp only [initS, Nat.reduceAdd]
  refine xG ?_
  refine aw_callh (hr := []) (tnot_fh gT gU gM ho hs (by omega) hb) rfl rfl rfl (by rw [List.append_nil]) eL ?_
  rintro _ _ ⟨og1, ns1, mm1, r1, e1, e2, e3, e4, rfl, rfl⟩ _
  rw [List.append_nil]
  have hl := e2.len
  refine xS ?_
  refine xG ?_
  refine aw_callh (hr := []) (choose_fh gT gU gM ho e1 (by omega) (e2.ref ha) e3 (e2.ref hb)) rfl rfl rfl (by rw [List.append_nil]) eL ?_
  rintro _ _ ⟨og', ns', mm', r, f1, f2, f3, f4, rfl, rfl⟩ _
  rw [List.append_nil]
  refine xS ?_
  refine xG ?_
  refine xU ?_
  exact ⟨og', ns', mm', r, f1, e2.trans f2 (by omega), f3, fun s => by rw [f4]; dsimp only; rw [e4]; dsimp only; rw [e2.eval hs.tab ha, e2.eval hs.tab hb]; cases evalD ns s a <;> cases evalD ns s b <;> rfl, rfl, rfl⟩
theorem tevent_fh (gT gU gM : Nat) {o pl : List Int} {og : Option Nat} {ns : List DN} {mm : Mem3} (hs : TS o og ns mm) (hn : ns.length ≤ 1000000000) {v : Int} (v0 : 0 ≤ v) (v1 : v < o.length) :
    Fh Tryz.prog 105 (THp gT gU gM og o pl ns mm) [.c (.optr gT 0), .c (.int .i64 v)] (OpQ gT gU gM o pl ns 1 fun s => s.testBit v.toNat) := by
  refine (event_fh gT gU gM og o pl ns mm v hs.og hn).mono ?_
  rintro x h ⟨og', h1, h2, h3⟩
  have hlv : ∀ r : Int, r < 2 → placeZ o v < lvZ o ns r := fun r hr => by
    unfold lvZ; rw [if_pos hr]; exact place_lt
  obtain ⟨m1, m2, m3, m4⟩ := mk_ok hs.tab v0 v1 ref0 ref1 (hlv 0 (by omega)) (hlv 1 (by omega))
  refine ⟨og', _, _, _, ⟨h1, m1.tab, hs.mem.later m1 hs.tab⟩, m1, m2, fun s => ?_, h2, h3⟩
  rw [m4, ev0, ev1]
  dsimp only
  cases s.testBit v.toNat <;> rfl
end Go.Proofs.YtmfmnmkipjpjhaaGreatDoor

/- diagram.join. -/
namespace Go.Proofs.YtmfmnmkipjpjhaaGreatDoor
open Go.AI Go.PN
attribute [local irreducible] aw Fa Fh DrK
/-- An operation of two references, as join takes it. -/
def OpOk (f : FuncId) (g : Bool → Bool → Bool) : Prop := ∀ (gT gU gM : Nat) {o pl : List Int} (_ : OdOk o pl) {og : Option Nat} {ns : List DN} {mm : Mem3} (_ : TS o og ns mm) (_ : ns.length + 2 ^ (o.length + 2) ≤ 1000000000) {a b : Int} (_ : RefOk ns a) (_ : RefOk ns b),
  Fh Tryz.prog f (THp gT gU gM og o pl ns mm) [.c (.optr gT 0), .c (.int .i64 a), .c (.int .i64 b)] (OpQ gT gU gM o pl ns (2 ^ (o.length + 2)) fun s => g (evalD ns s a) (evalD ns s b))
theorem OpQ.more {gT gU gM : Nat} {o pl : List Int} {ns : List DN} {n m : Nat} {f : Nat → Bool} (h : n ≤ m) {x : AV} {hp : Heap} : OpQ gT gU gM o pl ns n f x hp → OpQ gT gU gM o pl ns m f x hp := by
  rintro ⟨og', ns', mm', r, h1, h2, h3⟩
  exact ⟨og', ns', mm', r, h1, ⟨h2.tab, h2.pre, by have := h2.len; omega⟩, h3⟩
theorem and_opok : OpOk 141 fun a b => a && b := fun gT gU gM o pl ho og ns mm hs hn a b ha hb => by
  have hB : 2 ^ (o.length + 2) = 2 ^ (o.length + 1) * 2 := Nat.pow_succ ..
  exact (tand_fh gT gU gM ho hs (by omega) ha hb).mono fun x h => OpQ.more (by omega)
theorem or_opok : OpOk 142 fun a b => a || b := fun gT gU gM o pl ho og ns mm hs hn a b ha hb => by
  have hB : 2 ^ (o.length + 2) = 2 ^ (o.length + 1) * 2 := Nat.pow_succ ..
  exact (tor_fh gT gU gM ho hs (by omega) ha hb).mono fun x h => OpQ.more (by omega)
theorem xor_opok : OpOk 143 fun a b => a != b := fun gT gU gM o pl ho og ns mm hs hn a b ha hb => by
  have hB : 2 ^ (o.length + 2) = 2 ^ (o.length + 1) * 2 := Nat.pow_succ ..
  exact (txor_fh gT gU gM ho hs (by omega) ha hb).mono fun x h => OpQ.more (by omega)
set_option maxRecDepth 100000 in
set_option maxHeartbeats 3200000 in
theorem join_fh {F : FuncId} {g : Bool → Bool → Bool} (hF : OpOk F g) (gT gU gM : Nat) {o pl : List Int} (ho : OdOk o pl) {og : Option Nat} {ns : List DN} {mm : Mem3} (hs : TS o og ns mm) (refs : List Int) (hl : refs.length ≤ 1000) (hn : ns.length + refs.length * 2 ^ (o.length + 2) ≤ 1000000000) {a : Int} (ha : RefOk ns a) (hr : ∀ r ∈ refs, RefOk ns r) :
    Fh Tryz.prog 140 (THp gT gU gM og o pl ns mm) [.c (is true refs), .c (.int .i64 a), .c (fnB F gT)] (OpQ gT gU gM o pl ns (refs.length * 2 ^ (o.length + 2)) fun s => refs.foldl (fun b r => g b (evalD ns s r)) (evalD ns s a)) := by
  refine fh_of_body Tryz.func140 rfl rfl (by simp [Tryz.ntmps140]) fun C hC => ?_
  simp only [initS, Nat.reduceAdd]
  refine xG ?_
  refine aw_lp (fun y : Nat × Option Nat × List DN × Mem3 × Int => [(1, .c (.int .i64 y.2.2.2.2)), (2, .c (fnB F gT)), (9, .c (is true refs)), (10, .c (.int .i64 refs.length)), (11, .c (.int .i64 y.1))]) (fun y => THp gT gU gM y.2.1 o pl y.2.2.1 y.2.2.2.1)
    (fun y => y.1 ≤ refs.length ∧ TS o y.2.1 y.2.2.1 y.2.2.2.1 ∧ Later o ns y.2.2.1 (y.1 * 2 ^ (o.length + 2)) ∧ RefOk y.2.2.1 y.2.2.2.2 ∧ ∀ s, evalD y.2.2.1 s y.2.2.2.2 = (refs.take y.1).foldl (fun b r => g b (evalD ns s r)) (evalD ns s a)) (fun y => refs.length - y.1) (0, og, ns, mm, a) eB zZ ⟨Nat.zero_le _, hs, Later.refl hs.tab _, ha, fun s => rfl⟩ ?_
  rintro ⟨j, og1, ns1, mm1, a1⟩ ⟨hj, h1, h2, h3, h4⟩
  dsimp only at hj h1 h2 h3 h4 ⊢
  refine xG ?_
  refine xF (fun hb=>?_) fun hb=>?_
  · have hb' : j < refs.length := by have := of_decide_eq_true hb; omega
    have hmul : (j + 1) * 2 ^ (o.length + 2) = j * 2 ^ (o.length + 2) + 2 ^ (o.length + 2) := Nat.succ_mul ..
    have hle : (j + 1) * 2 ^ (o.length + 2) ≤ refs.length * 2 ^ (o.length + 2) := Nat.mul_le_mul_right _ hb'
    have hl2 := h2.len
    have hrj : RefOk ns (refs.getD j 0) := by rw [getDZ hb']; exact hr _ (List.getElem_mem hb')
    refine xG ?_
    refine aw_callhB (hr := []) (hF gT gU gM ho h1 (by omega) h3 (h2.ref hrj)) rfl rfl rfl eE (by rw [List.append_nil]) eL ?_
    rintro _ _ ⟨og2, ns2, mm2, r, e1, e2, e3, e4, rfl, rfl⟩ _
    rw [List.append_nil]
    refine xS ?_
    refine xG ?_
    refine aw_stop ⟨(j + 1, og2, ns2, mm2, r), by dsimp only; omega, eB, zZ, by dsimp only; omega, e1, h2.trans e2 (by dsimp only; omega), e3, fun s => ?_⟩
    dsimp only
    rw [e4]
    dsimp only
    rw [h4, h2.eval hs.tab hrj, List.take_succ_eq_append_getElem hb', List.foldl_append, getDZ hb']
    rfl
  · have hb' : j = refs.length := by have := of_decide_eq_false hb; omega
    subst hb'
    rw [List.take_length] at h4
    refine xG ?_
    refine xU ?_
    exact ⟨og1, ns1, mm1, a1, h1, h2, h3, h4, rfl, rfl⟩
end Go.Proofs.YtmfmnmkipjpjhaaGreatDoor

/- decision.Table: Compose, Restrict. -/
namespace Go.AI
end Go.AI
namespace Go.Proofs.YtmfmnmkipjpjhaaGreatDoor
open Go.AI Go.PN
attribute [local irreducible] aw Fa Fh DrK
@[go_sem] theorem ty_fii_s : tSz Tryz.prog 128 = some (false, 1) := by kernel_rfl
@[go_sem] theorem ty_fii_z : tZero Tryz.prog 128 = some [.raw .nilFunc] := by kernel_rfl
theorem ty_ki : KeyOk Tryz.prog 3 keyI := keyI_ok Tryz.underlying3
theorem keyI_rep {r : Int} : ∀ (S : Bool → Nat → Prop) (w : World) (u : Value), Rep S w (.c (.int .i64 r)) u → u = keyI r := fun _ _ _ h => h
end Go.Proofs.YtmfmnmkipjpjhaaGreatDoor

/- decision.Table: Count. -/
namespace Go.AI
end Go.AI
namespace Go.Proofs.YtmfmnmkipjpjhaaGreatDoor
open Go.AI Go.PN
attribute [local irreducible] aw Fa Fh DrK
structure CnOk (o : List Int) (ns : List DN) (dl : List (Int × Int)) : Prop where
  sem : ∀ z ∈ dl, z.2 = cntR o ns z.1
  low : ∀ q : Int, 0 ≤ q → q < 2 → dnGet q dl ≠ none
end Go.Proofs.YtmfmnmkipjpjhaaGreatDoor

/- decision.Table: New, Import. -/
namespace Go.AI
@[go_sem] theorem one_map (m : Option Nat) : (Value.map m).oneCell' = true := rfl
@[go_sem] theorem one_ptr (m : Option Addr) : (Value.pointer m).oneCell' = true := rfl
section
variable {E : Env} {K : List It} {σ σ' : Sl} {h : Heap}
/-- A row that a field of a block holds is given up. -/
theorem aw_frzC {gT gP m n n' j0 : Nat} {ty tp : TypeId} {f f' fp : Nat → CV} (hf : f j0 = .osl gP 1 0 n') (hn : n' ≤ n) (hf' : f' j0 = .row true 1 n' fp) (hfo : ∀ j, j < m → j ≠ j0 → f' j = f j) (ho : ¬ E.C.own0 gP)
    (k : aw E K σ ((gT, .cells ty m f') :: h)) : aw E K σ ((gT, .cells ty m f) :: (gP, .cells tp n fp) :: h) := fun a w st => by
  refine k a w ?_
  have hnd := st.nodup
  simp only [Heap.keys, List.map_cons, List.nodup_cons, List.mem_cons, not_or] at hnd
  obtain ⟨⟨hTP, hTh⟩, hPh, hh⟩ := hnd
  have hgm : (gP, AObj.cells tp n fp) ∈ (gT, AObj.cells ty m f) :: (gP, .cells tp n fp) :: h := List.mem_cons_of_mem _ (List.mem_cons_self ..)
  have hkg : gP ∈ Heap.keys ((gT, AObj.cells ty m f) :: (gP, .cells tp n fp) :: h) := List.mem_map.2 ⟨_, hgm, rfl⟩
  have hks : ∀ b, b ∈ Heap.keys ((gT, AObj.cells ty m f') :: h) → b ∈ Heap.keys ((gT, AObj.cells ty m f) :: (gP, .cells tp n fp) :: h) := fun b hb => by
    simp only [Heap.keys, List.map_cons, List.mem_cons] at hb ⊢
    exact hb.imp id .inr
  have kp : Keeps (Stab E.C ((gT, .cells ty m f) :: (gP, .cells tp n fp) :: h) w) (Stab E.C ((gT, .cells ty m f') :: h) w) w w := ⟨fun t b hb => ⟨hb.1, hb.2.1, fun hm => hb.2.2 (hks b hm)⟩, fun _ _ _ => rfl, fun _ _ e => e⟩
  refine ⟨st.size, st.defers, fun t => Rep.keep kp (st.slots t), fun g ob hm => ?_, ?_, fun g hg => st.keys g (hks g hg), st.frame⟩
  · rcases List.mem_cons.1 hm with e | hm
    · rw [Prod.mk.injEq] at e
      obtain ⟨e1, e2⟩ := e
      rw [e1, e2]
      clear hm e1 e2
      obtain ⟨cs, hb, hcs, hj⟩ := st.heap gT _ (List.mem_cons_self ..)
      refine ⟨cs, hb, hcs, fun j hjm => ?_⟩
      obtain ⟨u, hu, hr⟩ := hj j hjm
      refine ⟨u, hu, ?_⟩
      by_cases e : j = j0
      · subst e
        rw [hf] at hr
        rw [hf']
        obtain ⟨c, hv, hc, _, _⟩ := hr
        obtain ⟨cs2, hb2, hcs2, hj2⟩ := st.heap gP _ hgm
        refine ⟨some ⟨gP, 0, none⟩, c, hv, hc, fun _ => ⟨⟨gP, 0, none⟩, rfl, ⟨.inr ((st.keys gP hkg).resolve_left ho), st.klt hkg, ?_⟩, fun q hq => ?_⟩⟩
        · simp only [Heap.keys, List.map_cons, List.mem_cons, not_or]
          exact ⟨fun e => hTP e.symm, hPh⟩
        · obtain ⟨u2, hu2, hr2⟩ := hj2 q (by omega)
          exact ⟨u2, by rw [add_mk, Nat.zero_add, cell_own hb2]; exact hu2, hr2.keep kp⟩
      · rw [hfo j hjm e]
        exact hr.keep kp
    · exact ORep.keep kp rfl (st.heap g ob (List.mem_cons_of_mem _ (List.mem_cons_of_mem _ hm)))
  · simp only [Heap.keys, List.map_cons, List.nodup_cons]
    exact ⟨hTh, hh⟩
end
end Go.AI
namespace Go.Proofs.YtmfmnmkipjpjhaaGreatDoor
open Go.AI Go.PN
attribute [local irreducible] aw Fa Fh DrK
theorem make_is' (n : Nat) : (fun j => [CV.int .i64 0][j % 1]?.getD .any) = isF (List.replicate n 0) := by
  have := make_is n
  simpa only [ofL_at] using this
theorem pl_ok {o : List Int} (hp : Perm0 o) : PlOk o (placesL o) := ⟨placesL_len o, fun _ hv => placesL_get hv⟩
set_option maxRecDepth 100000 in
set_option maxHeartbeats 3200000 in
theorem new_fh (o : List Int) (hp : Perm0 o) (h24 : o.length ≤ 24) :
    Fh Tryz.prog 104 [] [.c (is false o)] (fun x h => ∃ gT gU gM, x = .c (.optr gT 0) ∧ h = THp gT gU gM none o (placesL o) [] []) := by
  refine fh_of_body Tryz.func104 rfl rfl (by simp [Tryz.ntmps104]) fun C hC => ?_
  simp only [initS, Nat.reduceAdd]
  refine xG ?_
  refine aw_drB 7 ty_mixed (by kernel_rfl) ?_
  repeat first | (refine drb_2q true rfl (fun R hR => ?_); simp only [go_sem]; (with_reducible refine hR _ _ ?_ ?_); (focus (((try simp only [inRange]) <;> and_intros <;> first | exact True.intro | omega | trivial); done)); clear hR R) | fail
  refine drb_calm (CalmX.copy (size := 1) (z := [.int .i64 0]) rfl rfl rfl eE eE rfl (by omega) eE eE .row (by unfold maxLen; omega) (by omega)) ?_
  refine xS ?_
  repeat first | (refine drb_2q true rfl (fun R hR => ?_); simp only [go_sem]; (with_reducible refine hR _ _ ?_ ?_); (focus (((try simp only [inRange]) <;> and_intros <;> first | exact True.intro | omega | trivial); done)); clear hR R) | fail
  refine drb_new rfl (NewX.make (n := o.length) (c := o.length) (size := 1) (z := [.int .i64 0]) rfl rfl rfl eE eE rfl (by omega) eE eE rfl rfl (by omega) (by omega) (by omega)) (by kernel_rfl) ?_
  refine xS ?_
  refine drb_new rfl (NewX.makeMap (Kf := dkV) rfl rfl rfl) (by kernel_rfl) ?_
  refine xS ?_
  refine drb_new rfl (NewX.makeMap (Kf := key3) rfl rfl rfl) (by kernel_rfl) ?_
  refine xS ?_
  refine drb_nil fun γ => ?_
  refine xS ?_
  rw [make_is' o.length]
  generalize γ 4 = gP
  generalize γ 5 = gU
  generalize γ 6 = gM
  refine xG ?_
  refine xB fun gT hn_gT=>?_
  refine yG hn_gT ?_
  refine aw_nd fun hnd => ?_
  simp only [Heap.keys, List.map_cons, List.map_nil] at hnd
  replace hnd := ndP_of hnd
  dsimp only [ndP, neA] at hnd
  clear hn_gT
  refine aw_lp (fun x : Nat × List Int => [(0, .c (is false o)), (3, .c (.optr gT 0)), (15, .c (is false o)), (16, .c (.int .i64 o.length)), (17, .c (.int .i64 x.1))]) (fun x => [(gT, .cells 164 5 (ofL [is true o, .osl gP 1 0 o.length, .nils, .raw (.map (some gU)), .raw (.map (some gM))])), (gP, .cells 3 o.length (isF x.2)), (gU, .gen (MapI dkV [])), (gM, .gen (MapI key3 []))])
    (fun x => x.1 ≤ o.length ∧ x.2.length = o.length ∧ ∀ j, j < x.1 → x.2.getD (o.getD j 0).toNat 0 = j) (fun x => o.length - x.1) (0, List.replicate o.length 0) (zB hnd) zZ ⟨Nat.zero_le _, List.length_replicate .., fun j hj => by omega⟩ ?_
  rintro ⟨k, zs⟩ ⟨hk, hzl, hz⟩
  dsimp only at hk hzl hz ⊢
  refine yG hnd ?_
  refine yF hnd (fun h1=>?_) fun h1=>?_
  · have h1' : k < o.length := by have := of_decide_eq_true h1; omega
    have hrg := hp.range (o.getD k 0) (by rw [getDZ h1']; exact List.getElem_mem h1')
    refine yG hnd ?_
    refine yW hnd ?_
    refine yS hnd ?_
    obtain ⟨v, hv⟩ : ∃ v : Nat, o.getD k 0 = v := ⟨(o.getD k 0).toNat, by omega⟩
    rw [hv, Int.toNat_natCast, updF_is (by omega)]
    refine yG hnd ?_
    refine aw_stop ⟨(k + 1, zs.set v k), by dsimp only; omega, (zB hnd), zZ, by dsimp only; omega, by simpa using hzl, fun j hj => ?_⟩
    dsimp only at hj ⊢
    by_cases e : j = k
    · subst e
      rw [hv, Int.toNat_natCast, List.getD_eq_getElem?_getD, List.getElem?_set_self (by omega)]
      rfl
    · have hne : (o.getD j 0).toNat ≠ v := fun e2 => by
        have hj' : j < o.length := by omega
        have hr2 := hp.range (o.getD j 0) (by rw [getDZ hj']; exact List.getElem_mem hj')
        have p1 := place_get hp.nodup hj'
        have p2 := place_get hp.nodup h1'
        rw [show o.getD j 0 = o.getD k 0 from by omega] at p1
        omega
      rw [List.getD_eq_getElem?_getD, List.getElem?_set_ne (fun e => hne e.symm), ← List.getD_eq_getElem?_getD]
      exact hz j (by omega)
  · have h1' : k = o.length := by have := of_decide_eq_false h1; omega
    subst h1'
    have hpl := places_end hp hzl hz
    subst hpl
    refine yG hnd ?_
    refine aw_frzC (j0 := 1) (n' := o.length) (f' := ofL [is true o, is true (placesL o), .nils, .raw (.map (some gU)), .raw (.map (some gM))]) rfl (Nat.le_refl _) (by show CV.row true 1 (placesL o).length _ = _; rw [placesL_len]) (fun j hj hne => ?_) ?_ ?_
    · match j, hj, hne with
      | 0, _, _ => rfl
      | 1, _, hne => exact absurd rfl hne
      | 2, _, _ => rfl
      | 3, _, _ => rfl
      | 4, _, _ => rfl
    · exact fun h => by have := (hC gP).1 h; simp [Heap.keys] at this
    refine yU hnd ?_
    exact ⟨gT, gU, gM, rfl, rfl⟩
theorem getZset {l : List Int} {i : Nat} {v : Int} (h : i < l.length) : (l.set i v).getD i 0 = v := by
  rw [List.getD_eq_getElem?_getD, List.getElem?_set_self h]; rfl
theorem getZset' {l : List Int} {i j : Nat} {v : Int} (h : j ≠ i) : (l.set i v).getD j 0 = l.getD j 0 := by
  rw [List.getD_eq_getElem?_getD, List.getElem?_set_ne (fun e => h e.symm), ← List.getD_eq_getElem?_getD]
/-- How far Import has come: rs are the references of the diagram's references below k + 2. -/
structure ImOk (d : DG) (ns : List DN) (rs : List Int) (k : Nat) : Prop where
  ref : ∀ r : Nat, r < k + 2 → RefOk ns (rs.getD r 0) ∧ lvZ d.order d.nodes r ≤ lvZ d.order ns (rs.getD r 0) ∧ ∀ s, evalD ns s (rs.getD r 0) = evalD d.nodes s r
end Go.Proofs.YtmfmnmkipjpjhaaGreatDoor

/- diagram.vote. -/
namespace Go.PN
open Go.AI
/-- How many of the references hold in a state. -/
def cntH (ns : List DN) (refs : List Int) (s : Nat) : Nat := (refs.filter fun r => evalD ns s r).length
theorem cntH_push (ns : List DN) (refs : List Int) (r : Int) (s : Nat) : cntH ns (refs ++ [r]) s = cntH ns refs s + if evalD ns s r then 1 else 0 := by
  unfold cntH
  rw [List.filter_append, List.length_append, List.filter_cons]
  split <;> simp
/-- The references of vote: those above jj are a round ahead. -/
structure NeedOk (ns0 : List DN) (refs : List Int) (ns : List DN) (zs : List Int) (k i jj : Nat) : Prop where
  len : zs.length = k + 1
  at' : ∀ q, q ≤ k → RefOk ns (zs.getD q 0) ∧ ∀ s, evalD ns s (zs.getD q 0) = decide (q ≤ cntH ns0 (refs.take (if jj < q then i + 1 else i)) s)
end Go.PN
namespace Go.Proofs.YtmfmnmkipjpjhaaGreatDoor
open Go.AI Go.PN
attribute [local irreducible] aw Fa Fh DrK
theorem need_start {ns : List DN} {refs : List Int} {k : Nat} : NeedOk ns refs ns ((List.replicate (k + 1) 0).set 0 1) k 0 k := by
  refine ⟨by simp, fun q hq => ?_⟩
  rw [if_neg (by omega), List.take_zero]
  by_cases h : q = 0
  · subst h
    rw [getZset (by simp)]
    exact ⟨ref1, fun s => by rw [ev1]; simp⟩
  · rw [getZset' h]
    have : (List.replicate (k + 1) (0 : Int)).getD q 0 = 0 := by
      rw [List.getD_eq_getElem?_getD, List.getElem?_replicate]; split <;> rfl
    rw [this]
    exact ⟨ref0, fun s => by rw [ev0]; show false = decide (q ≤ 0); exact (decide_eq_false (by omega)).symm⟩
theorem need_round {ns0 ns : List DN} {refs zs : List Int} {k i : Nat} (h : NeedOk ns0 refs ns zs k i 0) : NeedOk ns0 refs ns zs k (i + 1) k := by
  refine ⟨h.len, fun q hq => ?_⟩
  obtain ⟨h1, h2⟩ := h.at' q hq
  refine ⟨h1, fun s => ?_⟩
  rw [h2 s, if_neg (show ¬ k < q by omega)]
  by_cases e : q = 0
  · subst e; simp
  · rw [if_pos (by omega)]
theorem need_step {o : List Int} {ns0 ns ns2 : List DN} {refs zs : List Int} {k i q n m : Nat} (ht0 : TabOk o ns0) (hl0 : Later o ns0 ns m) (ht : TabOk o ns) (hl : Later o ns ns2 n) (h : NeedOk ns0 refs ns zs k i (q + 1)) (hq : q + 1 ≤ k) (hi : i < refs.length) (hr : RefOk ns0 (refs.getD i 0)) {r : Int} (hr2 : RefOk ns2 r)
    (he : ∀ s, evalD ns2 s r = if evalD ns s (refs.getD i 0) then evalD ns s (zs.getD q 0) else evalD ns s (zs.getD (q + 1) 0)) : NeedOk ns0 refs ns2 (zs.set (q + 1) r) k i q := by
  have hzl := h.len
  refine ⟨by rw [List.length_set]; exact hzl, fun p hp => ?_⟩
  by_cases e : p = q + 1
  · subst e
    rw [getZset (by omega)]
    refine ⟨hr2, fun s => ?_⟩
    rw [he s, hl0.eval ht0 hr, (h.at' q (by omega)).2 s, (h.at' (q + 1) (by omega)).2 s, if_pos (show q < q + 1 by omega), if_neg (show ¬ q + 1 < q by omega), if_neg (show ¬ q + 1 < q + 1 by omega), List.take_succ_eq_append_getElem hi, cntH_push, ← getDZ hi]
    cases evalD ns0 s (refs.getD i 0) <;> simp
  · rw [getZset' e]
    obtain ⟨h1, h2⟩ := h.at' p hp
    refine ⟨hl.ref h1, fun s => ?_⟩
    rw [hl.eval ht h1, h2 s]
    by_cases e2 : q < p
    · rw [if_pos e2, if_pos (show q + 1 < p by omega)]
    · rw [if_neg e2, if_neg (show ¬ q + 1 < p by omega)]
set_option maxRecDepth 100000 in
set_option maxHeartbeats 6400000 in
theorem vote_fh (gT gU gM : Nat) {o pl : List Int} (ho : OdOk o pl) {og : Option Nat} {ns : List DN} {mm : Mem3} (hs : TS o og ns mm) (refs : List Int) (hl : refs.length ≤ 1000) (k : Nat) (hk : k ≤ 1000) (hn : ns.length + refs.length * (k * 2 ^ (o.length + 1)) + 2 ^ (o.length + 1) ≤ 1000000000) (hr : ∀ r ∈ refs, RefOk ns r) :
    Fh Tryz.prog 144 (THp gT gU gM og o pl ns mm) [.c (.optr gT 0), .c (is true refs), .c (.int .i64 k)] (OpQ gT gU gM o pl ns (refs.length * (k * 2 ^ (o.length + 1))) fun s => decide (k ≤ cntH ns refs s)) := by
  refine fh_of_body Tryz.func144 rfl rfl (by simp [Tryz.ntmps144]) fun C hC => ?_
  simp only [initS, Nat.reduceAdd]
  refine xG ?_
  refine aw_make (n := k + 1) (c := k + 1) (size := 1) (bytes := 8) (z := [.int .i64 0]) rfl rfl rfl eE eE rfl (by omega) eE eE (by omega) (by omega) (by omega) (by omega) (by omega) fun gN hn_gN => ?_
  clear hn_gN
  simp only [Nat.mul_one]
  rw [make_is]
  simp only [THp, TH, List.cons_append, List.nil_append]
  refine aw_nd fun hnd => ?_
  simp only [Heap.keys, List.map_cons] at hnd
  replace hnd := ndP_of hnd
  dsimp only [ndP, neA] at hnd
  refine yS hnd ?_
  refine yG hnd ?_
  refine yW hnd ?_
  refine yS hnd ?_
  rw [updF_is (zs := List.replicate (k + 1) 0) (i := 0) (v := 1) (by rw [List.length_replicate]; omega)]
  refine yG hnd ?_
  have hcost : ∀ i j : Nat, i * (k * 2 ^ (o.length + 1)) + j * 2 ^ (o.length + 1) + 2 ^ (o.length + 1) = i * (k * 2 ^ (o.length + 1)) + (j + 1) * 2 ^ (o.length + 1) := fun i j => by rw [Nat.succ_mul]; omega
  refine aw_lp (fun y : Nat × Option Nat × List DN × Mem3 × List Int => [(0, .c (.optr gT 0)), (2, .c (.int .i64 k)), (7, .c (.osl gN 1 0 (k + 1))), (16, .c (is true refs)), (17, .c (.int .i64 refs.length)), (18, .c (.int .i64 y.1))]) (fun y => [(gN, .cells 3 (k + 1) (isF y.2.2.2.2))] ++ THp gT gU gM y.2.1 o pl y.2.2.1 y.2.2.2.1)
    (fun y => y.1 ≤ refs.length ∧ TS o y.2.1 y.2.2.1 y.2.2.2.1 ∧ Later o ns y.2.2.1 (y.1 * (k * 2 ^ (o.length + 1))) ∧ NeedOk ns refs y.2.2.1 y.2.2.2.2 k y.1 k) (fun y => refs.length - y.1) (0, og, ns, mm, (List.replicate (k + 1) 0).set 0 1) (zB hnd) zZ ⟨Nat.zero_le _, hs, Later.refl hs.tab _, need_start⟩ ?_
  clear hnd
  rintro ⟨i, og1, ns1, mm1, zs1⟩ ⟨hi, h1, h2, h3⟩
  dsimp only at hi h1 h2 h3 ⊢
  refine xG ?_
  refine xF (fun hb=>?_) fun hb=>?_
  · have hb' : i < refs.length := by have := of_decide_eq_true hb; omega
    have hri : RefOk ns (refs.getD i 0) := by rw [getDZ hb']; exact hr _ (List.getElem_mem hb')
    have hle : (i + 1) * (k * 2 ^ (o.length + 1)) ≤ refs.length * (k * 2 ^ (o.length + 1)) := Nat.mul_le_mul_right _ hb'
    have hle1 : (i + 1) * (k * 2 ^ (o.length + 1)) = i * (k * 2 ^ (o.length + 1)) + k * 2 ^ (o.length + 1) := Nat.succ_mul ..
    refine xG ?_
    refine aw_lp (fun y : Nat × Option Nat × List DN × Mem3 × List Int => [(0, .c (.optr gT 0)), (2, .c (.int .i64 k)), (7, .c (.osl gN 1 0 (k + 1))), (16, .c (is true refs)), (17, .c (.int .i64 refs.length)), (18, .c (.int .i64 i)), (9, .c (.int .i64 (refs.getD i 0))), (10, .c (.int .i64 y.1))]) (fun y => [(gN, .cells 3 (k + 1) (isF y.2.2.2.2))] ++ THp gT gU gM y.2.1 o pl y.2.2.1 y.2.2.2.1)
      (fun y => y.1 ≤ k ∧ TS o y.2.1 y.2.2.1 y.2.2.2.1 ∧ Later o ns y.2.2.1 (i * (k * 2 ^ (o.length + 1)) + (k - y.1) * 2 ^ (o.length + 1)) ∧ NeedOk ns refs y.2.2.1 y.2.2.2.2 k i y.1) (fun y => y.1) (k, og1, ns1, mm1, zs1) eB zZ ⟨Nat.le_refl _, h1, h2.trans (Later.refl h1.tab 0) (by omega), h3⟩ ?_
    clear h1 h2 h3 og1 ns1 mm1 zs1
    rintro ⟨j, og1, ns1, mm1, zs⟩ ⟨hj, h1, h2, h3⟩
    dsimp only at hj h1 h2 h3 ⊢
    refine xG ?_
    refine xF (fun hj0=>?_) fun hj0=>?_
    · obtain ⟨q, rfl⟩ : ∃ q, j = q + 1 := ⟨j - 1, by have := of_decide_eq_true hj0; omega⟩
      have hqi : ((q + 1 : Nat) : Int) - 1 = (q : Nat) := by omega
      have hzl := h3.len
      have hl2 := h2.len
      have hkq : (k - (q + 1) + 1) * 2 ^ (o.length + 1) ≤ k * 2 ^ (o.length + 1) := Nat.mul_le_mul_right _ (by omega)
      have hc1 := hcost i (k - (q + 1))
      have hB1 : ns1.length + 2 ^ (o.length + 1) ≤ 1000000000 := by
        clear hs h1 h2 h3 ho hcost
        generalize 2 ^ (o.length + 1) = B at *
        generalize i * (k * B) = X at *
        generalize (k - (q + 1) + 1) * B = Y at *
        generalize (k - (q + 1)) * B = Z at *
        generalize (i + 1) * (k * B) = U at *
        generalize refs.length * (k * B) = V at *
        generalize k * B = W at *
        omega
      have hB2 : i * (k * 2 ^ (o.length + 1)) + (k - (q + 1)) * 2 ^ (o.length + 1) + (2 ^ (o.length + 1) - 1) ≤ i * (k * 2 ^ (o.length + 1)) + (k - q) * 2 ^ (o.length + 1) := by
        rw [show k - q = k - (q + 1) + 1 from by omega, ← hc1]
        generalize 2 ^ (o.length + 1) = B
        omega
      simp only [THp, TH, List.cons_append, List.nil_append]
      refine aw_nd fun hnd => ?_
      simp only [Heap.keys, List.map_cons] at hnd
      replace hnd := ndP_of hnd
      dsimp only [ndP, neA] at hnd
      refine yG (oj hnd hqi) ?_
      refine aw_cw ([(gN, .cells 3 (k + 1) (isF zs))]) [(0,0),(1,0),(2,0),(3,0),(4,0),(5,0),(6,0),(7,0),(8,0),(9,0),(10,0),(11,0),(12,0),(13,1),(14,0),(15,2)] ty_mixed (by kernel_rfl) eI ?_
      refine yG (oj hnd hqi) ?_
      refine cw_callh (hc := THp gT gU gM og1 o pl ns1 mm1) (hr := [(gN, .cells 3 (k + 1) (isF zs))]) rfl (choose_fh gT gU gM ho h1 hB1 (h2.ref hri) (h3.at' q (by omega)).1 (h3.at' (q + 1) (by omega)).1) rfl rfl rfl (List.perm_append_comm (l₁ := [(gN, _)])) (zL (oj hnd hqi)) (by
        rintro _ _ ⟨_, _, _, _, _, _, _, _, rfl, rfl⟩; exact has0_app2 eI) ?_ (hm := .inr ⟨rfl, rfl⟩)
      rintro _ _ ⟨og2, ns2, mm2, r, e1, e2, e3, e4, rfl, rfl⟩ _
      refine yS (oj hnd hqi) ?_
      refine cw_perm List.perm_append_comm ?_
      simp only [List.cons_append, List.nil_append]
      refine yS (oj hnd hqi) ?_
      refine yG (oj hnd hqi) ?_
      refine cw_store (FP' := []) rfl rfl rfl rfl rfl (zE (oj hnd hqi)) (zE (oj hnd hqi)) (zE (oj hnd hqi)) (zE (oj hnd hqi)) (fun _ e => by cases e) rfl rfl (by show (q + 1) + 1 ≤ _; omega) rfl has0_nil ?_
      simp only [AV.cells]
      rw [updF_is (by omega)]
      refine yS (oj hnd hqi) ?_
      refine yG (oj hnd hqi) ?_
      have he2 := e2.len
      exact aw_stop ⟨(q, og2, ns2, mm2, zs.set (q + 1) r), by dsimp only; omega, (zB (oj hnd hqi)), zZ, by dsimp only; omega, e1, h2.trans e2 hB2, need_step hs.tab h2 h1.tab e2 h3 hj hb' hri e3 e4⟩
    · have hj' : j = 0 := by have := of_decide_eq_false hj0; omega
      subst hj'
      refine xG ?_
      exact aw_stop ⟨(i + 1, og1, ns1, mm1, zs), by dsimp only; omega, eB, zZ, by dsimp only; omega, h1, h2.trans (Later.refl h1.tab 0) (by dsimp only; rw [Nat.sub_zero]; omega), need_round h3⟩
  · have hb' : i = refs.length := by have := of_decide_eq_false hb; omega
    subst hb'
    have hzl := h3.len
    obtain ⟨h4, h5⟩ := h3.at' k (Nat.le_refl _)
    simp only [Nat.lt_irrefl, if_false, List.take_length] at h5
    refine xG ?_
    refine aw_keep [(6, .c (.int .i64 (zs1.getD k 0)))] (THp gT gU gM og1 o pl ns1 mm1) eB (List.Sublist.cons _ (List.Sublist.refl _)) ?_
    refine xU ?_
    exact ⟨og1, ns1, mm1, _, h1, h2, h4, h5, rfl, rfl⟩
end Go.Proofs.YtmfmnmkipjpjhaaGreatDoor
