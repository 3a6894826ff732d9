/- Texts of one proof, laid one behind the other by a program (merge.py): Tab10, AiFrz, Alg1, AiMap3, Tab8. -/
import Derived.Test.YtlpejaefobdajaaGreatM23
import Derived.Test.YtlpejaefobdajaaGreatM21
import Derived.Test.YtlpejaefobdajaaGreatM16
import Derived.Test.YtlpejaefobdajaaGreatM29
set_option linter.unusedSimpArgs false
set_option linter.unusedVariables false
/- decision.Table: Translate. Lists of ints compared. -/
namespace Go.Proofs.YtlpejaefobdajaaGreat
open Go.AI Go.PN
attribute [local irreducible] aw Fa Fh DrK
/-- How far Translate has come: rs are the references of the diagram's references below k + 2. -/
structure TrOk (d : DG) (ns : List DN) (rs : List Int) (k : Nat) : Prop where
  ref : ∀ r : Nat, r < k + 2 → RefOk ns (rs.getD r 0) ∧ ∀ s, evalD ns s (rs.getD r 0) = evalD d.nodes s r
theorem tr_step {d : DG} (ok : DgOk d) {o : List Int} {ns ns2 : List DN} (ht : TabOk o ns) {m : Nat} (hl2 : Later o ns ns2 m) {rs : List Int} {k : Nat} (hk : k < d.nodes.length) (hl : k + 2 < rs.length) (h : TrOk d ns rs k) {x : Int} (hx : RefOk ns2 x)
    (he : ∀ s, evalD ns2 s x = if s.testBit (d.nodes.getD k dn0).v.toNat then evalD ns s (rs.getD (d.nodes.getD k dn0).hi.toNat 0) else evalD ns s (rs.getD (d.nodes.getD k dn0).lo.toNat 0)) : TrOk d ns2 (rs.set (2 + k) x) (k + 1) := by
  obtain ⟨v0, v1, l0, l1, g0, g1⟩ := ok.ns k hk
  obtain ⟨r1, r3⟩ := h.ref (d.nodes.getD k dn0).lo.toNat (by omega)
  obtain ⟨q1, q3⟩ := h.ref (d.nodes.getD k dn0).hi.toNat (by omega)
  rw [show (((d.nodes.getD k dn0).lo.toNat : Nat) : Int) = (d.nodes.getD k dn0).lo from by omega] at r3
  rw [show (((d.nodes.getD k dn0).hi.toNat : Nat) : Int) = (d.nodes.getD k dn0).hi from by omega] at q3
  refine ⟨fun r hr => ?_⟩
  by_cases e : r = 2 + k
  · subst e
    rw [getZset (by omega)]
    refine ⟨hx, fun s => ?_⟩
    show evalD _ s _ = evalD d.nodes s ((2 + k : Nat) : Int)
    rw [show (((2 + k : Nat)) : Int) = 2 + (k : Int) from by omega, evalD_step ok.ns (by omega) (by omega)]
    unfold kid
    rw [show ((2 : Int) + (k : Int) - 2).toNat = k from by omega, he s, r3 s, q3 s]
    split <;> rfl
  · rw [getZset' e]
    obtain ⟨a1, a3⟩ := h.ref r (by omega)
    exact ⟨hl2.ref a1, fun s => by rw [hl2.eval ht a1, a3 s]⟩
theorem tr_zero {d : DG} {ns : List DN} {n : Nat} (hn : 0 < n) : TrOk d ns ((List.replicate (n + 1) 0).set 1 1) 0 := ⟨fun r hr => by
  obtain rfl | rfl : r = 0 ∨ r = 1 := by omega
  · rw [getZset' (by omega), show (List.replicate (n + 1) (0 : Int)).getD 0 0 = 0 from by simp]
    exact ⟨ref0, fun s => by show evalD ns s 0 = evalD d.nodes s 0; rw [ev0, ev0]⟩
  · rw [getZset (by rw [List.length_replicate]; omega)]
    exact ⟨ref1, fun s => by show evalD ns s 1 = evalD d.nodes s 1; rw [ev1, ev1]⟩⟩
set_option maxRecDepth 100000 in
set_option maxHeartbeats 3200000 in
theorem translate_fh (gT gU gM : Nat) (d : DG) (ok : DgOk d) {o pl : List Int} (ho : OdOk o pl) (hol : o.length = d.order.length) {og : Option Nat} {ns : List DN} {mm : Mem3} (hs : TS o og ns mm) (hn : ns.length + d.nodes.length * 2 ^ (o.length + 1) + 1 ≤ 1000000000) :
    Fh Tryz.prog 149 (THp gT gU gM og o pl ns mm) [.c (.optr gT 0), .agg (dgc false d)] (OpQ gT gU gM o pl ns (d.nodes.length * 2 ^ (o.length + 1)) fun s => evalD d.nodes s d.root) := by
  have k1 := ok.n4096
  have k2 := ok.r0
  have k3 := ok.r1
  have hB : 0 < 2 ^ (o.length + 1) := Nat.pow_pos (by omega)
  refine fh_of_body Tryz.func149 rfl rfl (by simp [Tryz.ntmps149]) fun C hC => ?_
  simp only [initS, Nat.reduceAdd]
  simp only [THp, TH, List.cons_append, List.nil_append]
  refine xG ?_
  refine xB fun g3 hn_g3=>?_
  refine yG hn_g3 ?_
  refine aw_make (n := d.nodes.length + 2) (c := d.nodes.length + 2) (size := 1) (bytes := 8) (z := [.int .i64 0]) rfl rfl rfl (zE hn_g3) (zE hn_g3) rfl (by omega) (zE hn_g3) (zE hn_g3) (by omega) (by omega) (by omega) (by omega) (by omega) fun g5 hn_g5 => ?_
  clear hn_g5 hn_g3
  simp only [Nat.mul_one]
  rw [make_is]
  refine aw_nd fun hnd => ?_
  simp only [Heap.keys, List.map_cons] at hnd
  replace hnd := ndP_of hnd
  dsimp only [ndP, neA] at hnd
  refine yS hnd ?_
  refine yG hnd ?_
  refine yW hnd ?_
  refine yS hnd ?_
  rw [updF_is (zs := List.replicate (d.nodes.length + 2) 0) (i := 1) (v := 1) (by rw [List.length_replicate]; omega)]
  refine yG hnd ?_
  refine aw_lp (fun x : Nat × Option Nat × List DN × Mem3 × List Int => [(0, .c (.optr gT 0)), (3, .c (.optr g3 0)), (5, .c (.osl g5 1 0 (d.nodes.length + 2))), (16, .c (dns false d.nodes)), (17, .c (.int .i64 d.nodes.length)), (18, .c (.int .i64 x.1))]) (fun x => [(g5, .cells 3 (d.nodes.length + 2) (isF x.2.2.2.2)), (g3, .cells 25 3 (ofL (dgc false d)))] ++ THp gT gU gM x.2.1 o pl x.2.2.1 x.2.2.2.1)
    (fun x => x.1 ≤ d.nodes.length ∧ TS o x.2.1 x.2.2.1 x.2.2.2.1 ∧ Later o ns x.2.2.1 (x.1 * 2 ^ (o.length + 1)) ∧ x.2.2.2.2.length = d.nodes.length + 2 ∧ TrOk d x.2.2.1 x.2.2.2.2 x.1) (fun x => d.nodes.length - x.1) (0, og, ns, mm, (List.replicate (d.nodes.length + 2) 0).set 1 1) (zB hnd) zZ ⟨Nat.zero_le _, hs, Later.refl hs.tab _, by simp, tr_zero (by omega)⟩ ?_
  clear hnd
  rintro ⟨k, og', ns', mm', rs⟩ ⟨hk, hs', hl', hrl, hi⟩
  dsimp only at hk hs' hl' hrl hi ⊢
  simp only [THp, TH, List.cons_append, List.nil_append]
  refine aw_nd fun hnd => ?_
  simp only [Heap.keys, List.map_cons] at hnd
  replace hnd := ndP_of hnd
  dsimp only [ndP, neA] at hnd
  have hln := hl'.len
  refine yG hnd ?_
  refine yF hnd (fun h1=>?_) fun h1=>?_
  · have h1' : k < d.nodes.length := by have := of_decide_eq_true h1; omega
    have hkb : k * 2 ^ (o.length + 1) + 2 ^ (o.length + 1) ≤ d.nodes.length * 2 ^ (o.length + 1) := by
      have := Nat.mul_le_mul_right (2 ^ (o.length + 1)) (show k + 1 ≤ d.nodes.length by omega)
      rwa [Nat.add_mul, Nat.one_mul] at this
    obtain ⟨v0, v1, l0, l1, q0, q1⟩ := ok.ns k h1'
    obtain ⟨r1, _⟩ := hi.ref (d.nodes.getD k dn0).lo.toNat (by omega)
    obtain ⟨r2, _⟩ := hi.ref (d.nodes.getD k dn0).hi.toNat (by omega)
    have hst : ∀ {ns2 : List DN} {m : Nat} {x : Int}, Later o ns' ns2 m → RefOk ns2 x → (∀ s, evalD ns2 s x = if s.testBit (d.nodes.getD k dn0).v.toNat then evalD ns' s (rs.getD (d.nodes.getD k dn0).hi.toNat 0) else evalD ns' s (rs.getD (d.nodes.getD k dn0).lo.toNat 0)) → TrOk d ns2 (rs.set (2 + k) x) (k + 1) := fun a b c => tr_step ok hs'.tab a h1' (by omega) hi b c
    refine yG hnd ?_
    refine yA hnd fun g7 hn_g7=>?_
    clear hn_g7
    refine aw_nd fun hnd2 => ?_
    simp only [Heap.keys, List.map_cons] at hnd2
    replace hnd2 := ndP_of hnd2
    dsimp only [ndP, neA] at hnd2
    clear hnd
    refine yG hnd2 ?_
    refine yW hnd2 ?_
    refine yS hnd2 ?_
    generalize hx0 : d.nodes.getD k dn0 = nd at *
    refine yG (oj hnd2 hx0) ?_
    refine aw_cw ([(g5, .cells 3 (d.nodes.length + 2) (isF rs)), (g7, .cells 139 3 (ofL [.int .i64 nd.v, .int .i64 nd.lo, .int .i64 nd.hi]))]) [(0,0),(1,0),(2,0),(3,0),(4,0),(5,0),(6,0),(8,0),(9,0),(10,0),(11,0),(12,0),(13,0),(14,0),(15,0),(16,0),(17,0),(7,1),(18,1),(19,0),(20,2)] ty_mixed (by kernel_rfl) eI ?_
    refine yG (oj hnd2 hx0) ?_
    refine cw_callh (hc := THp gT gU gM og' o pl ns' mm') (hr := [(g7, .cells 139 3 (ofL [.int .i64 nd.v, .int .i64 nd.lo, .int .i64 nd.hi])), (g5, .cells 3 (d.nodes.length + 2) (isF rs)), (g3, .cells 25 3 (ofL (dgc false d)))]) rfl (tevent_fh gT gU gM hs' (by omega) v0 (by omega)) rfl rfl rfl (List.perm_append_comm (l₁ := [(g7, _), (g5, _), (g3, _)])) (zL (oj hnd2 hx0)) (by
      rintro _ _ ⟨_, _, _, _, _, _, _, _, rfl, rfl⟩; exact has0_app2 eI) ?_ (hm := .inr ⟨rfl, rfl⟩)
    rintro _ _ ⟨og1, ns1, mm1, c1, e1, e2, e3, e4, rfl, rfl⟩ _
    have n1 := e2.len
    refine yS (oj hnd2 hx0) ?_
    refine yG (oj hnd2 hx0) ?_
    refine cw_callh (hc := THp gT gU gM og1 o pl ns1 mm1) (hr := [(g7, .cells 139 3 (ofL [.int .i64 nd.v, .int .i64 nd.lo, .int .i64 nd.hi])), (g5, .cells 3 (d.nodes.length + 2) (isF rs)), (g3, .cells 25 3 (ofL (dgc false d)))]) rfl (choose_fh gT gU gM ho e1 (by omega) e3 (e2.ref r2) (e2.ref r1)) rfl rfl rfl (.refl _) (zL (oj hnd2 hx0)) (by
      rintro _ _ ⟨_, _, _, _, _, _, _, _, rfl, rfl⟩; exact has0_app2 eI) ?_ (hm := .inr ⟨rfl, rfl⟩)
    rintro _ _ ⟨og2, ns2, mm2, x, f1, f2, f3, f4, rfl, rfl⟩ _
    have n2 := f2.len
    refine yS (oj hnd2 hx0) ?_
    refine cw_perm List.perm_append_comm ?_
    simp only [List.cons_append, List.nil_append]
    refine yS (oj hnd2 hx0) ?_
    refine yG (oj hnd2 hx0) ?_
    refine cw_store (FP' := []) rfl rfl rfl rfl rfl (zE (oj hnd2 hx0)) (zE (oj hnd2 hx0)) (zE (oj hnd2 hx0)) (zE (oj hnd2 hx0)) (fun _ e => by cases e) rfl rfl (by show (2 + (k : Int)).toNat + 1 ≤ _; omega) rfl has0_nil ?_
    simp only [AV.cells]
    rw [show ((2 : Int) + (k : Int)).toNat = 2 + k from by omega, updF_is (by omega)]
    refine yS (oj hnd2 hx0) ?_
    refine yG (oj hnd2 hx0) ?_
    have l02 := e2.trans f2 (Nat.le_refl _)
    have hk1 : (k + 1) * 2 ^ (o.length + 1) = k * 2 ^ (o.length + 1) + 2 ^ (o.length + 1) := by rw [Nat.add_mul, Nat.one_mul]
    refine aw_stop ⟨(k + 1, og2, ns2, mm2, rs.set (2 + k) x), by dsimp only; omega, (zB (oj hnd2 hx0)), List.Sublist.cons _ (List.Sublist.refl _), by dsimp only; omega, f1, hl'.trans l02 (by dsimp only; omega), by dsimp only; rw [List.length_set]; exact hrl, ?_⟩
    refine hst l02 f3 fun s => ?_
    rw [f4 s]
    dsimp only
    rw [e4 s, e2.eval hs'.tab r1, e2.eval hs'.tab r2]
  · have h1' : k = d.nodes.length := by have := of_decide_eq_false h1; omega
    subst h1'
    have hrt : ((d.root.toNat : Nat) : Int) = d.root := by omega
    obtain ⟨r1, r3⟩ := hi.ref d.root.toNat (by omega)
    rw [hrt] at r3
    refine yG hnd ?_
    refine aw_keep [(4, .c (.int .i64 (rs.getD d.root.toNat 0)))] (THp gT gU gM og' o pl ns' mm') (zB hnd) (List.Sublist.cons _ (List.Sublist.cons _ (List.Sublist.refl _))) ?_
    refine yU hnd ?_
    exact ⟨og', ns', mm', _, hs', hl', r1, r3, rfl, rfl⟩
theorem ints_ext {xs ys : List Int} (hl : xs.length = ys.length) (h : ∀ j, j < xs.length → xs.getD j 0 = ys.getD j 0) : xs = ys := by
  apply List.ext_getElem hl
  intro i h1 h2
  have := h i h1
  rw [List.getD_eq_getElem?_getD, List.getD_eq_getElem?_getD, List.getElem?_eq_getElem h1, List.getElem?_eq_getElem h2] at this
  exact this
set_option maxHeartbeats 800000 in
theorem ints_fa (xs ys : List Int) (hl : xs.length ≤ 68719476736) : Fa Tryz.prog 98 [.c (is false xs), .c (is false ys)] (.c (.bool (decide (xs = ys)))) := by
  refine fa_of_body Tryz.func98 rfl rfl (by simp [Tryz.ntmps98]) fun C hC => ?_
  simp only [initS, Nat.reduceAdd]
  refine xG ?_
  refine xF (fun hb=>?_) fun hb=>?_
  · refine xG ?_
    refine xT hC ?_
    refine .one (.c (ler_bool ?_))
    have : xs ≠ ys := fun e => by rw [e] at hb; simp at hb
    simp [this]
  · have hlen : xs.length = ys.length := by
      have : ((xs.length : Int) == (ys.length : Int)) = true := by simpa [bne] using hb
      have := eq_of_beq this; omega
    refine xG ?_
    refine aw_lp (fun i : Nat => [(0, .c (is false xs)), (1, .c (is false ys)), (12, .c (.int .i64 xs.length)), (13, .c (.int .i64 i))]) (fun _ => []) (fun i => i ≤ xs.length ∧ ∀ j, j < i → xs.getD j 0 = ys.getD j 0) (fun i => xs.length - i) 0 eB zZ ⟨Nat.zero_le _, fun j hj => by omega⟩ ?_
    rintro i ⟨hi, hs⟩
    refine xG ?_
    refine xF (fun hb=>?_) fun hb=>?_
    · have hin : i < xs.length := by have := of_decide_eq_true hb; omega
      refine xG ?_
      refine aw_dr 9 ty_mixed (by kernel_rfl) ?_
      refine xG ?_
      refine xF (fun hc=>?_) fun hc=>?_
      · refine xG ?_
        refine xT hC ?_
        refine .one (.c (ler_bool ?_))
        have : xs ≠ ys := fun e => by rw [e] at hc; simp at hc
        simp [this]
      · have he : xs.getD i 0 = ys.getD i 0 := by
          have : ((xs.getD i 0 : Int) == (ys.getD i 0 : Int)) = true := by simpa [bne] using hc
          exact eq_of_beq this
        refine xG ?_
        refine aw_stop ⟨i + 1, by omega, eB, zZ, by omega, fun j hj => ?_⟩
        by_cases hji : j = i
        · rw [hji]; exact he
        · exact hs j (by omega)
    · have hin : i = xs.length := by have := of_decide_eq_false hb; omega
      subst hin
      refine xG ?_
      refine xT hC ?_
      refine .one (.c (ler_bool ?_))
      have : xs = ys := ints_ext hlen hs
      simp [this]
set_option maxHeartbeats 800000 in
theorem slEqual_fa (xs ys : List Int) (hl : xs.length ≤ 68719476736) : Fa Tryz.prog 152 [.c (is false xs), .c (is false ys)] (.c (.bool (decide (xs = ys)))) := by
  refine fa_of_body Tryz.func152 rfl rfl (by simp [Tryz.ntmps152]) fun C hC => ?_
  simp only [initS, Nat.reduceAdd]
  refine xG ?_
  refine xF (fun hb=>?_) fun hb=>?_
  · refine xG ?_
    refine xT hC ?_
    refine .one (.c (ler_bool ?_))
    have : xs ≠ ys := fun e => by rw [e] at hb; simp at hb
    simp [this]
  · have hlen : xs.length = ys.length := by
      have : ((xs.length : Int) == (ys.length : Int)) = true := by simpa [bne] using hb
      have := eq_of_beq this; omega
    refine xG ?_
    refine aw_lp (fun i : Nat => [(0, .c (is false xs)), (1, .c (is false ys)), (12, .c (.int .i64 xs.length)), (13, .c (.int .i64 i))]) (fun _ => []) (fun i => i ≤ xs.length ∧ ∀ j, j < i → xs.getD j 0 = ys.getD j 0) (fun i => xs.length - i) 0 eB zZ ⟨Nat.zero_le _, fun j hj => by omega⟩ ?_
    rintro i ⟨hi, hs⟩
    refine xG ?_
    refine xF (fun hb=>?_) fun hb=>?_
    · have hin : i < xs.length := by have := of_decide_eq_true hb; omega
      refine xG ?_
      refine aw_dr 9 ty_mixed (by kernel_rfl) ?_
      refine xG ?_
      refine xF (fun hc=>?_) fun hc=>?_
      · refine xG ?_
        refine xT hC ?_
        refine .one (.c (ler_bool ?_))
        have : xs ≠ ys := fun e => by rw [e] at hc; simp at hc
        simp [this]
      · have he : xs.getD i 0 = ys.getD i 0 := by
          have : ((xs.getD i 0 : Int) == (ys.getD i 0 : Int)) = true := by simpa [bne] using hc
          exact eq_of_beq this
        refine xG ?_
        refine aw_stop ⟨i + 1, by omega, eB, zZ, by omega, fun j hj => ?_⟩
        by_cases hji : j = i
        · rw [hji]; exact he
        · exact hs j (by omega)
    · have hin : i = xs.length := by have := of_decide_eq_false hb; omega
      subst hin
      refine xG ?_
      refine xT hC ?_
      refine .one (.c (ler_bool ?_))
      have : xs = ys := ints_ext hlen hs
      simp [this]
end Go.Proofs.YtlpejaefobdajaaGreat

/- A growing slice that a field holds is given up; a copy, in order. -/
namespace Go.AI
section
variable {E : Env} {K : List It} {σ σ' : Sl} {h : Heap} {all rest : List Oper} {o : Oper}
/-- A growing slice that a field of a block holds is given up. -/
theorem aw_frzG {gT m s n j0 : Nat} {og : Option Nat} {ty tp : TypeId} {f f' fp : Nat → CV} (hf : f j0 = gs og s n) (hf' : f' j0 = .row true s n fp) (hfo : ∀ j, j < m → j ≠ j0 → f' j = f j) (hog : og = none → n = 0) (ho : ∀ g, og = some g → ¬ E.C.own0 g)
    (k : aw E K σ ((gT, .cells ty m f') :: h)) : aw E K σ ((gT, .cells ty m f) :: (gh og tp (n * s) fp ++ h)) := by
  cases og with
  | none =>
    have hn := hog rfl
    subst hn
    refine aw_convR (f' := f') (fun j hj S w u hr => ?_) k
    by_cases e : j = j0
    · subst e
      rw [hf] at hr
      rw [hf']
      exact repC_nil hr
    · rw [hfo j hj e]; exact hr
  | some gP =>
    have ho := ho gP rfl
    show aw E K σ ((gT, .cells ty m f) :: (gP, .cells tp (n * s) fp) :: h)
    intro a w st
    refine k a w ?_
    have hnd := st.nodup
    simp only [Heap.keys, List.map_cons, List.nodup_cons, List.mem_cons, not_or] at hnd
    obtain ⟨⟨hTP, hTh⟩, hPh, hh⟩ := hnd
    have hgm : (gP, AObj.cells tp (n * s) fp) ∈ (gT, AObj.cells ty m f) :: (gP, .cells tp (n * s) fp) :: h := List.mem_cons_of_mem _ (List.mem_cons_self ..)
    have hkg : gP ∈ Heap.keys ((gT, AObj.cells ty m f) :: (gP, .cells tp (n * s) fp) :: h) := List.mem_map.2 ⟨_, hgm, rfl⟩
    have hks : ∀ b, b ∈ Heap.keys ((gT, AObj.cells ty m f') :: h) → b ∈ Heap.keys ((gT, AObj.cells ty m f) :: (gP, .cells tp (n * s) fp) :: h) := fun b hb => by
      simp only [Heap.keys, List.map_cons, List.mem_cons] at hb ⊢
      exact hb.imp id .inr
    have kp : Keeps (Stab E.C ((gT, .cells ty m f) :: (gP, .cells tp (n * s) fp) :: h) w) (Stab E.C ((gT, .cells ty m f') :: h) w) w w := ⟨fun t b hb => ⟨hb.1, hb.2.1, fun hm => hb.2.2 (hks b hm)⟩, fun _ _ _ => rfl, fun _ _ e => e⟩
    refine ⟨st.size, st.defers, fun t => Rep.keep kp (st.slots t), fun g ob hm => ?_, ?_, fun g hg => st.keys g (hks g hg), st.frame⟩
    · rcases List.mem_cons.1 hm with e | hm
      · rw [Prod.mk.injEq] at e
        obtain ⟨e1, e2⟩ := e
        rw [e1, e2]
        clear hm e1 e2
        obtain ⟨cs, hb, hcs, hj⟩ := st.heap gT _ (List.mem_cons_self ..)
        refine ⟨cs, hb, hcs, fun j hjm => ?_⟩
        obtain ⟨u, hu, hr⟩ := hj j hjm
        refine ⟨u, hu, ?_⟩
        by_cases e : j = j0
        · subst e
          rw [hf] at hr
          rw [hf']
          obtain ⟨c, hv, hc, _, _⟩ := hr
          obtain ⟨cs2, hb2, hcs2, hj2⟩ := st.heap gP _ hgm
          refine ⟨some ⟨gP, 0, none⟩, c, hv, hc, fun _ => ⟨⟨gP, 0, none⟩, rfl, ⟨.inr ((st.keys gP hkg).resolve_left ho), st.klt hkg, ?_⟩, fun q hq => ?_⟩⟩
          · simp only [Heap.keys, List.map_cons, List.mem_cons, not_or]
            exact ⟨fun e => hTP e.symm, hPh⟩
          · obtain ⟨u2, hu2, hr2⟩ := hj2 q hq
            exact ⟨u2, by rw [add_mk, Nat.zero_add, cell_own hb2]; exact hu2, hr2.keep kp⟩
        · rw [hfo j hjm e]
          exact hr.keep kp
      · exact ORep.keep kp rfl (st.heap g ob (List.mem_cons_of_mem _ (List.mem_cons_of_mem _ hm)))
    · simp only [Heap.keys, List.map_cons, List.nodup_cons]
      exact ⟨hTh, hh⟩
/-- A calm operation, in order. -/
theorem aw_calmX {r : AV} (hc : CalmX E h all σ o r) (k : aw E (.ops all rest :: K) (σ.setO o.dst r) h) : aw E (.ops all (o :: rest) :: K) σ h := fun a w s => by
  show wpList _ _ _ _ _ _
  unfold wpList
  have := hc.2 σ [] a w (exW E K) (fun _ _ => rfl) (by simpa using s)
  split
  · rename_i hw
    rw [if_pos hw] at this
    exact .inl (Oper.wp_mono (fun a' w' s' => k a' w' (by simpa using s')) this)
  · rename_i hw
    rw [if_neg hw] at this
    subst this
    exact k _ _ (s.put hc.1 (r := .tup []) ⟨[], rfl, trivial⟩)
/-- append(nil, x...) -/
theorem aw_copy {t e size bytes k : Nat} {z : List CV} {f2 : Nat → CV} {s x : Operand} {cx : CV} (hop : o.op = .call { callee := .builtin .append, args := #[s, x], argTypes := #[t, t] }) (hw : wantA all σ o = some true) (hd : dstOk E.N o.dst = true)
    (ht : tElem E.P t = some (e, size, bytes)) (hz : tZero E.P e = some z) (hzl : z.length = size) (hs0 : 0 < size) (hs : ev σ s = .c .nils) (hx : ev σ x = .c cx) (hsrc : Src h size cx k f2)
    (h63 : k ≤ maxLen) (hby : k * bytes ≤ 140737488355328) (kk : aw E (.ops all rest :: K) (σ.setO o.dst (.c (.row true size k f2))) h) : aw E (.ops all (o :: rest) :: K) σ h :=
  aw_calmX (CalmX.copy hop hw hd ht hz hzl hs0 hs hx hsrc h63 hby) kk
end
end Go.AI

/- faultlineref16.Check, algebra.open. -/
namespace Go.AI
/-- Lists of diagrams. -/
def dgZ : DG := ⟨[], [], 0⟩
def dgsF (ds : List DG) : Nat → CV := lf 3 (fun d : DG => [is false d.order, dns false d.nodes, CV.int .i64 d.root]) dgZ ds
@[go_sem] theorem dgsF_0 (ps : List DG) (i : Nat) : dgsF ps (i * 3) = is false (ps.getD i dgZ).order := by
  have := lf_at (s := 3) (c := fun d : DG => [is false d.order, dns false d.nodes, CV.int .i64 d.root]) (d := dgZ) (xs := ps) (i := i) (k := 0) (by omega)
  exact this
@[go_sem] theorem dgsF_1 (ps : List DG) (i : Nat) : dgsF ps (i * 3 + 1) = dns false (ps.getD i dgZ).nodes := by
  have := lf_at (s := 3) (c := fun d : DG => [is false d.order, dns false d.nodes, CV.int .i64 d.root]) (d := dgZ) (xs := ps) (i := i) (k := 1) (by omega)
  exact this
@[go_sem] theorem dgsF_2 (ps : List DG) (i : Nat) : dgsF ps (i * 3 + 2) = .int .i64 (ps.getD i dgZ).root := by
  have := lf_at (s := 3) (c := fun d : DG => [is false d.order, dns false d.nodes, CV.int .i64 d.root]) (d := dgZ) (xs := ps) (i := i) (k := 2) (by omega)
  exact this
@[go_sem] theorem dgsF_00 (ps : List DG) : dgsF ps 0 = is false (ps.getD 0 dgZ).order := dgsF_0 ps 0
theorem dgsF_tail (ds : List DG) (j : Nat) : dgsF ds (3 + j) = dgsF ds.tail j := by
  unfold dgsF lf
  rw [show (3 + j) / 3 = j / 3 + 1 from by omega, show (3 + j) % 3 = j % 3 from by omega]
  cases ds with
  | nil => rfl
  | cons d ds => rfl
abbrev dgs (t : Bool) (ds : List DG) : CV := .row t 3 ds.length (dgsF ds)
theorem getD_memG {ds : List DG} {i : Nat} (h : i < ds.length) : ds.getD i dgZ ∈ ds := by
  rw [List.getD_eq_getElem?_getD, List.getElem?_eq_getElem h]
  exact List.getElem_mem h
theorem getD_tailG (ds : List DG) (i : Nat) : ds.tail.getD i dgZ = ds.getD (i + 1) dgZ := by
  cases ds with
  | nil => rfl
  | cons d ds => rfl
end Go.AI
namespace Go.PN
open Go.AI
/-- The error of a list of diagrams. -/
def c16a : List DG → Int
  | [] => 0
  | d :: ds => if dcode d ≠ 0 then dcode d else c16a ds
theorem c16a_at : ∀ {ds : List DG} {i : Nat}, i < ds.length → (∀ j, j < i → dcode (ds.getD j dgZ) = 0) → dcode (ds.getD i dgZ) ≠ 0 → c16a ds = dcode (ds.getD i dgZ)
  | d :: ds, 0, _, _, h => by rw [c16a]; exact if_pos h
  | d :: ds, i + 1, hi, hj, h => by
    rw [c16a, if_neg (by have := hj 0 (by omega); simpa using this)]
    exact c16a_at (by simpa using hi) (fun j hjl => hj (j + 1) (by omega)) h
theorem c16a_0 : ∀ {ds : List DG}, (∀ j, j < ds.length → dcode (ds.getD j dgZ) = 0) → c16a ds = 0
  | [], _ => rfl
  | d :: ds, h => by
    rw [c16a, if_neg (by have := h 0 (by simp); simpa using this)]
    exact c16a_0 fun j hj => h (j + 1) (by simpa using hj)
def c16 (ds : List DG) : Int := if c16a ds ≠ 0 then c16a ds else if ∀ j, j < ds.length → (ds.getD j dgZ).order = (ds.getD 0 dgZ).order then 0 else 13
instance c16dec (ds : List DG) : Decidable (∀ j, j < ds.length → (ds.getD j dgZ).order = (ds.getD 0 dgZ).order) := Nat.decidableBallLT _ _
theorem c16_ok {ds : List DG} (h : c16 ds = 0) : (∀ j, j < ds.length → dcode (ds.getD j dgZ) = 0) ∧ ∀ j, j < ds.length → (ds.getD j dgZ).order = (ds.getD 0 dgZ).order := by
  unfold c16 at h
  split at h
  · rename_i hc; exact absurd h hc
  · rename_i hc
    split at h
    · rename_i ho
      refine ⟨fun j hj => Classical.byContradiction fun hn => ?_, ho⟩
      have hc' : c16a ds = 0 := by simpa using hc
      have key : ∀ (i : Nat), i ≤ j → ∀ q, q < i → dcode (ds.getD q dgZ) = 0 := by
        intro i
        induction i with
        | zero => intro _ q hq; omega
        | succ i ih =>
          intro hi q hq
          by_cases hqi : q = i
          · subst hqi
            refine Classical.byContradiction fun hb => ?_
            have := c16a_at (by omega) (ih (by omega)) hb
            rw [hc'] at this
            exact hb this.symm
          · exact ih (by omega) q (by omega)
      have := c16a_at hj (key j (Nat.le_refl _)) hn
      rw [hc'] at this
      exact hn this.symm
    · cases h
theorem perm_mid {α : Type} (a : α) (T R : List α) : (a :: (T ++ R)).Perm (T ++ (a :: R)) := List.perm_middle.symm
/-- References of the diagrams of a list. -/
structure OpS (ds : List DG) (k : Nat) (ns : List DN) (rl : List Int) : Prop where
  len : rl.length = k
  ref : ∀ j, j < k → RefOk ns (rl.getD j 0) ∧ ∀ s, evalD ns s (rl.getD j 0) = evalD (ds.getD j dgZ).nodes s (ds.getD j dgZ).root
theorem OpS.push {ds : List DG} {k : Nat} {o : List Int} {ns ns' : List DN} {m : Nat} {rl : List Int} {x : Int} (h : OpS ds k ns rl) (ht : TabOk o ns) (hl : Later o ns ns' m) (hx : RefOk ns' x) (he : ∀ s, evalD ns' s x = evalD (ds.getD k dgZ).nodes s (ds.getD k dgZ).root) : OpS ds (k + 1) ns' (rl ++ [x]) := by
  have hlen := h.len
  refine ⟨by simp [h.len], fun j hj => ?_⟩
  by_cases e : j = k
  · have e1 : (rl ++ [x]).getD j 0 = x := by
      rw [List.getD_eq_getElem?_getD, List.getElem?_append_right (by omega), show j - rl.length = 0 from by omega]; rfl
    rw [e1, e]
    exact ⟨hx, he⟩
  · obtain ⟨a, b⟩ := h.ref j (by omega)
    have e1 : (rl ++ [x]).getD j 0 = rl.getD j 0 := by
      rw [List.getD_eq_getElem?_getD, List.getElem?_append_left (by omega), ← List.getD_eq_getElem?_getD]
    rw [e1]
    exact ⟨hl.ref a, fun s => by rw [hl.eval ht a]; exact b s⟩
end Go.PN
namespace Go.Proofs.YtlpejaefobdajaaGreat
open Go.AI Go.PN
attribute [local irreducible] aw Fa Fh DrK
set_option maxRecDepth 100000 in
set_option maxHeartbeats 3200000 in
theorem check16_fa (ds : List DG) (hl : ds.length ≤ 1000) (hs : ∀ d ∈ ds, d.order.length ≤ 68719476736 ∧ d.nodes.length ≤ 1099511627776) : Fa Tryz.prog 39 [.c (dgs false ds)] (.c (.int .i64 (c16 ds))) := by
  refine fa_of_body Tryz.func39 rfl rfl (by simp [Tryz.ntmps39]) fun C hC => ?_
  simp only [initS, Nat.reduceAdd]
  refine xG ?_
  refine aw_lp (fun i : Nat => [(0, .c (dgs false ds)), (3, .c (.int .i64 i))]) (fun _ => []) (fun i => i ≤ ds.length ∧ ∀ j, j < i → dcode (ds.getD j dgZ) = 0) (fun i => ds.length - i) 0 eB zZ ⟨Nat.zero_le _, fun j hj => by omega⟩ ?_
  rintro i ⟨hi, hz⟩
  refine xG ?_
  refine xF (fun h1=>?_) fun h1=>?_
  · have h1' : i < ds.length := by have := of_decide_eq_true h1; omega
    obtain ⟨b1, b2⟩ := hs _ (getD_memG h1')
    refine xG ?_
    refine xC (dcheckR_fa (ds.getD i dgZ) ?_ b2) ?_
    · omega
    refine xG ?_
    refine xF (fun h2=>?_) fun h2=>?_
    · have h2' : ¬ dcode (ds.getD i dgZ) = 0 := by simpa using h2
      have e := c16a_at h1' hz h2'
      refine xG ?_
      refine xT hC ?_
      refine .one (.c (ler_int ?_))
      unfold c16
      rw [if_pos (by rw [e]; exact h2'), e]
    · have h2' : dcode (ds.getD i dgZ) = 0 := by simpa using h2
      refine xG ?_
      refine aw_stop ⟨i + 1, by omega, eB, zZ, by omega, fun j hj => ?_⟩
      by_cases hji : j = i
      · rw [hji]; exact h2'
      · exact hz j (by omega)
  · have h1' : i = ds.length := by have := of_decide_eq_false h1; omega
    subst h1'
    have e0 := c16a_0 hz
    refine xG ?_
    refine aw_lp (fun i : Nat => [(0, .c (dgs false ds)), (5, .c (.int .i64 i))]) (fun _ => []) (fun i => 1 ≤ i ∧ (i ≤ ds.length ∨ i = 1) ∧ ∀ j, j < i → j < ds.length → (ds.getD j dgZ).order = (ds.getD 0 dgZ).order) (fun i => ds.length - i) 1 eB zZ ⟨Nat.le_refl _, .inr rfl, fun j hj _ => by rw [show j = 0 from by omega]⟩ ?_
    rintro i ⟨h0, hi, ho⟩
    refine xG ?_
    refine xF (fun h3=>?_) fun h3=>?_
    · have h3' : i < ds.length := by have := of_decide_eq_true h3; omega
      obtain ⟨b1, b2⟩ := hs _ (getD_memG h3')
      refine xG ?_
      refine aw_dr 11 ty_mixed (by kernel_rfl) ?_
      refine xG ?_
      refine xD (ints_fa (ds.getD i dgZ).order (ds.getD 0 dgZ).order ?_) ?_
      · omega
      refine xG ?_
      refine xF (fun h4=>?_) fun h4=>?_
      · have h4' : ¬ (ds.getD i dgZ).order = (ds.getD 0 dgZ).order := by simpa using h4
        refine xG ?_
        refine xT hC ?_
        refine .one (.c (ler_int ?_))
        unfold c16
        rw [if_neg (by simpa using e0), if_neg fun h => h4' (h i h3')]
      · have h4' : (ds.getD i dgZ).order = (ds.getD 0 dgZ).order := by simpa using h4
        refine xG ?_
        refine aw_stop ⟨i + 1, by omega, eB, zZ, by omega, .inl (by omega), fun j hj hjl => ?_⟩
        by_cases hji : j = i
        · rw [hji]; exact h4'
        · exact ho j (by omega) hjl
    · have h3' : ds.length ≤ i := by have := of_decide_eq_false h3; omega
      refine xG ?_
      refine xT hC ?_
      refine .one (.c (ler_int ?_))
      unfold c16
      rw [if_neg (by simpa using e0), if_pos fun j hj => ho j (by omega) hj]
set_option maxRecDepth 100000 in
set_option maxHeartbeats 3200000 in
theorem open_fh (ds : List DG) (h0 : 0 < ds.length) (hl : ds.length ≤ 1000) (hz : ∀ j, j < ds.length → dcode (ds.getD j dgZ) = 0) (ho : ∀ j, j < ds.length → (ds.getD j dgZ).order = (ds.getD 0 dgZ).order) :
    Fh Tryz.prog 106 [] [.c (dgs false ds)] (fun x h => ∃ gT gU gM og ns mm rl, TS (ds.getD 0 dgZ).order og ns mm ∧ OpS ds ds.length ns rl ∧ ns.length ≤ ds.length * 4096 ∧ x = .tup [.c (.optr gT 0), .c (is true rl), .c .nilI] ∧ h = THp gT gU gM og (ds.getD 0 dgZ).order (placesL (ds.getD 0 dgZ).order) ns mm) := by
  refine fh_of_body Tryz.func106 rfl rfl (by simp [Tryz.ntmps106]) fun C hC => ?_
  simp only [initS, Nat.reduceAdd]
  refine xG ?_
  refine aw_lp (fun i : Nat => [(0, .c (dgs false ds)), (14, .c (dgs false ds)), (15, .c (.int .i64 ds.length)), (16, .c (.int .i64 i))]) (fun _ => []) (fun i => i ≤ ds.length) (fun i => ds.length - i) 0 eB zZ (Nat.zero_le _) ?_
  rintro i hi
  refine xG ?_
  refine xF (fun h1=>?_) fun h1=>?_
  · have h1' : i < ds.length := by have := of_decide_eq_true h1; omega
    have ok := dg_ok (hz i h1')
    have k1 := ok.n4096
    have k2 := ok.o24
    have z := ieq_t (hz i h1')
    refine yG z ?_
    refine yA z fun g6 hn_g6=>?_
    refine yG (oj z hn_g6) ?_
    refine yW (oj z hn_g6) ?_
    refine yS (oj z hn_g6) ?_
    refine yG (oj z hn_g6) ?_
    refine aw_callq (dcheck_fa (ds.getD i dgZ) (by omega) (by omega)) rfl rfl rfl (zL (oj z hn_g6)) ?_
    refine yS (oj z hn_g6) ?_
    refine yG (oj z hn_g6) ?_
    refine yN (oj z hn_g6) ?_
    refine yG (oj z hn_g6) ?_
    exact aw_stop ⟨i + 1, by omega, (zB (oj z hn_g6)), List.nil_sublist _, by omega⟩
  have h1' : i = ds.length := by have := of_decide_eq_false h1; omega
  subst h1'
  refine xG ?_
  rw [show (fun j => dgsF ds (3 + j)) = dgsF ds.tail from funext (dgsF_tail ds)]
  have htl : ds.length - 1 = ds.tail.length := by simp
  rw [htl]
  refine aw_lp (fun i : Nat => [(0, .c (dgs false ds)), (27, .c (dgs false ds.tail)), (28, .c (.int .i64 ds.tail.length)), (29, .c (.int .i64 i))]) (fun _ => []) (fun i => i ≤ ds.tail.length) (fun i => ds.tail.length - i) 0 eB zZ (Nat.zero_le _) ?_
  clear h1 hi
  rintro i hi
  refine xG ?_
  refine xF (fun h1=>?_) fun h1=>?_
  · have h1' : i < ds.tail.length := by have := of_decide_eq_true h1; omega
    have e : (ds.tail.getD i dgZ).order = (ds.getD 0 dgZ).order := by rw [getD_tailG]; exact ho (i + 1) (by omega)
    have k2 := (dg_ok (hz 0 h0)).o24
    have z : decide ((ds.tail.getD i dgZ).order = (ds.getD 0 dgZ).order) = true := decide_eq_true e
    refine yG z ?_
    refine yA z fun g9 hn_g9=>?_
    refine yG (oj z hn_g9) ?_
    refine yW (oj z hn_g9) ?_
    refine yS (oj z hn_g9) ?_
    refine yG (oj z hn_g9) ?_
    refine aw_dr 8 ty_mixed (by kernel_rfl) ?_
    refine yG (oj z hn_g9) ?_
    refine yD (oj z hn_g9) (slEqual_fa (ds.tail.getD i dgZ).order (ds.getD 0 dgZ).order ?_) ?_
    · rw [e]; omega
    refine yG (oj z hn_g9) ?_
    refine yN (oj z hn_g9) ?_
    refine yG (oj z hn_g9) ?_
    exact aw_stop ⟨i + 1, by omega, (zB (oj z hn_g9)), List.nil_sublist _, by omega⟩
  have okall : ∀ j, j < ds.length → DgOk (ds.getD j dgZ) := fun j hj => dg_ok (hz j hj)
  have ok0 := okall 0 h0
  clear h1 hi htl
  refine xG ?_
  refine aw_callh (hc := []) (hr := []) (new_fh (ds.getD 0 dgZ).order ok0.perm ok0.o24) rfl rfl rfl (.refl _) eL ?_
  rintro _ _ ⟨gT, gU, gM, rfl, rfl⟩ _
  rw [List.append_nil]
  refine xS ?_
  refine xG ?_
  obtain ⟨o, hoo⟩ : ∃ o, o = (ds.getD 0 dgZ).order := ⟨_, rfl⟩
  rw [← hoo] at ho ⊢
  have hperm : Perm0 o := by rw [hoo]; exact (okall 0 h0).perm
  have h24 : o.length ≤ 24 := by rw [hoo]; exact (okall 0 h0).o24
  have ts0 : TS o none [] [] := ⟨fun _ => rfl, fun i hi => absurd hi (Nat.not_lt_zero _), fun e he => absurd he List.not_mem_nil⟩
  refine aw_lp (fun x : Nat × Option Nat × Option Nat × List DN × Mem3 × List Int => [(0, .c (dgs false ds)), (10, .c (.optr gT 0)), (11, .c (gs x.2.1 1 x.1)), (48, .c (dgs false ds)), (49, .c (.int .i64 ds.length)), (50, .c (.int .i64 x.1))]) (fun x => THp gT gU gM x.2.2.1 o (placesL o) x.2.2.2.1 x.2.2.2.2.1 ++ gh x.2.1 3 (x.1 * 1) (isF x.2.2.2.2.2))
    (fun x => x.1 ≤ ds.length ∧ (x.2.1 = none → x.1 = 0) ∧ TS o x.2.2.1 x.2.2.2.1 x.2.2.2.2.1 ∧ OpS ds x.1 x.2.2.2.1 x.2.2.2.2.2 ∧ x.2.2.2.1.length ≤ x.1 * 4096) (fun x => ds.length - x.1) (0, none, none, [], [], []) eB (by simp only [gh, List.append_nil]; exact List.Sublist.refl _) ⟨Nat.zero_le _, fun _ => rfl, ts0, ⟨rfl, fun j hj => absurd hj (Nat.not_lt_zero _)⟩, Nat.zero_le _⟩ ?_
  rintro ⟨k, ogr, og, ns, mm, rl⟩ ⟨hk, hog, hs, hop, hn⟩
  dsimp only at hk hog hs hop hn ⊢
  refine xG ?_
  refine xF (fun h1=>?_) fun h1=>?_
  · have h1' : k < ds.length := by have := of_decide_eq_true h1; omega
    have e : (ds.getD k dgZ).order = o := ho k h1'
    have okk := okall k h1'
    have k1 := okk.n4096
    have I := import_fh gT gU gM (ds.getD k dgZ) okk (pl := placesL o) (og := og) (ns := ns) (mm := mm) (by rw [e]; exact hs) (by omega)
    rw [e] at I
    refine xG ?_
    refine xA fun g13 hn_g13=>?_
    refine yG hn_g13 ?_
    refine yW hn_g13 ?_
    refine yS hn_g13 ?_
    refine yG hn_g13 ?_
    refine aw_callh (hc := THp gT gU gM og o (placesL o) ns mm) (hr := (g13, .cells 25 3 (ofL [is false (ds.getD k dgZ).order, dns false (ds.getD k dgZ).nodes, .int .i64 (ds.getD k dgZ).root])) :: gh ogr 3 k (isF rl)) I rfl rfl rfl (perm_mid (g13, _) _ _) (zL hn_g13) ?_
    rintro _ _ ⟨og1, ns1, mm1, x, e1, e2, e3, e4, rfl, rfl⟩ _
    refine aw_perm (perm_mid (g13, _) _ _).symm ?_
    have n1 := e2.len
    have hp := hop.push hs.tab e2 e3 e4
    simp only [THp, TH, List.cons_append, List.nil_append, List.append_assoc]
    refine yS hn_g13 ?_
    refine yG hn_g13 ?_
    refine aw_push (pre := (g13, .cells 25 3 (ofL [is false (ds.getD k dgZ).order, dns false (ds.getD k dgZ).nodes, .int .i64 (ds.getD k dgZ).root])) :: ([(gT, .cells 158 5 (ofL [is true o, is true (placesL o), gs og1 3 ns1.length, .raw (.map (some gU)), .raw (.map (some gM))])), (gU, .gen (MapI dkV (uqTo ns1 0))), (gM, .gen (MapI key3 (mmL mm1)))] ++ gh og1 139 (ns1.length * 3) (dnsF ns1))) rfl rfl rfl rfl rfl rfl rfl (zE hn_g13) (zE hn_g13) (by rfl) (by omega) (by omega) (zE hn_g13) (by omega) (by exact hog) (zE hn_g13) (by rfl) (by rfl) (by first | rfl | simp only [Nat.mul_one, List.nil_append, List.cons_append] <;> rfl) (by unfold maxLen; omega) (by omega) (by exact is_push hop.len x) fun g hn_g => ?_
    replace hn_g := Heap.ne_of hn_g
    first | dsimp only [Heap.ne, gh] at hn_g | dsimp only [Heap.ne] at hn_g | skip
    refine yS (oj hn_g13 hn_g) ?_
    refine yG (oj hn_g13 hn_g) ?_
    refine aw_stop ⟨(k + 1, some g, og1, ns1, mm1, rl ++ [x]), by dsimp only; omega, (zB (oj hn_g13 hn_g)), ?_, by dsimp only; omega, some_ne, e1, hp, by dsimp only; omega⟩
    simp only [THp, TH, List.cons_append, List.nil_append, List.append_assoc]
    exact List.Sublist.cons _ (List.Sublist.refl _)
  · have h1' : k = ds.length := by have := of_decide_eq_false h1; omega
    subst h1'
    obtain ⟨g, rfl⟩ : ∃ g, ogr = some g := by
      cases ogr with
      | none => have := hog rfl; omega
      | some g => exact ⟨g, rfl⟩
    simp only [gs, gh]
    refine xG ?_
    refine aw_nd fun hnd => ?_
    have hg : g ∉ (THp gT gU gM og o (placesL o) ns mm).keys := by
      have h2 : ((THp gT gU gM og o (placesL o) ns mm).keys ++ [g]).Nodup := by simpa [Heap.keys] using hnd
      exact fun hm => (List.nodup_append.1 h2).2.2 g hm g (by simp) rfl
    refine aw_frz (t := 3) (f := isF rl) rfl (Heap.get_app hg) (by omega) (fun h => by have := (hC g).1 h; simp [Heap.keys] at this) rfl (Heap.del_app hg) ?_
    have e : (CV.row true 1 ds.length fun j => isF rl (0 + j)) = is true rl := by rw [← hop.len]; simp only [Nat.zero_add]
    rw [e]
    refine xS ?_
    refine xU ?_
    exact ⟨gT, gU, gM, og, ns, mm, rl, hs, hop, hn, rfl, rfl⟩
end Go.Proofs.YtlpejaefobdajaaGreat

/- The length of a map. -/
namespace Go.AI
section
variable {E : Env} {K : List It} {σ σ' : Sl} {h : Heap} {all rest : List Oper} {o : Oper}
theorem lenMap_run {P : Program} {α : Type} {Kf : α → Value} {t kt et : TypeId} {kv : List (α × Value)} {x : Operand} {e : Operand → Value} {g : Nat} {w : World} {es : Array MapEntry} {c : Nat} (hop : o.op = .call { callee := .builtin .len, args := #[x], argTypes := #[t] }) (ht : tMap P t = some (kt, et)) (hx : e x = .map (some g)) (hb : w.heap[g]? = some (.map es c))
    (hes : es.toList.map (fun e => (e.key, e.val)) = kv.map (fun p => (Kf p.1, p.2))) : (execOp e o).run P w = .ok (.value (.int .i64 (kv.length : Int))) w := by
  have hl : es.size = kv.length := by
    have := congrArg List.length hes
    simpa using this
  simp [execOp, hop, resolve, invoke, Go.builtin, Builtin.len_, hx, run_underlying (tMap_spec ht), runGet hb, goInt, hl]
/-- len(m) -/
theorem aw_lenMap {α : Type} {Kf : α → Value} {t kt et g : TypeId} {kv : List (α × Value)} {x : Operand} (hop : o.op = .call { callee := .builtin .len, args := #[x], argTypes := #[t] }) (hw : wantA all σ o = some true) (hd : dstOk E.N o.dst = true)
    (ht : tMap E.P t = some (kt, et)) (hx : ev σ x = .c (.raw (.map (some g)))) (hg : h.get g = some (.gen (MapI Kf kv)))
    (k : aw E (.ops all rest :: K) (σ.setO o.dst (.c (.int .i64 (kv.length : Int)))) h) : aw E (.ops all (o :: rest) :: K) σ h := by
  refine aw_step hw (fun ac w s => ?_) k
  have h1 := ev_rep s x
  rw [hx] at h1
  have h1' : ac.eval x = .map (some g) := h1
  obtain ⟨ob, hb, es, c, rfl, hes⟩ := s.heap g _ (Heap.get_mem hg)
  exact ⟨_, w, .inl (lenMap_run hop ht h1' hb hes), s.put hd rfl⟩
end
end Go.AI

/- decision.Table: Small. -/
namespace Go.Proofs.YtlpejaefobdajaaGreat
open Go.AI Go.PN
attribute [local irreducible] aw Fa Fh DrK
theorem ty_bz : tZ1 Tryz.prog 4 = some (.bool false) := by kernel_rfl
@[go_sem] theorem ty_mib_s : tSz Tryz.prog 209 = some (false, 1) := by kernel_rfl
@[go_sem] theorem ty_mib_z : tZero Tryz.prog 209 = some [.raw (.map none)] := by kernel_rfl
/-- What the walk of Small has captured. -/
abbrev S6 (g1 g2 g3 g4 gd gT : Nat) (most : Int) (sl : List Int) : Heap :=
  [(g1, .cells 209 1 (ofL [.raw (.map (some gd))])), (g2, .cells 3 1 (ofL [.int .i64 most])), (g3, .cells 198 1 (ofL [fnC 189 [g1, g2, g3, g4]])), (g4, .cells 96 1 (ofL [.optr gT 0])), (gd, .gen (MapI keyI (snL sl)))]
set_option maxRecDepth 100000 in
set_option maxHeartbeats 6400000 in
theorem swalk_fh (g1 g2 g3 g4 gd gT gU gM : Nat) (most : Int) {o pl : List Int} {og : Option Nat} {ns : List DN} {mm : Mem3} (hs : TS o og ns mm) (hn : ns.length ≤ 1000000000) : ∀ (k : Nat) (r : Int) (sl : List Int), r.toNat < k → RefOk ns r →
    Fh Tryz.prog 189 (S6 g1 g2 g3 g4 gd gT most sl ++ THp gT gU gM og o pl ns mm) ([.c (.int .i64 r)] ++ [g1, g2, g3, g4].map fun g => .c (.optr g 0)) (fun x h => ∃ sl', Sm o ns sl sl' r ∧ x = .tup [] ∧ h = S6 g1 g2 g3 g4 gd gT most sl' ++ THp gT gU gM og o pl ns mm) := by
  intro k
  induction k with
  | zero => intro r sl hk; omega
  | succ k ih =>
    intro r sl hk hr
    simp only [List.cons_append, List.nil_append, List.map_cons, List.map_nil]
    refine fh_of_body Tryz.func189 rfl rfl (by simp [Tryz.ntmps189]) fun C hC => ?_
    simp only [initS, Nat.reduceAdd]
    simp only [S6, THp, TH, List.cons_append, List.nil_append]
    refine aw_nd fun hnd => ?_
    simp only [Heap.keys, List.map_cons] at hnd
    replace hnd := ndP_of hnd
    dsimp only [ndP, neA] at hnd
    refine yG hnd ?_
    refine aw_split 8 (zE hnd) (fun h1 => ?_) (fun h1 => ?_) <;> refine yS hnd ?_
    · refine yG hnd ?_
      refine yP hnd ?_
      refine yG hnd ?_
      refine yU hnd ?_
      exact ⟨sl, Sm.same, rfl, rfl⟩
    have h1' := of_decide_eq_false h1
    have h2 : 2 ≤ r := by omega
    refine yG hnd ?_
    refine aw_lookup (a := r) (kv := snL sl) (Kf := keyI) (kt := 3) (et := 4) rfl rfl rfl (by kernel_rfl) ty_ki ty_bz (zE hnd) (zE hnd) (zE hnd) keyI_rep ?_
    refine yS hnd ?_
    rw [sn_get]
    by_cases hm : r ∈ sl
    · rw [if_pos hm]
      simp only [Option.getD_some, cstC]
      refine yG hnd ?_
      refine yP hnd ?_
      refine yG hnd ?_
      refine yU hnd ?_
      exact ⟨sl, Sm.same, rfl, rfl⟩
    rw [if_neg hm]
    simp only [Option.getD_none, cstC]
    refine yG hnd ?_
    refine aw_lenMap (kv := snL sl) (Kf := keyI) (kt := 3) (et := 4) rfl rfl rfl (by kernel_rfl) (zE hnd) (zE hnd) ?_
    refine yS hnd ?_
    refine yG hnd ?_
    refine yF hnd (fun h3=>?_) fun h3=>?_
    · refine yG hnd ?_
      refine yU hnd ?_
      exact ⟨sl, Sm.same, rfl, rfl⟩
    obtain ⟨g, rfl⟩ : ∃ g, og = some g := by
      cases og with
      | none => have := hs.og rfl; unfold RefOk at hr; omega
      | some g => exact ⟨g, rfl⟩
    simp only [gh, List.map_cons, List.map_nil, neA, ndP] at hnd
    simp only [gs, gh]
    have hi : (r - 2).toNat < ns.length := by unfold RefOk at hr; omega
    obtain ⟨w0, w1, w2, w3, w4, w5⟩ := (hs.tab.ns _ hi)
    obtain ⟨kl, kh⟩ := kids_ref hs.tab hi
    have hrl : r < ns.length + 2 := hr.2
    have nd0 : ∀ s1 s2, Sm o ns (sl ++ [r]) s1 (ns.getD (r - 2).toNat dn0).lo → Sm o ns s1 s2 (ns.getD (r - 2).toNat dn0).hi → Sm o ns sl s2 r := fun s1 s2 a b => Sm.node hs.tab h2 hrl a b
    generalize hx0 : ns.getD (r - 2).toNat dn0 = nd at *
    refine yG (oj hnd hx0) ?_
    refine aw_mapNew (a := r) (kv := snL sl) (Kf := keyI) (v := .bool true) rfl rfl rfl (kt := 3) (et := 4) (by kernel_rfl) ty_ki (zE (oj hnd hx0)) (zE (oj hnd hx0)) (zE (oj hnd hx0)) keyI_rep (cv := .c (.bool true)) (zE (oj hnd hx0)) (fun S w u h => h) (by rw [sn_get, if_neg hm]) (zE (oj hnd hx0)) ?_
    rw [sn_push]
    refine yS (oj hnd hx0) ?_
    refine yG (oj hnd hx0) ?_
    refine aw_cw ([(g3, .cells 198 1 (ofL [fnC 189 [g1, g2, g3, g4]])), (g4, .cells 96 1 (ofL [.optr gT 0])), (gT, .cells 158 5 (ofL [is true o, is true pl, .osl g 3 0 ns.length, .raw (.map (some gU)), .raw (.map (some gM))])), (g, .cells 139 (ns.length * 3) (dnsF ns))]) [(0,0),(1,0),(2,0),(3,0),(4,0),(5,0),(6,0),(7,0),(8,0),(9,0),(10,1)] ty_mixed (by kernel_rfl) eI ?_
    refine yG (oj hnd hx0) ?_
    refine cw_callhv (gs := [g1, g2, g3, g4]) (hr := []) rfl (ih nd.lo (sl ++ [r]) (by omega) kl) rfl rfl rfl (zE (oj hnd hx0)) (by rw [List.append_nil]; exact .refl _) (zL (oj hnd hx0)) (by
      rintro _ _ ⟨_, _, rfl, rfl⟩; simp only [S6, THp, TH, gs, gh, List.append_assoc, List.cons_append, List.nil_append]; exact eI) ?_ (hm := .inr ⟨rfl, rfl⟩)
    rintro _ _ ⟨sl1, m1, rfl, rfl⟩ _
    rw [List.append_nil]
    simp only [S6, THp, TH, gs, gh, List.cons_append, List.nil_append]
    refine yS (oj hnd hx0) ?_
    refine yG (oj hnd hx0) ?_
    refine aw_cw ([(g3, .cells 198 1 (ofL [fnC 189 [g1, g2, g3, g4]])), (g4, .cells 96 1 (ofL [.optr gT 0])), (gT, .cells 158 5 (ofL [is true o, is true pl, .osl g 3 0 ns.length, .raw (.map (some gU)), .raw (.map (some gM))])), (g, .cells 139 (ns.length * 3) (dnsF ns))]) [(0,0),(1,0),(2,0),(3,0),(4,0),(5,0),(6,0),(7,0),(8,0),(9,0),(10,1)] ty_mixed (by kernel_rfl) eI ?_
    refine yG (oj hnd hx0) ?_
    refine cw_callhv (gs := [g1, g2, g3, g4]) (hr := []) rfl (ih nd.hi sl1 (by omega) kh) rfl rfl rfl (zE (oj hnd hx0)) (by rw [List.append_nil]; exact .refl _) (zL (oj hnd hx0)) (by
      rintro _ _ ⟨_, _, rfl, rfl⟩; simp only [S6, THp, TH, gs, gh, List.append_assoc, List.cons_append, List.nil_append]; exact eI) ?_ (hm := .inr ⟨rfl, rfl⟩)
    rintro _ _ ⟨sl2, m2, rfl, rfl⟩ _
    rw [List.append_nil]
    refine yS (oj hnd hx0) ?_
    refine yG (oj hnd hx0) ?_
    refine yV (oj hnd hx0) ?_
    exact ⟨sl2, nd0 sl1 sl2 m1 m2, rfl, rfl⟩
set_option maxRecDepth 100000 in
set_option maxHeartbeats 3200000 in
theorem small_fh (gT gU gM : Nat) {o pl : List Int} (ho : OdOk o pl) {og : Option Nat} {ns : List DN} {mm : Mem3} (hs : TS o og ns mm) (hn : ns.length ≤ 1000000000) {r : Int} (hr : RefOk ns r) {most : Int} (hm : ((2 ^ o.length : Nat) : Int) ≤ most + 1) :
    Fh Tryz.prog 150 (THp gT gU gM og o pl ns mm) [.c (.optr gT 0), .c (.int .i64 r), .c (.int .i64 most)] (fun x h => x = .c (.bool true) ∧ h = THp gT gU gM og o pl ns mm) := by
  refine fh_of_body Tryz.func150 rfl rfl (by simp [Tryz.ntmps150]) fun C hC => ?_
  simp only [initS, Nat.reduceAdd]
  unfold THp TH
  simp only [List.cons_append, List.nil_append]
  refine xG ?_
  refine xB fun g3 hn_g3=>?_
  refine yG hn_g3 ?_
  refine yB hn_g3 fun g5 hn_g5=>?_
  refine yG (oj hn_g3 hn_g5) ?_
  refine aw_makeMap (Kf := keyI) rfl rfl rfl fun gd hn_gd => ?_
  replace hn_gd := Heap.ne_of hn_gd
  dsimp only [Heap.ne, gh] at hn_gd
  refine yS (oj hn_g3 (oj hn_g5 hn_gd)) ?_
  refine yG (oj hn_g3 (oj hn_g5 hn_gd)) ?_
  refine yA (oj hn_g3 (oj hn_g5 hn_gd)) fun g7 hn_g7=>?_
  refine yG (oj hn_g3 (oj hn_g5 (oj hn_gd hn_g7))) ?_
  refine yW (oj hn_g3 (oj hn_g5 (oj hn_gd hn_g7))) ?_
  refine yS (oj hn_g3 (oj hn_g5 (oj hn_gd hn_g7))) ?_
  refine yG (oj hn_g3 (oj hn_g5 (oj hn_gd hn_g7))) ?_
  refine yA (oj hn_g3 (oj hn_g5 (oj hn_gd hn_g7))) fun g8 hn_g8=>?_
  refine yG (oj hn_g3 (oj hn_g5 (oj hn_gd (oj hn_g7 hn_g8)))) ?_
  refine aw_makeFunc (gs := [g7, g5, g8, g3]) rfl rfl rfl (zE (oj hn_g3 (oj hn_g5 (oj hn_gd (oj hn_g7 hn_g8))))) ?_
  refine yS (oj hn_g3 (oj hn_g5 (oj hn_gd (oj hn_g7 hn_g8)))) ?_
  refine yG (oj hn_g3 (oj hn_g5 (oj hn_gd (oj hn_g7 hn_g8)))) ?_
  refine yW (oj hn_g3 (oj hn_g5 (oj hn_gd (oj hn_g7 hn_g8)))) ?_
  refine yS (oj hn_g3 (oj hn_g5 (oj hn_gd (oj hn_g7 hn_g8)))) ?_
  refine yG (oj hn_g3 (oj hn_g5 (oj hn_gd (oj hn_g7 hn_g8)))) ?_
  refine aw_callhv (hr := []) (swalk_fh (pl := pl) g7 g5 g8 g3 gd gT gU gM most hs hn (r.toNat + 1) r [] (by omega) hr) rfl rfl rfl (zE (oj hn_g3 (oj hn_g5 (oj hn_gd (oj hn_g7 hn_g8))))) ?hp (zL (oj hn_g3 (oj hn_g5 (oj hn_gd (oj hn_g7 hn_g8))))) ?_
  · rw [List.append_nil]
    exact (permL [(g8, _), (g7, _), (gd, _), (g5, _), (g3, _)] [0, 1, 2, 3, 4] [1, 3, 0, 4, 2] (by decide)).append_right (THp gT gU gM og o pl ns mm)
  rintro _ _ ⟨sl, m, rfl, rfl⟩ _
  rw [List.append_nil]
  have hl : sl.length ≤ 2 ^ o.length - 1 := by
    have h0 := lv3_nonneg ho.mem hs.tab hr
    have := m.len
    have hp : 2 ^ ((o.length : Int) - lvZ o ns r).toNat ≤ 2 ^ o.length := Nat.pow_le_pow_right (by omega) (by omega)
    simp only [List.length_nil] at this
    omega
  have hd : decide ((sl.length : Int) ≤ most) = true := decide_eq_true (by
    have := Nat.pow_pos (n := o.length) (show 0 < 2 by omega)
    omega)
  unfold THp TH S6
  simp only [List.cons_append, List.nil_append]
  refine yS (oj hn_g3 (oj hn_g5 (oj hn_gd (oj hn_g7 hn_g8)))) ?_
  refine yG (oj hn_g3 (oj hn_g5 (oj hn_gd (oj hn_g7 hn_g8)))) ?_
  refine aw_lenMap (kv := snL sl) (Kf := keyI) (kt := 3) (et := 4) rfl rfl rfl (by kernel_rfl) (zE (oj hn_g3 (oj hn_g5 (oj hn_gd (oj hn_g7 hn_g8))))) (zE (oj hn_g3 (oj hn_g5 (oj hn_gd (oj hn_g7 hn_g8))))) ?_
  rw [show (snL sl).length = sl.length from by simp [snL]]
  refine yS (oj hn_g3 (oj hn_g5 (oj hn_gd (oj hn_g7 (oj hn_g8 hd))))) ?_
  refine yG (oj hn_g3 (oj hn_g5 (oj hn_gd (oj hn_g7 (oj hn_g8 hd))))) ?_
  refine aw_keep [(6, .c (.bool true))] (THp gT gU gM og o pl ns mm) (zB (oj hn_g3 (oj hn_g5 (oj hn_gd (oj hn_g7 (oj hn_g8 hd)))))) (List.sublist_append_right (S6 g7 g5 g8 g3 gd gT most sl) _) ?_
  refine yU (oj hn_g3 (oj hn_g5 (oj hn_gd (oj hn_g7 (oj hn_g8 hd))))) ?_
  exact ⟨rfl, rfl⟩
end Go.Proofs.YtlpejaefobdajaaGreat
