/- Blocks of one proof, laid one behind the other by a program (merge2.py). -/
import Derived.Test.YtcoflhkcpnoaaaaGreatM29
import Derived.Test.YtcoflhkcpnoaaaaGreatM30
set_option linter.unusedSimpArgs false
set_option linter.unusedVariables false
namespace Go.PN
open Go.AI
theorem pop_xor : ∀ (v s : Nat), s.testBit v = true → popN s = popN (s ^^^ 2 ^ v) + 1
  | 0, s, h => by
    rw [pop_half s, pop_half (s ^^^ 2 ^ 0)]
    have h1 : s % 2 = 1 := by simpa [Nat.testBit_zero] using h
    have h2 : (s ^^^ 1) % 2 = 0 := by
      have : (s ^^^ 2 ^ 0).testBit 0 = false := xor_off h
      rw [Nat.testBit_zero, Nat.pow_zero, decide_eq_false_iff_not] at this
      omega
    have h3 : (s ^^^ 1) / 2 = s / 2 := by
      refine Nat.eq_of_testBit_eq fun j => ?_
      rw [← Nat.testBit_succ, ← Nat.testBit_succ]
      have := xor_ne (s := s) (v := 0) (j := j + 1) (by omega)
      rwa [Nat.pow_zero] at this
    rw [Nat.pow_zero, h2, h3, h1]; omega
  | v + 1, s, h => by
    rw [pop_half s, pop_half (s ^^^ 2 ^ (v + 1))]
    have h1 : (s ^^^ 2 ^ (v + 1)) % 2 = s % 2 := by
      have : (s ^^^ 2 ^ (v + 1)).testBit 0 = s.testBit 0 := by rw [xor_ne (by omega)]
      rw [Nat.testBit_zero, Nat.testBit_zero] at this
      have a1 := Nat.mod_two_eq_zero_or_one s
      have a2 := Nat.mod_two_eq_zero_or_one (s ^^^ 2 ^ (v + 1))
      rcases a1 with a1 | a1 <;> rcases a2 with a2 | a2 <;> rw [a1, a2] at this ⊢ <;> simp at this
    have h3 : (s ^^^ 2 ^ (v + 1)) / 2 = s / 2 ^^^ 2 ^ v := by
      refine Nat.eq_of_testBit_eq fun j => ?_
      rw [← Nat.testBit_succ, Nat.testBit_xor, Nat.testBit_xor, ← Nat.testBit_succ, Nat.testBit_two_pow, Nat.testBit_two_pow]
      simp
    rw [h1, h3, pop_xor v (s / 2) (by rw [← Nat.testBit_succ]; exact h)]
    omega
theorem u_neg {n : Nat} {ns : List DN} (h : ZTab n ns) {a k : Int} (ha : RefOk ns a) (hk : k < 0) : UOk n ns a k 0 := by
  refine ⟨ha, ref0, by rw [ev_leaf (r := 0) (by omega)]; exact (evZ_le h ha).2.1, fun s => ?_⟩
  rw [mem_leaf (by omega : (0 : Int) ≤ 1), decide_eq_false (p := (popN s : Int) ≤ k) (by omega)]
  simp
theorem u_leaf {n : Nat} {ns : List DN} {a k : Int} (ha : RefOk ns a) (hk : 0 ≤ k) (h1 : a < 2) : UOk n ns a k a := by
  refine ⟨ha, ha, Int.le_refl _, fun s => ?_⟩
  rw [mem_leaf (by omega)]
  by_cases e : s = 0
  · subst e
    rw [pop_zero, decide_eq_true (p := ((0 : Nat) : Int) ≤ k) (by omega)]; simp
  · rw [decide_eq_false e]; simp
theorem u_step {n : Nat} {n0 n1 n2 : List DN} {k1 k2 : Nat} (h0 : ZTab n n0) {a k x z : Int} (ha : RefOk n0 a) (h2 : 2 ≤ a) (l1 : ZLat n n0 n1 k1) (wx : UOk n n1 (n0.getD (a - 2).toNat dn0).lo k x) (l2 : ZLat n n1 n2 k2) (wz : UOk n n2 (n0.getD (a - 2).toNat dn0).hi (k - 1) z) :
    ZLat n n2 (mkZ n2 (n0.getD (a - 2).toNat dn0).v x z).1 1 ∧ ZLat n n0 (mkZ n2 (n0.getD (a - 2).toNat dn0).v x z).1 (k1 + k2 + 1) ∧ UOk n (mkZ n2 (n0.getD (a - 2).toNat dn0).v x z).1 a k (mkZ n2 (n0.getD (a - 2).toNat dn0).v x z).2 ∧ RefOk n2 x ∧ RefOk n2 z ∧
      (n0.getD (a - 2).toNat dn0).v < evZ n n2 x ∧ (n0.getD (a - 2).toNat dn0).v < evZ n n2 z := by
  have l12 := l1.trans l2 (Nat.le_refl _)
  have ka := kz_node h0 ha h2
  have hi : (a - 2).toNat < n0.length := by unfold RefOk at ha; omega
  obtain ⟨hv0, hvn, _⟩ := (h0 _ hi).nk
  generalize hv : (n0.getD (a - 2).toNat dn0).v = v at *
  have ex : v < evZ n n2 x := by
    rw [l2.ev wx.pr]
    have := wx.ev
    rw [l1.ev ka.ra] at this
    have h1 := ka.ea
    omega
  have ez : v < evZ n n2 z := by
    have := wz.ev
    rw [l12.ev ka.rb] at this
    have h1 := ka.eb
    omega
  have rx : RefOk n2 x := l2.ref wx.pr
  obtain ⟨m1, m2, m3, m4⟩ := mkZ_ok l12.tab hv0 hvn rx wz.pr ex ez
  have lall := l12.trans m1 (Nat.le_refl _)
  refine ⟨m1, lall, ⟨lall.ref ha, m2, by rw [lall.ev ha, evZ_node h2, hv]; exact m3, fun s => ?_⟩, rx, wz.pr, ex, ez⟩
  rw [m4, lall.mem h0 ha, ka.mem]
  split
  · rename_i hs
    rw [wz.sem, l12.mem h0 ka.rb, pop_xor _ s hs]
    congr 1
    exact decide_eq_decide.2 (by omega)
  · rw [l2.mem l1.tab wx.pr, wx.sem, l1.mem h0 ka.ra]
end Go.PN
namespace Go.Proofs.YtcoflhkcpnoaaaaGreat
open Go.AI Go.PN
attribute [local irreducible] aw Fa Fh DrK
def UpToOk (n gT gU gM : Nat) (k : Nat) : Prop := ∀ (og : Option Nat) (ns : List DN) (mm : Mem3) (a m : Int), ZS n og ns mm → ns.length + 2 ^ k ≤ 1000000000 → RefOk ns a → -2 ≤ m → m ≤ 1000 → (n : Int) + 1 ≤ evZ n ns a + k →
    Fh Tryz.prog 115 (ZHp gT gU gM og ns mm) [.c (.optr gT 0), .c (.int .i64 a), .c (.int .i64 m)]
      (fun x h => ∃ og' ns' mm' r, ZP n ns mm (evZ n ns a) (2 ^ k - 1) og' ns' mm' ∧ UOk n ns' a m r ∧ x = .c (.int .i64 r) ∧ h = ZHp gT gU gM og' ns' mm')
set_option maxRecDepth 100000 in
set_option maxHeartbeats 6400000 in
theorem zuclo_fh (n gT gU gM : Nat) (h24 : n ≤ 24) (k : Nat) (ih : UpToOk n gT gU gM k) (gA gB gC : Nat) (og : Option Nat) (ns : List DN) (mm : Mem3) (a m : Int) (hs : ZS n og ns mm) (hn : ns.length + 2 ^ (k + 1) ≤ 1000000000) (ha : RefOk ns a) (ha2 : 2 ≤ a) (hm0 : 0 ≤ m) (hm1 : m ≤ 1000) (hk : (n : Int) + 1 ≤ evZ n ns a + (k + 1)) :
    Fh Tryz.prog 137 (ZHp gT gU gM og ns mm ++ WB gA gB gC gT a m) ([] ++ [gA, gB, gC].map fun g => .c (.optr g 0))
      (fun x h => ∃ og' ns' mm' r, (ZP n ns mm (evZ n ns a + 1) (2 ^ (k + 1) - 1) og' ns' mm' ∧ UOk n ns' a m r) ∧ (og' = none → ns'.length = 0) ∧ ns'.length ≤ 1000000000 ∧ x = .c (.int .i64 r) ∧ h = ZHp gT gU gM og' ns' mm' ++ WB gA gB gC gT a m) := by
  have hp3 : 2 ^ (k + 1) = 2 ^ k + 2 ^ k := by rw [Nat.pow_succ]; omega
  have hp1 : 0 < 2 ^ k := Nat.pow_pos (by omega)
  simp only [List.nil_append, List.map_cons, List.map_nil]
  refine fh_of_body Tryz.func137 rfl rfl (by simp [Tryz.ntmps137]) fun C hC => ?_
  simp only [initS, Nat.reduceAdd]
  obtain ⟨g, rfl⟩ : ∃ g, og = some g := by
    cases og with
    | none => have := hs.og rfl; unfold RefOk at ha; omega
    | some g => exact ⟨g, rfl⟩
  refine aw_nd fun hnd => ?_
  simp only [WB, ZHp, ZH, gs, gh, List.cons_append, List.nil_append, Heap.keys, List.map_cons, List.map_nil] at hnd ⊢
  replace hnd := ndP_of hnd
  dsimp only [ndP, neA] at hnd
  have hi : (a - 2).toNat < ns.length := by unfold RefOk at ha; omega
  obtain ⟨w0, w1, w2, w3, w4, w5⟩ := (hs.tab _ hi).nk
  obtain ⟨kl, kh⟩ := hs.tab.kids hi
  have ka := kz_node hs.tab ha ha2
  have q1 := ka.ea
  have q2 := ka.eb
  rw [← evZ_node (n := n) ha2] at q1 q2
  have ust : ∀ {n1 n2 : List DN} {k1 k2 : Nat} {x z : Int}, ZLat n ns n1 k1 → UOk n n1 (ns.getD (a - 2).toNat dn0).lo m x → ZLat n n1 n2 k2 → UOk n n2 (ns.getD (a - 2).toNat dn0).hi (m - 1) z → _ := fun l1 w1 l2 w2 => u_step hs.tab ha ha2 l1 w1 l2 w2
  generalize hx0 : ns.getD (a - 2).toNat dn0 = nd at *
  refine yG (oj hnd hx0) ?_
  refine aw_cw ([(gA, .cells 74 1 (ofL [.optr gT 0])), (gB, .cells 3 1 (ofL [.int .i64 a])), (gT, .cells 120 3 (ofL [.osl g 3 0 ns.length, .raw (.map (some gU)), .raw (.map (some gM))])), (g, .cells 88 (ns.length * 3) (dnsF ns))]) [(0,0),(1,0),(2,0),(3,0),(4,0),(5,0),(6,0),(7,0),(8,1),(9,2)] ty_mixed (by kernel_rfl) eI ?_
  refine yG (oj hnd hx0) ?_
  refine cw_alloc rfl rfl rfl rfl (zE (oj hnd hx0)) eI (fun g3 hn_g3 => ?_) (hm := .inr ⟨rfl, rfl⟩)
  replace hn_g3 := Heap.ne_of hn_g3
  dsimp only [Heap.ne] at hn_g3
  refine yS (oj hnd (oj hx0 hn_g3)) ?_
  refine yG (oj hnd (oj hx0 hn_g3)) ?_
  refine cw_store (FP' := []) rfl rfl rfl rfl rfl (zE (oj hnd (oj hx0 hn_g3))) (zE (oj hnd (oj hx0 hn_g3))) (zE (oj hnd (oj hx0 hn_g3))) (zE (oj hnd (oj hx0 hn_g3))) (fun _ e => by cases e) rfl rfl (Nat.le_refl 3) rfl has0_nil ?_
  refine yS (oj hnd (oj hx0 hn_g3)) ?_
  refine yG (oj hnd (oj hx0 hn_g3)) ?_
  refine aw_cw ([(gA, .cells 74 1 (ofL [.optr gT 0])), (gC, .cells 3 1 (ofL [.int .i64 m])), (g3, .cells 88 3 (ofL [.int .i64 nd.v, .int .i64 nd.lo, .int .i64 nd.hi]))]) [(0,0),(1,0),(2,0),(3,0),(4,0),(5,0),(6,0),(8,0),(9,0),(10,0),(11,0),(12,0),(7,1),(13,1),(14,1),(15,0)] ty_mixed (by kernel_rfl) eI ?_
  refine yG (oj hnd (oj hx0 hn_g3)) ?_
  have hpm : ∀ og ns mm, ((g3, .cells 88 3 (ofL [.int .i64 nd.v, .int .i64 nd.lo, .int .i64 nd.hi])) :: (ZHp gT gU gM og ns mm ++ WB gA gB gC gT a m)).Perm (ZHp gT gU gM og ns mm ++ ((g3, .cells 88 3 (ofL [.int .i64 nd.v, .int .i64 nd.lo, .int .i64 nd.hi])) :: WB gA gB gC gT a m)) := fun _ _ mm => List.perm_middle.symm
  refine cw_callh (hc := ZHp gT gU gM (some g) ns mm) (hr := (g3, .cells 88 3 (ofL [.int .i64 nd.v, .int .i64 nd.lo, .int .i64 nd.hi])) :: WB gA gB gC gT a m) rfl (ih (some g) ns mm nd.lo m hs (by omega) kl (by omega) hm1 (by omega)) rfl rfl rfl (hpm (some g) ns mm) (zL (oj hnd (oj hx0 hn_g3))) (by rintro _ _ ⟨_, _, _, _, _, _, rfl, rfl⟩; exact has0_app2 eI) ?_ (hm := .inr ⟨rfl, rfl⟩)
  rintro _ _ ⟨og1, ns1, mm1, x, p1, u1, rfl, rfl⟩ _
  refine yS (oj hnd (oj hx0 hn_g3)) ?_
  refine yG (oj hnd (oj hx0 hn_g3)) ?_
  have ll1 := p1.lat.len
  refine cw_callh (hc := ZHp gT gU gM og1 ns1 mm1) (hr := (g3, .cells 88 3 (ofL [.int .i64 nd.v, .int .i64 nd.lo, .int .i64 nd.hi])) :: WB gA gB gC gT a m) rfl (ih og1 ns1 mm1 nd.hi (m - 1) p1.zs (by omega) (p1.lat.ref kh) (by omega) (by omega) (by rw [p1.lat.ev kh]; omega)) rfl rfl rfl (.refl _) (zL (oj hnd (oj hx0 hn_g3))) (by rintro _ _ ⟨_, _, _, _, _, _, rfl, rfl⟩; exact has0_app2 eI) ?_ (hm := .inr ⟨rfl, rfl⟩)
  rw [p1.lat.ev kh]
  rintro _ _ ⟨og2, ns2, mm2, z, p2, u2, rfl, rfl⟩ _
  refine yS (oj hnd (oj hx0 hn_g3)) ?_
  refine yG (oj hnd (oj hx0 hn_g3)) ?_
  have ll2 := p2.lat.len
  obtain ⟨m1, m2, m3, _⟩ := ust p1.lat u1 p2.lat u2
  have pa := p1.trans p2 (Nat.le_refl _) (L := evZ n ns a + 1) (by omega) (by omega)
  refine cw_callh (hc := ZHp gT gU gM og2 ns2 mm2) (hr := (g3, .cells 88 3 (ofL [.int .i64 nd.v, .int .i64 nd.lo, .int .i64 nd.hi])) :: WB gA gB gC gT a m) rfl (zmake_fh gT gU gM og2 ns2 mm2 nd.v x z p2.og (by omega)) rfl rfl rfl (.refl _) (zL (oj hnd (oj hx0 hn_g3))) (by rintro _ _ ⟨_, _, rfl, rfl⟩; exact has0_app2 eI) ?_ (hm := .inr ⟨rfl, rfl⟩)
  rintro _ _ ⟨og4, ho4, rfl, rfl⟩ _
  refine yS (oj hnd (oj hx0 hn_g3)) ?_
  refine yG (oj hnd (oj hx0 hn_g3)) ?_
  refine aw_perm (hpm og4 _ mm2).symm ?_
  refine aw_keep [(3, .c (.int .i64 (mkZ ns2 nd.v x z).2))] (ZHp gT gU gM og4 (mkZ ns2 nd.v x z).1 mm2 ++ WB gA gB gC gT a m) (zB (oj hnd (oj hx0 hn_g3))) (List.Sublist.cons _ (List.Sublist.refl _)) ?_
  refine yU (oj hnd (oj hx0 hn_g3)) ?_
  exact ⟨og4, _, mm2, _, ⟨pa.make m1 ho4 (by omega), m3⟩, ho4, by have := m2.len; omega, rfl, rfl⟩
set_option maxRecDepth 100000 in
set_option maxHeartbeats 3200000 in
theorem zupto_ok (n gT gU gM : Nat) (h24 : n ≤ 24) : ∀ k, UpToOk n gT gU gM k := by
  intro k
  induction k with
  | zero =>
    intro og ns mm a m hs _ ha _ _ hk
    have := (evZ_le hs.tab ha).2.1
    omega
  | succ k ih =>
    intro og ns mm a m hs hn ha hm0 hm1 hk
    have hp1 : 0 < 2 ^ (k + 1) := Nat.pow_pos (by omega)
    refine fh_of_body Tryz.func115 rfl rfl (by simp [Tryz.ntmps115]) fun C hC => ?_
    simp only [initS, Nat.reduceAdd]
    refine xG ?_
    refine xB fun gA hn_gA=>?_
    refine yG hn_gA ?_
    refine yB hn_gA fun gB hn_gB=>?_
    refine yG (oj hn_gA hn_gB) ?_
    refine yB (oj hn_gA hn_gB) fun gC hn_gC=>?_
    refine yG (oj hn_gA (oj hn_gB hn_gC)) ?_
    refine yF (oj hn_gA (oj hn_gB hn_gC)) (fun h1=>?_) fun h1=>?_
    · have h1' := of_decide_eq_true h1
      refine yG (oj hn_gA (oj hn_gB hn_gC)) ?_
      refine aw_keep [(6, .c (.int .i64 0))] (ZHp gT gU gM og ns mm) (zB (oj hn_gA (oj hn_gB hn_gC))) (List.Sublist.cons _ (List.Sublist.cons _ (List.Sublist.cons _ (List.Sublist.refl _)))) ?_
      refine yU (oj hn_gA (oj hn_gB hn_gC)) ?_
      exact ⟨og, ns, mm, 0, hs.same _ _, u_neg hs.tab ha h1', rfl, rfl⟩
    have h1' := of_decide_eq_false h1
    refine yG (oj hn_gA (oj hn_gB hn_gC)) ?_
    refine yF (oj hn_gA (oj hn_gB hn_gC)) (fun h2=>?_) fun h2=>?_
    · have h2' := of_decide_eq_true h2
      refine yG (oj hn_gA (oj hn_gB hn_gC)) ?_
      refine aw_keep [(6, .c (.int .i64 a))] (ZHp gT gU gM og ns mm) (zB (oj hn_gA (oj hn_gB hn_gC))) (List.Sublist.cons _ (List.Sublist.cons _ (List.Sublist.cons _ (List.Sublist.refl _)))) ?_
      refine yU (oj hn_gA (oj hn_gB hn_gC)) ?_
      exact ⟨og, ns, mm, a, hs.same _ _, u_leaf ha (by omega) h2', rfl, rfl⟩
    have h2' := of_decide_eq_false h2
    refine yG (oj hn_gA (oj hn_gB hn_gC)) ?_
    refine aw_makeFunc (f := 137) (gs := [gA, gB, gC]) rfl rfl rfl (zE (oj hn_gA (oj hn_gB hn_gC))) ?_
    refine yS (oj hn_gA (oj hn_gB hn_gC)) ?_
    have hmm : memGet (107, a, m) mm = none → Fh Tryz.prog 137 (ZHp gT gU gM og ns mm ++ WB gA gB gC gT a m) ([] ++ [gA, gB, gC].map fun g => .c (.optr g 0)) (fun x h => ∃ og' ns' mm' r, (ZP n ns mm (evZ n ns a + 1) (2 ^ (k + 1) - 1) og' ns' mm' ∧ UOk n ns' a m r) ∧ (og' = none → ns'.length = 0) ∧ ns'.length ≤ 1000000000 ∧ memGet (107, a, m) mm' = none ∧ x = .c (.int .i64 r) ∧ h = ZHp gT gU gM og' ns' mm' ++ WB gA gB gC gT a m) := fun hm => by
      refine (zuclo_fh n gT gU gM h24 k ih gA gB gC og ns mm a m hs hn ha (by omega) (by omega) hm1 (by omega)).mono ?_
      rintro x h ⟨og', ns', mm', r, ⟨p, w⟩, e1, e2, e3, e4⟩
      refine ⟨og', ns', mm', r, ⟨p, w⟩, e1, e2, p.absent hm ?_, e3, e4⟩
      unfold lvE
      rw [if_neg (by simp), p.lat.ev ha]
      omega
    refine aw_callh (hc := ZHp gT gU gM og ns mm ++ WB gA gB gC gT a m) (hr := []) (remember_fh gT gU gM (WB gA gB gC gT a m) 137 [gA, gB, gC] 107 a m hs.og (by omega) _ hmm) rfl rfl rfl (by rw [List.append_nil]; exact List.perm_append_comm (l₁ := WB gA gB gC gT a m)) (zL (oj hn_gA (oj hn_gB hn_gC))) ?_
    rintro _ _ (⟨r, hm, rfl, rfl⟩ | ⟨hm, og', ns', mm', r, ⟨p, w⟩, rfl, rfl⟩) _
    · rw [List.append_nil]
      refine yS (oj hn_gA (oj hn_gB hn_gC)) ?_
      refine yG (oj hn_gA (oj hn_gB hn_gC)) ?_
      refine aw_keep [(6, .c (.int .i64 r))] (ZHp gT gU gM og ns mm) (zB (oj hn_gA (oj hn_gB hn_gC))) (List.sublist_append_left _ _) ?_
      refine yU (oj hn_gA (oj hn_gB hn_gC)) ?_
      have me := hs.mem _ (mem_mem hm)
      rcases me with ⟨e1, _⟩ | ⟨_, e2⟩ | ⟨e1, _⟩
      · cases e1
      · exact ⟨og, ns, mm, r, hs.same _ _, e2, rfl, rfl⟩
      · cases e1
    · rw [List.append_nil]
      refine yS (oj hn_gA (oj hn_gB hn_gC)) ?_
      refine yG (oj hn_gA (oj hn_gB hn_gC)) ?_
      refine aw_keep [(6, .c (.int .i64 r))] (ZHp gT gU gM og' ns' (mm' ++ [((107, a, m), r)])) (zB (oj hn_gA (oj hn_gB hn_gC))) (List.sublist_append_left _ _) ?_
      refine yU (oj hn_gA (oj hn_gB hn_gC)) ?_
      refine ⟨og', ns', _, r, p.note (.inr (.inl ⟨rfl, w⟩)) (by omega) ?_, w, rfl, rfl⟩
      unfold lvE
      rw [if_neg (by simp), p.lat.ev ha]
      exact Int.le_refl _
end Go.Proofs.YtcoflhkcpnoaaaaGreat
namespace Go.PN
open Go.AI
def upToN (l : List Nat) (k : Int) : List Nat := l.filter fun s => decide ((popN s : Int) ≤ k)
end Go.PN

namespace Go.Proofs.YtcoflhkcpnoaaaaGreat
open Go.AI Go.PN
attribute [local irreducible] aw Fa Fh DrK
set_option maxRecDepth 100000 in
set_option maxHeartbeats 3200000 in
theorem zresult_fh (gT gU gM : Nat) {n : Nat} {og : Option Nat} {ns : List DN} {mm : Mem3} (hs : ZS n og ns mm) (hn : ns.length ≤ 1000000000) (h12 : n ≤ 12) {r : Int} (hr : RefOk ns r) :
    Fh Tryz.prog 114 (ZHp gT gU gM og ns mm) [.c (.optr gT 0), .c (.int .i64 r)] (fun x h => ∃ z, ZOut n (fun s => memZ ns r s) z ∧ z.nodes.length ≤ 4096 ∧ x = .tup [.agg (zdc true z), .c .nilI] ∧ h = ZHp gT gU gM og ns mm) := by
  have hp : 2 ^ n ≤ 2 ^ 12 := Nat.pow_le_pow_right (by omega) h12
  have hp2 : (2 : Nat) ^ 12 = 4096 := rfl
  refine fh_of_body Tryz.func114 rfl rfl (by simp [Tryz.ntmps114]) fun C hC => ?_
  simp only [initS, Nat.reduceAdd]
  refine xG ?_
  refine xA fun g4 hn_g4=>?_
  refine yG hn_g4 ?_
  refine aw_callh (hc := ZHp gT gU gM og ns mm) (hr := [(g4, .cells 33 2 (ofL [.nils, .int .i64 0]))]) (zsmall_fh gT gU gM hs hn hr (most := 4096) (by omega)) rfl rfl rfl (List.perm_append_comm (l₁ := [(g4, _)])) (zL hn_g4) ?_
  rintro _ _ ⟨rfl, rfl⟩ _
  refine yS hn_g4 ?_
  refine yG hn_g4 ?_
  refine yN hn_g4 ?_
  refine yG hn_g4 ?_
  refine aw_callh (hc := ZHp gT gU gM og ns mm) (hr := [(g4, .cells 33 2 (ofL [.nils, .int .i64 0]))]) (zexport_fh gT gU gM hs hn hr) rfl rfl rfl (.refl _) (zL hn_g4) ?_
  rintro _ _ ⟨rs, os, y, hex, rfl, rfl⟩ _
  have ho := hex.out hs.tab hr
  have hlen : os.length ≤ 4096 := by
    have h1 := hex.len
    have h2 := hex.ok.len
    have h3 := (evZ_le hs.tab hr).1
    have h4 : 2 ^ ((n : Int) - evZ n ns r).toNat ≤ 2 ^ n := Nat.pow_le_pow_right (by omega) (by omega)
    simp only [List.length_nil] at h1
    omega
  refine aw_perm List.perm_append_comm ?_
  refine yS hn_g4 ?_
  refine yG hn_g4 ?_
  refine yW hn_g4 ?_
  refine yS hn_g4 ?_
  refine yG hn_g4 ?_
  refine aw_keep [(4, .c (.optr g4 0)), (5, .c .nilI)] ((g4, .cells 33 2 (ofL (zdc true ⟨os, y⟩))) :: ZHp gT gU gM og ns mm) (zB hn_g4) (List.Sublist.refl _) ?_
  refine aw_rethw (h' := ZHp gT gU gM og ns mm) rfl (List.Sublist.cons _ (List.Sublist.refl _)) (fun R hR => ?_)
  simp only [go_sem, hn_g4]
  refine hR _ rfl ?_
  clear hR R
  exact ⟨⟨os, y⟩, ho, hlen, rfl, rfl⟩
end Go.Proofs.YtcoflhkcpnoaaaaGreat
namespace Go.Proofs.YtcoflhkcpnoaaaaGreat
open Go.AI Go.PN
attribute [local irreducible] aw Fa Fh DrK
set_option maxRecDepth 100000 in
set_option maxHeartbeats 3200000 in
theorem zuptoR_fh {n : Nat} {F : Nat → Bool} (z : ZD) (hz : ZOut n F z) (h12 : n ≤ 12) (hn : z.nodes.length ≤ 4096) (k : Int) :
    Fh Tryz.prog 70 [] [.agg (zdc false z), .c (.int .i64 k)] (fun x h => h = [] ∧ (((k < 0 ∨ 24 < k) ∧ x = .tup [.agg [.nils, .int .i64 0], .c (errA 3)]) ∨
      (0 ≤ k ∧ k ≤ 24 ∧ ∃ y, ZOut n (fun s => F s && decide ((popN s : Int) ≤ k)) y ∧ y.nodes.length ≤ 4096 ∧ x = .tup [.agg (zdc true y), .c .nilI]))) := by
  have hp : 2 ^ (n + 1) ≤ 2 ^ 13 := Nat.pow_le_pow_right (by omega) (by omega)
  have hp2 : (2 : Nat) ^ 13 = 8192 := rfl
  have hev := evZ_le hz.tab hz.ref
  refine fh_of_body Tryz.func70 rfl rfl (by simp [Tryz.ntmps70]) fun C hC => ?_
  simp only [initS, Nat.reduceAdd]
  refine xG ?_
  refine xB fun g2 hn_g2=>?_
  refine yG hn_g2 ?_
  refine yA hn_g2 fun g4 hn_g4=>?_
  refine yG (oj hn_g2 hn_g4) ?_
  refine aw_buildSlice (xs := [.tmp 10]) (cells := zdc false z) rfl rfl rfl (zE (oj hn_g2 hn_g4)) (by refine yS (oj hn_g2 hn_g4) ?_; rfl) rfl (by omega) (by omega) (by intro x hx; simp only [List.mem_singleton] at hx; subst hx; exact ⟨rfl, rfl, rfl⟩) rfl fun g9 hn_g9 => ?_
  replace hn_g9 := Heap.ne_of hn_g9
  dsimp only [Heap.ne] at hn_g9
  refine yS (oj hn_g2 (oj hn_g4 hn_g9)) ?_
  refine aw_frzT (t := 11) (zdsF [z]) (zE (oj hn_g2 (oj hn_g4 hn_g9))) (zE (oj hn_g2 (oj hn_g4 hn_g9))) (by omega) (fun h => by have := (hC g9).1 h; simp [Heap.keys] at this) (fun q hq => by match q, hq with | 0, _ => rfl | 1, _ => rfl) rfl (zE (oj hn_g2 (oj hn_g4 hn_g9))) ?_
  refine yS (oj hn_g2 (oj hn_g4 hn_g9)) ?_
  refine yG (oj hn_g2 (oj hn_g4 hn_g9)) ?_
  refine aw_callh (hc := []) (hr := [(g4, .cells 33 2 (ofL [.nils, .int .i64 0])), (g2, .cells 33 2 (ofL (zdc false z)))]) (zopen_fh z hz (by omega) hn) rfl rfl rfl (.refl _) (zL (oj hn_g2 (oj hn_g4 hn_g9))) ?_
  rintro _ _ ⟨gT, gU, gM, og, hog, rfl, rfl⟩ _
  have hs : ZS n og z.nodes [] := ⟨hog, hz.tab, fun e he => absurd he List.not_mem_nil⟩
  refine yS (oj hn_g2 (oj hn_g4 hn_g9)) ?_
  refine yG (oj hn_g2 (oj hn_g4 hn_g9)) ?_
  refine yN (oj hn_g2 (oj hn_g4 hn_g9)) ?_
  by_cases hk : k < 0 ∨ 24 < k
  · have ht : (decide (k < 0) || decide (k > 24)) = true := by
      rcases hk with h | h
      · rw [decide_eq_true h]; rfl
      · rw [decide_eq_true (show k > 24 from h), Bool.or_true]
    refine aw_perm (List.perm_append_comm (l₂ := [(g4, AObj.cells 33 2 (ofL [.nils, .int .i64 0])), (g2, AObj.cells 33 2 (ofL (zdc false z)))])) ?_
    simp only [List.cons_append, List.nil_append]
    refine yG (oj hn_g2 (oj hn_g4 hn_g9)) ?_
    by_cases h1 : k < 0
    · have e1 : decide (k < 0) = true := decide_eq_true h1
      refine yS (oj hn_g2 (oj hn_g4 (oj hn_g9 e1))) ?_
      refine yG (oj hn_g2 (oj hn_g4 (oj hn_g9 e1))) ?_
      refine yP (oj hn_g2 (oj hn_g4 (oj hn_g9 e1))) ?_
      refine yG (oj hn_g2 (oj hn_g4 (oj hn_g9 e1))) ?_
      refine yW (oj hn_g2 (oj hn_g4 (oj hn_g9 e1))) ?_
      refine yS (oj hn_g2 (oj hn_g4 (oj hn_g9 e1))) ?_
      refine yG (oj hn_g2 (oj hn_g4 (oj hn_g9 e1))) ?_
      refine aw_rethw (h' := []) rfl (List.nil_sublist _) (fun R hR => ?_)
      simp only [go_sem, hn_g2, hn_g4, hn_g9, e1]
      refine hR _ rfl ?_
      clear hR R
      exact ⟨rfl, .inl ⟨hk, rfl⟩⟩
    · have e1 : decide (k < 0) = false := decide_eq_false h1
      have e2 : decide (k > 24) = true := decide_eq_true (by omega)
      refine yS (oj hn_g2 (oj hn_g4 (oj hn_g9 (oj e1 e2)))) ?_
      refine yG (oj hn_g2 (oj hn_g4 (oj hn_g9 (oj e1 e2)))) ?_
      refine yP (oj hn_g2 (oj hn_g4 (oj hn_g9 (oj e1 e2)))) ?_
      refine yG (oj hn_g2 (oj hn_g4 (oj hn_g9 (oj e1 e2)))) ?_
      refine yW (oj hn_g2 (oj hn_g4 (oj hn_g9 (oj e1 e2)))) ?_
      refine yS (oj hn_g2 (oj hn_g4 (oj hn_g9 (oj e1 e2)))) ?_
      refine yG (oj hn_g2 (oj hn_g4 (oj hn_g9 (oj e1 e2)))) ?_
      refine aw_rethw (h' := []) rfl (List.nil_sublist _) (fun R hR => ?_)
      simp only [go_sem, hn_g2, hn_g4, hn_g9, e1, e2]
      refine hR _ rfl ?_
      clear hR R
      exact ⟨rfl, .inl ⟨hk, rfl⟩⟩
  · have e1 : decide (k < 0) = false := decide_eq_false (by omega)
    have e2 : decide (k > 24) = false := decide_eq_false (by omega)
    refine yG (oj hn_g2 (oj hn_g4 (oj hn_g9 (oj e1 e2)))) ?_
    refine yN (oj hn_g2 (oj hn_g4 (oj hn_g9 (oj e1 e2)))) ?_
    refine yG (oj hn_g2 (oj hn_g4 (oj hn_g9 (oj e1 e2)))) ?_
    refine aw_callh (hc := ZHp gT gU gM og z.nodes []) (hr := [(g4, .cells 33 2 (ofL [.nils, .int .i64 0])), (g2, .cells 33 2 (ofL (zdc false z)))]) (zupto_ok n gT gU gM (by omega) (n + 1) og z.nodes [] z.root k hs (by omega) hz.ref (by omega) (by omega) (by omega)) rfl rfl rfl (.refl _) (zL (oj hn_g2 (oj hn_g4 (oj hn_g9 (oj e1 e2))))) ?_
    rintro _ _ ⟨og1, ns1, mm1, r1, zp, uo, rfl, rfl⟩ _
    have hl := zp.lat.len
    refine yS (oj hn_g2 (oj hn_g4 (oj hn_g9 (oj e1 e2)))) ?_
    refine yG (oj hn_g2 (oj hn_g4 (oj hn_g9 (oj e1 e2)))) ?_
    refine aw_callh (hc := ZHp gT gU gM og1 ns1 mm1) (hr := [(g4, .cells 33 2 (ofL [.nils, .int .i64 0])), (g2, .cells 33 2 (ofL (zdc false z)))]) (zresult_fh gT gU gM zp.zs (by omega) h12 uo.pr) rfl rfl rfl (.refl _) (zL (oj hn_g2 (oj hn_g4 (oj hn_g9 (oj e1 e2))))) ?_
    rintro _ _ ⟨y, hy, hyn, rfl, rfl⟩ _
    refine aw_perm (List.perm_append_comm (l₂ := [(g4, AObj.cells 33 2 (ofL [.nils, .int .i64 0])), (g2, AObj.cells 33 2 (ofL (zdc false z)))])) ?_
    simp only [List.cons_append, List.nil_append]
    refine yS (oj hn_g2 (oj hn_g4 (oj hn_g9 (oj e1 e2)))) ?_
    refine yG (oj hn_g2 (oj hn_g4 (oj hn_g9 (oj e1 e2)))) ?_
    refine yW (oj hn_g2 (oj hn_g4 (oj hn_g9 (oj e1 e2)))) ?_
    refine yS (oj hn_g2 (oj hn_g4 (oj hn_g9 (oj e1 e2)))) ?_
    refine yG (oj hn_g2 (oj hn_g4 (oj hn_g9 (oj e1 e2)))) ?_
    refine aw_rethw (h' := []) rfl (List.nil_sublist _) (fun R hR => ?_)
    simp only [go_sem, hn_g2, hn_g4, hn_g9, e1, e2]
    refine hR _ rfl ?_
    clear hR R
    have hF : (fun s => memZ ns1 r1 s) = fun s => F s && decide ((popN s : Int) ≤ k) := funext fun s => by
      rw [uo.sem s, zp.lat.mem hz.tab hz.ref, hz.mem]
    rw [hF] at hy
    exact ⟨rfl, .inr ⟨by omega, by omega, y, hy, hyn, rfl⟩⟩
end Go.Proofs.YtcoflhkcpnoaaaaGreat
namespace Go.Proofs.YtcoflhkcpnoaaaaGreat
open Go.AI Go.PN
attribute [local irreducible] aw Fa Fh DrK
set_option maxRecDepth 100000 in
set_option maxHeartbeats 3200000 in
theorem UpToC_fh (f : FM) (o : List Int) (k : Int) (hk : K33 f o) (h10 : f.vars ≤ 10) (hn : f.nodes.length ≤ 1099511627776) (ha : ArgsOk f) :
    Fh Tryz.prog 32 [] [.agg (fmc false f), .c (is false o), .c (.int .i64 k)] (fun x h => h = [] ∧ (((k < 0 ∨ 24 < k) ∧ x = .tup [.c .nils, .c (errA 3)]) ∨
      (0 ≤ k ∧ k ≤ 24 ∧ ∃ l, Srt l ∧ (∀ s, s ∈ l ↔ MinT (fun s => valF f s f.top) s ∧ (popN s : Int) ≤ k) ∧ l.length ≤ 1024 ∧ (∀ s ∈ l, s < 2 ^ f.vars.toNat) ∧ x = .tup [.c (is true (zL l)), .c .nilI]))) := by
  refine fh_of_body Tryz.func32 rfl rfl (by simp [Tryz.ntmps32]) fun C hC => ?_
  simp only [initS, Nat.reduceAdd]
  refine xG ?_
  refine xB fun g3 hn_g3=>?_
  refine yG hn_g3 ?_
  refine aw_callh (hc := []) (hr := [(g3, .cells 50 3 (ofL (fmc false f)))]) (csolve_fh f o hk h10 hn ha) rfl rfl rfl (.refl _) (zL hn_g3) ?_
  rintro _ _ ⟨rfl, z, ⟨F, hz, hF, hzn⟩, rfl⟩ _
  refine yS hn_g3 ?_
  refine yG hn_g3 ?_
  refine yA hn_g3 fun g8 hn_g8=>?_
  refine yG (oj hn_g3 hn_g8) ?_
  refine yW (oj hn_g3 hn_g8) ?_
  refine yS (oj hn_g3 hn_g8) ?_
  refine yG (oj hn_g3 hn_g8) ?_
  refine yN (oj hn_g3 hn_g8) ?_
  refine yG (oj hn_g3 hn_g8) ?_
  refine aw_callh (hc := []) (hr := [(g8, .cells 33 2 (ofL (zdc true z))), (g3, .cells 50 3 (ofL (fmc false f)))]) (zuptoR_fh z hz (by omega) hzn k) rfl rfl rfl (.refl _) (zL (oj hn_g3 hn_g8)) ?_
  rintro _ _ ⟨rfl, ⟨hkr, rfl⟩ | ⟨k0, k1, y, hy, hyn, rfl⟩⟩ _
  · refine yS (oj hn_g3 hn_g8) ?_
    refine yG (oj hn_g3 hn_g8) ?_
    refine yW (oj hn_g3 hn_g8) ?_
    refine yS (oj hn_g3 hn_g8) ?_
    refine yG (oj hn_g3 hn_g8) ?_
    refine yP (oj hn_g3 hn_g8) ?_
    refine yG (oj hn_g3 hn_g8) ?_
    refine aw_rethw (h' := []) rfl (List.nil_sublist _) (fun R hR => ?_)
    simp only [go_sem, hn_g3, hn_g8]
    refine hR _ rfl ?_
    clear hR R
    exact ⟨rfl, .inl ⟨hkr, rfl⟩⟩
  · have hct := sol_cnt hy (by omega)
    refine yS (oj hn_g3 hn_g8) ?_
    refine yG (oj hn_g3 hn_g8) ?_
    refine yW (oj hn_g3 hn_g8) ?_
    refine yS (oj hn_g3 hn_g8) ?_
    refine yG (oj hn_g3 hn_g8) ?_
    refine yN (oj hn_g3 hn_g8) ?_
    refine yG (oj hn_g3 hn_g8) ?_
    refine aw_callh (hc := []) (hr := [(g8, .cells 33 2 (ofL (zdc true y))), (g3, .cells 50 3 (ofL (fmc false f)))]) (zlist_fh y hy (by omega) hyn hct) rfl rfl rfl (.refl _) (zL (oj hn_g3 hn_g8)) ?_
    rintro _ _ ⟨rfl, rfl⟩ _
    refine yS (oj hn_g3 hn_g8) ?_
    refine yG (oj hn_g3 hn_g8) ?_
    refine aw_rethw (h' := []) rfl (List.nil_sublist _) (fun R hR => ?_)
    simp only [go_sem, hn_g3, hn_g8]
    refine hR _ rfl ?_
    clear hR R
    refine ⟨rfl, .inr ⟨k0, k1, _, sort_srt _, fun s => ?_, ?_, out_lt hy, rfl⟩⟩
    · rw [out_mem hy, Bool.and_eq_true, hF, decide_eq_true_iff]
    · rw [sort_len (sets_nodup hy.tab y.root hy.ref 0 fun j _ => Nat.zero_testBit j)]
      unfold cntZ at hct
      omega
end Go.Proofs.YtcoflhkcpnoaaaaGreat
namespace Go.PN
open Go.AI Go.Proofs.YtcoflhkcpnoaaaaGreat
theorem upto_is {f : Nat → Bool} {l m : List Nat} {k : Int} (hl : CutL f l) (hs : Srt m) (hm : ∀ s, s ∈ m ↔ MinT f s ∧ (popN s : Int) ≤ k) : upToN l k = m := by
  refine srt_ext (List.Pairwise.filter _ hl.1) hs fun s => ?_
  unfold upToN
  rw [List.mem_filter, hl.2, hm, decide_eq_true_iff]
end Go.PN

