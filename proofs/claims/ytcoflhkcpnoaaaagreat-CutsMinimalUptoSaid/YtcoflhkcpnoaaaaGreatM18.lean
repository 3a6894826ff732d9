/- Blocks of one proof, laid one behind the other by a program (merge2.py). -/
import Derived.Test.YtcoflhkcpnoaaaaGreatM17
set_option linter.unusedSimpArgs false
set_option linter.unusedVariables false
namespace Go.AI
@[go_sem ↓] theorem updF_2_0' (a b x : CV) : updF (ofL [a, b]) 0 [x] = ofL [x, b] := updF_at [a, b] 0 x (by simp)
@[go_sem ↓] theorem updF_2_1' (a b x : CV) : updF (ofL [a, b]) 1 [x] = ofL [a, x] := updF_at [a, b] 1 x (by simp)
end Go.AI
namespace Go.PN
open Go.AI
abbrev zdc (t : Bool) (z : ZD) : List CV := [dns t z.nodes, .int .i64 z.root]
end Go.PN
namespace Go.Proofs.YtcoflhkcpnoaaaaGreat
open Go.AI Go.PN
attribute [local irreducible] aw Fa Fh DrK
abbrev SZ6 (g1 g2 g3 g4 gd gT : Nat) (most : Int) (sl : List Int) : Heap :=
  [(g1, .cells 127 1 (ofL [.raw (.map (some gd))])), (g2, .cells 3 1 (ofL [.int .i64 most])), (g3, .cells 83 1 (ofL [fnC 85 [g1, g2, g3, g4]])), (g4, .cells 74 1 (ofL [.optr gT 0])), (gd, .gen (MapI keyI (snL sl)))]
set_option maxRecDepth 100000 in
set_option maxHeartbeats 6400000 in
theorem zswalk_fh (g1 g2 g3 g4 gd gT gU gM : Nat) (most : Int) {n : Nat} {og : Option Nat} {ns : List DN} {mm : Mem3} (hs : ZS n og ns mm) (hn : ns.length ≤ 1000000000) : ∀ (k : Nat) (r : Int) (sl : List Int), r.toNat < k → RefOk ns r →
    Fh Tryz.prog 85 (SZ6 g1 g2 g3 g4 gd gT most sl ++ ZHp gT gU gM og ns mm) ([.c (.int .i64 r)] ++ [g1, g2, g3, g4].map fun g => .c (.optr g 0)) (fun x h => ∃ sl', ZSm n ns sl sl' r ∧ x = .tup [] ∧ h = SZ6 g1 g2 g3 g4 gd gT most sl' ++ ZHp gT gU gM og ns mm) := by
  intro k
  induction k with
  | zero => intro r sl hk; omega
  | succ k ih =>
    intro r sl hk hr
    simp only [List.cons_append, List.nil_append, List.map_cons, List.map_nil]
    refine fh_of_body Tryz.func85 rfl rfl (by simp [Tryz.ntmps85]) fun C hC => ?_
    simp only [initS, Nat.reduceAdd]
    simp only [SZ6, ZHp, ZH, List.cons_append, List.nil_append]
    refine aw_nd fun hnd => ?_
    simp only [Heap.keys, List.map_cons] at hnd
    replace hnd := ndP_of hnd
    dsimp only [ndP, neA] at hnd
    refine yG hnd ?_
    refine aw_split 8 (zE hnd) (fun h1 => ?_) (fun h1 => ?_) <;> refine yS hnd ?_
    · refine yG hnd ?_
      refine yP hnd ?_
      refine yG hnd ?_
      refine yU hnd ?_
      exact ⟨sl, ZSm.same, rfl, rfl⟩
    have h1' := of_decide_eq_false h1
    have h2 : 2 ≤ r := by omega
    refine yG hnd ?_
    refine aw_lookup (a := r) (kv := snL sl) (Kf := keyI) (kt := 3) (et := 4) rfl rfl rfl (by kernel_rfl) ty_ki ty_bz (zE hnd) (zE hnd) (zE hnd) keyI_rep ?_
    refine yS hnd ?_
    rw [sn_get]
    by_cases hm : r ∈ sl
    · rw [if_pos hm]
      simp only [Option.getD_some, cstC]
      refine yG hnd ?_
      refine yP hnd ?_
      refine yG hnd ?_
      refine yU hnd ?_
      exact ⟨sl, ZSm.same, rfl, rfl⟩
    rw [if_neg hm]
    simp only [Option.getD_none, cstC]
    refine yG hnd ?_
    refine aw_lenMap (kv := snL sl) (Kf := keyI) (kt := 3) (et := 4) rfl rfl rfl (by kernel_rfl) (zE hnd) (zE hnd) ?_
    refine yS hnd ?_
    refine yG hnd ?_
    refine yF hnd (fun h3=>?_) fun h3=>?_
    · refine yG hnd ?_
      refine yU hnd ?_
      exact ⟨sl, ZSm.same, rfl, rfl⟩
    obtain ⟨g, rfl⟩ : ∃ g, og = some g := by
      cases og with
      | none => have := hs.og rfl; unfold RefOk at hr; omega
      | some g => exact ⟨g, rfl⟩
    simp only [gh, List.map_cons, List.map_nil, neA, ndP] at hnd
    simp only [gs, gh]
    have hi : (r - 2).toNat < ns.length := by unfold RefOk at hr; omega
    obtain ⟨w0, w1, w2, w3, w4, w5⟩ := (hs.tab.ns _ hi)
    obtain ⟨kl, kh⟩ := hs.tab.kids hi
    have hrl : r < ns.length + 2 := hr.2
    have nd0 : ∀ s1 s2, ZSm n ns (sl ++ [r]) s1 (ns.getD (r - 2).toNat dn0).lo → ZSm n ns s1 s2 (ns.getD (r - 2).toNat dn0).hi → ZSm n ns sl s2 r := fun s1 s2 a b => ZSm.node hs.tab h2 hrl a b
    generalize hx0 : ns.getD (r - 2).toNat dn0 = nd at *
    refine yG (oj hnd hx0) ?_
    refine aw_mapNew (a := r) (kv := snL sl) (Kf := keyI) (v := .bool true) rfl rfl rfl (kt := 3) (et := 4) (by kernel_rfl) ty_ki (zE (oj hnd hx0)) (zE (oj hnd hx0)) (zE (oj hnd hx0)) keyI_rep (cv := .c (.bool true)) (zE (oj hnd hx0)) (fun S w u h => h) (by rw [sn_get, if_neg hm]) (zE (oj hnd hx0)) ?_
    rw [sn_push]
    refine yS (oj hnd hx0) ?_
    refine yG (oj hnd hx0) ?_
    refine aw_cw ([(g3, .cells 83 1 (ofL [fnC 85 [g1, g2, g3, g4]])), (g4, .cells 74 1 (ofL [.optr gT 0])), (gT, .cells 120 3 (ofL [.osl g 3 0 ns.length, .raw (.map (some gU)), .raw (.map (some gM))])), (g, .cells 88 (ns.length * 3) (dnsF ns))]) [(0,0),(1,0),(2,0),(3,0),(4,0),(5,0),(6,0),(7,0),(8,0),(9,0),(10,1)] ty_mixed (by kernel_rfl) eI ?_
    refine yG (oj hnd hx0) ?_
    refine cw_callhv (gs := [g1, g2, g3, g4]) (hr := []) rfl (ih nd.lo (sl ++ [r]) (by omega) kl) rfl rfl rfl (zE (oj hnd hx0)) (by rw [List.append_nil]; exact .refl _) (zL (oj hnd hx0)) (by
      rintro _ _ ⟨_, _, rfl, rfl⟩; simp only [SZ6, ZHp, ZH, gs, gh, List.append_assoc, List.cons_append, List.nil_append]; exact eI) ?_ (hm := .inr ⟨rfl, rfl⟩)
    rintro _ _ ⟨sl1, m1, rfl, rfl⟩ _
    rw [List.append_nil]
    simp only [SZ6, ZHp, ZH, gs, gh, List.cons_append, List.nil_append]
    refine yS (oj hnd hx0) ?_
    refine yG (oj hnd hx0) ?_
    refine aw_cw ([(g3, .cells 83 1 (ofL [fnC 85 [g1, g2, g3, g4]])), (g4, .cells 74 1 (ofL [.optr gT 0])), (gT, .cells 120 3 (ofL [.osl g 3 0 ns.length, .raw (.map (some gU)), .raw (.map (some gM))])), (g, .cells 88 (ns.length * 3) (dnsF ns))]) [(0,0),(1,0),(2,0),(3,0),(4,0),(5,0),(6,0),(7,0),(8,0),(9,0),(10,1)] ty_mixed (by kernel_rfl) eI ?_
    refine yG (oj hnd hx0) ?_
    refine cw_callhv (gs := [g1, g2, g3, g4]) (hr := []) rfl (ih nd.hi sl1 (by omega) kh) rfl rfl rfl (zE (oj hnd hx0)) (by rw [List.append_nil]; exact .refl _) (zL (oj hnd hx0)) (by
      rintro _ _ ⟨_, _, rfl, rfl⟩; simp only [SZ6, ZHp, ZH, gs, gh, List.append_assoc, List.cons_append, List.nil_append]; exact eI) ?_ (hm := .inr ⟨rfl, rfl⟩)
    rintro _ _ ⟨sl2, m2, rfl, rfl⟩ _
    rw [List.append_nil]
    refine yS (oj hnd hx0) ?_
    refine yG (oj hnd hx0) ?_
    refine yV (oj hnd hx0) ?_
    exact ⟨sl2, nd0 sl1 sl2 m1 m2, rfl, rfl⟩
set_option maxRecDepth 100000 in
set_option maxHeartbeats 3200000 in
theorem zsmall_fh (gT gU gM : Nat) {n : Nat} {og : Option Nat} {ns : List DN} {mm : Mem3} (hs : ZS n og ns mm) (hn : ns.length ≤ 1000000000) {r : Int} (hr : RefOk ns r) {most : Int} (hm : ((2 ^ n : Nat) : Int) ≤ most + 1) :
    Fh Tryz.prog 46 (ZHp gT gU gM og ns mm) [.c (.optr gT 0), .c (.int .i64 r), .c (.int .i64 most)] (fun x h => x = .c (.bool true) ∧ h = ZHp gT gU gM og ns mm) := by
  refine fh_of_body Tryz.func46 rfl rfl (by simp [Tryz.ntmps46]) fun C hC => ?_
  simp only [initS, Nat.reduceAdd]
  unfold ZHp ZH
  simp only [List.cons_append, List.nil_append]
  refine xG ?_
  refine xB fun g3 hn_g3=>?_
  refine yG hn_g3 ?_
  refine yB hn_g3 fun g5 hn_g5=>?_
  refine yG (oj hn_g3 hn_g5) ?_
  refine aw_makeMap (Kf := keyI) rfl rfl rfl fun gd hn_gd => ?_
  replace hn_gd := Heap.ne_of hn_gd
  dsimp only [Heap.ne, gh] at hn_gd
  refine yS (oj hn_g3 (oj hn_g5 hn_gd)) ?_
  refine yG (oj hn_g3 (oj hn_g5 hn_gd)) ?_
  refine yA (oj hn_g3 (oj hn_g5 hn_gd)) fun g7 hn_g7=>?_
  refine yG (oj hn_g3 (oj hn_g5 (oj hn_gd hn_g7))) ?_
  refine yW (oj hn_g3 (oj hn_g5 (oj hn_gd hn_g7))) ?_
  refine yS (oj hn_g3 (oj hn_g5 (oj hn_gd hn_g7))) ?_
  refine yG (oj hn_g3 (oj hn_g5 (oj hn_gd hn_g7))) ?_
  refine yA (oj hn_g3 (oj hn_g5 (oj hn_gd hn_g7))) fun g8 hn_g8=>?_
  refine yG (oj hn_g3 (oj hn_g5 (oj hn_gd (oj hn_g7 hn_g8)))) ?_
  refine aw_makeFunc (gs := [g7, g5, g8, g3]) rfl rfl rfl (zE (oj hn_g3 (oj hn_g5 (oj hn_gd (oj hn_g7 hn_g8))))) ?_
  refine yS (oj hn_g3 (oj hn_g5 (oj hn_gd (oj hn_g7 hn_g8)))) ?_
  refine yG (oj hn_g3 (oj hn_g5 (oj hn_gd (oj hn_g7 hn_g8)))) ?_
  refine yW (oj hn_g3 (oj hn_g5 (oj hn_gd (oj hn_g7 hn_g8)))) ?_
  refine yS (oj hn_g3 (oj hn_g5 (oj hn_gd (oj hn_g7 hn_g8)))) ?_
  refine yG (oj hn_g3 (oj hn_g5 (oj hn_gd (oj hn_g7 hn_g8)))) ?_
  refine aw_callhv (hr := []) (zswalk_fh g7 g5 g8 g3 gd gT gU gM most hs hn (r.toNat + 1) r [] (by omega) hr) rfl rfl rfl (zE (oj hn_g3 (oj hn_g5 (oj hn_gd (oj hn_g7 hn_g8))))) ?hp (zL (oj hn_g3 (oj hn_g5 (oj hn_gd (oj hn_g7 hn_g8))))) ?_
  · rw [List.append_nil]
    exact (permL [(g8, _), (g7, _), (gd, _), (g5, _), (g3, _)] [0, 1, 2, 3, 4] [1, 3, 0, 4, 2] (by decide)).append_right (ZHp gT gU gM og ns mm)
  rintro _ _ ⟨sl, m, rfl, rfl⟩ _
  rw [List.append_nil]
  have hl : sl.length ≤ 2 ^ n - 1 := by
    have h0 := (evZ_le hs.tab hr).1
    have := m.len
    have hp : 2 ^ ((n : Int) - evZ n ns r).toNat ≤ 2 ^ n := Nat.pow_le_pow_right (by omega) (by omega)
    simp only [List.length_nil] at this
    omega
  have hd : decide ((sl.length : Int) ≤ most) = true := decide_eq_true (by
    have := Nat.pow_pos (n := n) (show 0 < 2 by omega)
    omega)
  unfold ZHp ZH SZ6
  simp only [List.cons_append, List.nil_append]
  refine yS (oj hn_g3 (oj hn_g5 (oj hn_gd (oj hn_g7 hn_g8)))) ?_
  refine yG (oj hn_g3 (oj hn_g5 (oj hn_gd (oj hn_g7 hn_g8)))) ?_
  refine aw_lenMap (kv := snL sl) (Kf := keyI) (kt := 3) (et := 4) rfl rfl rfl (by kernel_rfl) (zE (oj hn_g3 (oj hn_g5 (oj hn_gd (oj hn_g7 hn_g8))))) (zE (oj hn_g3 (oj hn_g5 (oj hn_gd (oj hn_g7 hn_g8))))) ?_
  rw [show (snL sl).length = sl.length from by simp [snL]]
  refine yS (oj hn_g3 (oj hn_g5 (oj hn_gd (oj hn_g7 (oj hn_g8 hd))))) ?_
  refine yG (oj hn_g3 (oj hn_g5 (oj hn_gd (oj hn_g7 (oj hn_g8 hd))))) ?_
  refine aw_keep [(6, .c (.bool true))] (ZHp gT gU gM og ns mm) (zB (oj hn_g3 (oj hn_g5 (oj hn_gd (oj hn_g7 (oj hn_g8 hd)))))) (List.sublist_append_right (SZ6 g7 g5 g8 g3 gd gT most sl) _) ?_
  refine yU (oj hn_g3 (oj hn_g5 (oj hn_gd (oj hn_g7 (oj hn_g8 hd))))) ?_
  exact ⟨rfl, rfl⟩
abbrev XZ5 (g1 g2 g3 g4 gd gT : Nat) (rs : List Int) (oN : Option Nat) (n : Nat) : Heap :=
  [(g1, .cells 121 1 (ofL [.raw (.map (some gd))])), (g2, .cells 74 1 (ofL [.optr gT 0])), (g3, .cells 65 1 (ofL [fnC 86 [g1, g2, g3, g4]])), (g4, .cells 33 2 (ofL [gs oN 3 n, .int .i64 0])), (gd, .gen (MapI keyI (dnL (exL rs))))]
abbrev HXZ (g1 g2 g3 g4 gd gT gU gM : Nat) (og : Option Nat) (ns : List DN) (mm : Mem3) (rs : List Int) (oN : Option Nat) (os : List DN) : Heap :=
  (XZ5 g1 g2 g3 g4 gd gT rs oN os.length ++ ZHp gT gU gM og ns mm) ++ gh oN 88 (os.length * 3) (dnsF os)
set_option maxRecDepth 100000 in
set_option maxHeartbeats 6400000 in
theorem zewalk_fh (g1 g2 g3 g4 gd gT gU gM : Nat) {n : Nat} {og : Option Nat} {ns : List DN} {mm : Mem3} (hs : ZS n og ns mm) (hn : ns.length ≤ 1000000000)   : ∀ (k : Nat) (r : Int) (rs : List Int) (oN : Option Nat) (os : List DN), r.toNat < k → RefOk ns r → ExOk ns rs os → (oN = none → os.length = 0) →
    Fh Tryz.prog 86 (HXZ g1 g2 g3 g4 gd gT gU gM og ns mm rs oN os) ([.c (.int .i64 r)] ++ [g1, g2, g3, g4].map fun g => .c (.optr g 0)) (fun x h => ∃ rs' oN' os' y, ZEx n ns rs os rs' os' r y ∧ (oN' = none → os'.length = 0) ∧ x = .c (.int .i64 y) ∧ h = HXZ g1 g2 g3 g4 gd gT gU gM og ns mm rs' oN' os') := by
  intro k
  induction k with
  | zero => intro r rs oN os hk; omega
  | succ k ih =>
    intro r rs oN os hk hr hx hoN
    simp only [List.cons_append, List.nil_append, List.map_cons, List.map_nil]
    refine fh_of_body Tryz.func86 rfl rfl (by simp [Tryz.ntmps86]) fun C hC => ?_
    simp only [initS, Nat.reduceAdd]
    simp only [HXZ, XZ5, ZHp, ZH, List.cons_append, List.nil_append]
    refine aw_nd fun hnd => ?_
    simp only [Heap.keys, List.map_cons] at hnd
    replace hnd := ndP_of hnd
    dsimp only [ndP, neA] at hnd
    refine yG hnd ?_
    refine aw_lookup2 (a := r) (kv := dnL (exL rs)) (Kf := keyI) (kt := 3) (et := 3) rfl rfl rfl (by kernel_rfl) ty_ki ty_iz (zE hnd) (zE hnd) (zE hnd) keyI_rep ?_
    refine yS hnd ?_
    rw [dn_get, exL_get hr.1 rs (fun x hm => (hx.bd x hm).1)]
    cases hf : exR rs r with
    | some y =>
      try simp only [Option.map_some, Option.getD_some, Option.isSome_some, cstC]
      refine yG hnd ?_
      refine yP hnd ?_
      refine yG hnd ?_
      refine yU hnd ?_
      exact ⟨rs, oN, os, y, zex_same hx hf, hoN, rfl, by simp only [HXZ, XZ5, ZHp, ZH, List.cons_append, List.nil_append]⟩
    | none =>
      try simp only [Option.map_none, Option.getD_none, Option.isSome_none, cstC]
      refine yG hnd ?_
      refine yN hnd ?_
      have h2 : 2 ≤ r := by
        refine Classical.byContradiction fun h => ?_
        unfold exR at hf
        rw [if_pos (by omega)] at hf
        cases hf
      have hnew : r ∉ rs := fun hm => by
        unfold exR at hf
        rw [if_neg (by omega), if_pos hm] at hf
        cases hf
      obtain ⟨g, rfl⟩ : ∃ g, og = some g := by
        cases og with
        | none => have := hs.og rfl; unfold RefOk at hr; omega
        | some g => exact ⟨g, rfl⟩
      have hi : (r - 2).toNat < ns.length := by unfold RefOk at hr; omega
      have hrl : r < ns.length + 2 := hr.2
      obtain ⟨w0, w1, w2, w3, w4, w5⟩ := (hs.tab.ns _ hi)
      obtain ⟨kl, kh⟩ := hs.tab.kids hi
      have hnode : ∀ {rs1 rs2 : List Int} {os1 os2 : List DN} {xl xh : Int}, ZEx n ns rs os rs1 os1 (ns.getD (r - 2).toNat dn0).lo xl → ZEx n ns rs1 os1 rs2 os2 (ns.getD (r - 2).toNat dn0).hi xh → r ∉ rs2 ∧ ZEx n ns rs os (rs2 ++ [r]) (os2 ++ [⟨(ns.getD (r - 2).toNat dn0).v, xl, xh⟩]) r ((rs2.length : Int) + 2) := fun a b => zex_node hs.tab h2 hrl hnew a b
      simp only [gs, gh, List.cons_append, List.nil_append]
      clear hnd
      refine aw_nd fun hnd => ?_
      simp only [Heap.keys, List.map_cons, List.map_append] at hnd
      replace hnd := ndP_of hnd
      dsimp only [ndP, neA] at hnd
      generalize hx0 : ns.getD (r - 2).toNat dn0 = nd at *
      refine yG (oj hnd hx0) ?_
      refine yA (oj hnd hx0) fun g9 hn_g9=>?_
      refine yG (oj hnd (oj hx0 hn_g9)) ?_
      refine yW (oj hnd (oj hx0 hn_g9)) ?_
      refine yS (oj hnd (oj hx0 hn_g9)) ?_
      refine yG (oj hnd (oj hx0 hn_g9)) ?_
      refine aw_callhv (hr := [(g9, .cells 88 3 (ofL [.int .i64 nd.v, .int .i64 nd.lo, .int .i64 nd.hi]))]) (gs := [g1, g2, g3, g4]) (ih nd.lo rs oN os (by omega) kl hx hoN) rfl rfl rfl (zE (oj hnd (oj hx0 hn_g9))) ?_ (zL (oj hnd (oj hx0 hn_g9))) ?_
      · exact List.perm_append_comm (l₁ := [(g9, _)])
      rintro _ _ ⟨rs1, oN1, os1, xl, a1, hoN1, rfl, rfl⟩ _
      refine aw_perm List.perm_append_comm ?_
      simp only [HXZ, XZ5, ZHp, ZH, gs, gh, List.cons_append, List.nil_append]
      clear hnd
      refine aw_nd fun hnd => ?_
      simp only [Heap.keys, List.map_cons, List.map_append] at hnd
      replace hnd := ndP_of hnd
      dsimp only [ndP, neA] at hnd
      refine yS hnd ?_
      refine yG hnd ?_
      refine aw_callhv (hr := [(g9, .cells 88 3 (ofL [.int .i64 nd.v, .int .i64 nd.lo, .int .i64 nd.hi]))]) (gs := [g1, g2, g3, g4]) (ih nd.hi rs1 oN1 os1 (by omega) kh a1.ok hoN1) rfl rfl rfl (zE hnd) ?_ (zL hnd) ?_
      · exact List.perm_append_comm (l₁ := [(g9, _)])
      rintro _ _ ⟨rs2, oN2, os2, xh, b1, hoN2, rfl, rfl⟩ _
      refine aw_perm List.perm_append_comm ?_
      simp only [HXZ, XZ5, ZHp, ZH, gh, List.cons_append, List.nil_append]
      clear hnd
      refine aw_nd fun hnd => ?_
      simp only [Heap.keys, List.map_cons, List.map_append] at hnd
      replace hnd := ndP_of hnd
      dsimp only [ndP, neA] at hnd
      obtain ⟨hout, hex⟩ := hnode a1 b1
      have l2 := b1.ok.len
      have l3 := b1.ok.lenle
      have hlen := lenCV_gs (s := 3) hoN2
      (try simp only[go_sem, hnd, ↓hlen])
      repeat first|apply wa1|apply wa2|apply wa3|apply wa4|apply wa5 rfl|apply wa6|apply wa7|(refine wb1 rfl fun R r=>?_;simp only[go_sem, hnd, ↓hlen];with_reducible refine r _ _ ?_;clear r R)
      refine aw_push (pre := [(g9, .cells 88 3 (ofL [.int .i64 nd.v, .int .i64 nd.lo, .int .i64 nd.hi])), (g1, .cells 121 1 (ofL [.raw (.map (some gd))])), (g2, .cells 74 1 (ofL [.optr gT 0])), (g3, .cells 65 1 (ofL [fnC 86 [g1, g2, g3, g4]])), (g4, .cells 33 2 (ofL [gs oN2 3 os2.length, .int .i64 0])), (gd, .gen (MapI keyI (dnL (exL rs2)))), (gT, .cells 120 3 (ofL [.osl g 3 0 ns.length, .raw (.map (some gU)), .raw (.map (some gM))])), (gU, .gen (MapI dkV (uqTo ns 0))), (gM, .gen (MapI keyS (mmL mm))), (g, .cells 88 (ns.length * 3) (dnsF ns))]) rfl rfl rfl rfl rfl rfl rfl (by simp only[go_sem, hnd, ↓hlen]<;>rfl) (by simp only[go_sem, hnd, ↓hlen]<;>rfl) (by rfl) (by omega) (by omega) (by simp only[go_sem, hnd, ↓hlen]<;>rfl) (by omega) (by exact hoN2) (by simp only[go_sem, hnd, ↓hlen]<;>rfl) (by rfl) (by rfl) (by first | rfl | simp only [Nat.mul_one, List.nil_append, List.cons_append] <;> rfl) (by unfold maxLen; omega) (by omega) (by exact lf_push (xs := os2) rfl (⟨nd.v, xl, xh⟩ : DN) (by omega)) fun gN hn_gN => ?_
      replace hn_gN := Heap.ne_of hn_gN
      first | dsimp only [Heap.ne, gh] at hn_gN | dsimp only [Heap.ne] at hn_gN | skip
      (try simp only[go_sem, hnd, ↓hlen, hn_gN])
      simp only [gs, gh, List.cons_append, List.nil_append]
      repeat first|apply wa1|apply wa2|apply wa3|apply wa4|apply wa5 rfl|apply wa6|apply wa7|(refine wb1 rfl fun R r=>?_;simp only[go_sem, hnd, ↓hlen, hn_gN];with_reducible refine r _ _ ?_;clear r R)
      refine aw_store rfl rfl rfl rfl (by simp only[go_sem, hnd, ↓hlen, hn_gN]<;>rfl) (by simp only[go_sem, hnd, ↓hlen, hn_gN]<;>rfl) (by simp only[go_sem, hnd, ↓hlen, hn_gN]<;>rfl) (by simp only[go_sem, hnd, ↓hlen, hn_gN]<;>rfl) (fun _ e => by cases e) (by first | rfl | exact solid_gs3 | exact solid_gs2) (by rfl) (by first|omega|simp) rfl ?_
      (try simp only[go_sem, hnd, ↓hlen, hn_gN])
      repeat first|apply wa1|apply wa2|apply wa3|apply wa4|apply wa5 rfl|apply wa6|apply wa7|(refine wb1 rfl fun R r=>?_;simp only[go_sem, hnd, ↓hlen, hn_gN];with_reducible refine r _ _ ?_;clear r R)
      have e1 : (1 : Int) + ((os2.length + 1 : Nat) : Int) = 2 + (rs2.length : Int) := by omega
      have e1' : (1 : Int) + ((os2.length : Int) + 1) = 2 + (rs2.length : Int) := by omega
      have hb2 : ∀ x ∈ rs2, 2 ≤ x := fun x hm => (b1.ok.bd x hm).1
      refine aw_mapNew (a := r) (kv := dnL (exL rs2)) (Kf := keyI) (v := .int .i64 (2 + (rs2.length : Int))) rfl rfl rfl (kt := 3) (et := 3) (by kernel_rfl) ty_ki (by simp only[go_sem, hnd, ↓hlen, hn_gN]<;>rfl) (by simp only[go_sem, hnd, ↓hlen, hn_gN]<;>rfl) (by simp only[go_sem, hnd, ↓hlen, hn_gN]<;>rfl) keyI_rep (cv := .c (.int .i64 (2 + (rs2.length : Int)))) (by (try simp only[go_sem, hnd, ↓hlen, hn_gN]); first | rfl | rw [e1] | rw [e1']) (fun S w u h => h) (by rw [dn_get, exL_get hr.1 rs2 hb2]; unfold exR; rw [if_neg (by omega), if_neg hout]; rfl) (by simp only[go_sem, hnd, ↓hlen, hn_gN]<;>rfl) ?_
      rw [dnL_push, exL_push]
      (try simp only[go_sem, hnd, ↓hlen, hn_gN])
      repeat first|apply wa1|apply wa2|apply wa3|apply wa4|apply wa5 rfl|apply wa6|apply wa7|(refine wb1 rfl fun R r=>?_;simp only[go_sem, hnd, ↓hlen, hn_gN];with_reducible refine r _ _ ?_;clear r R)
      refine aw_lookup (a := r) (kv := dnL (exL (rs2 ++ [r]))) (Kf := keyI) (kt := 3) (et := 3) rfl rfl rfl (by kernel_rfl) ty_ki ty_iz (by simp only[go_sem, hnd, ↓hlen, hn_gN]<;>rfl) (by simp only[go_sem, hnd, ↓hlen, hn_gN]<;>rfl) (by simp only[go_sem, hnd, ↓hlen, hn_gN]<;>rfl) keyI_rep ?_
      rw [dn_get, exL_get hr.1 _ (fun x hm => by rcases List.mem_append.1 hm with hm | hm; exact hb2 x hm; rw [List.mem_singleton] at hm; omega), hex.ref]
      try simp only [Option.map_some, Option.getD_some, cstC]
      (try simp only[go_sem, hnd, ↓hlen, hn_gN])
      repeat first|apply wa1|apply wa2|apply wa3|apply wa4|apply wa5 rfl|apply wa6|apply wa7|(refine wb1 rfl fun R r=>?_;simp only[go_sem, hnd, ↓hlen, hn_gN];with_reducible refine r _ _ ?_;clear r R)
      refine aw_keep [(6, .c (.int .i64 ((rs2.length : Int) + 2)))] (HXZ g1 g2 g3 g4 gd gT gU gM (some g) ns mm (rs2 ++ [r]) (some gN) (os2 ++ [⟨nd.v, xl, xh⟩])) (by simp only[go_sem, hnd, ↓hlen, hn_gN]<;>and_intros<;>first|exact True.intro|(with_reducible rfl)|exact c_int (by omega)|rfl) (by
        simp only [HXZ, XZ5, ZHp, ZH, gs, gh, List.cons_append, List.nil_append, List.length_append, List.length_singleton]
        exact List.Sublist.cons _ (List.Sublist.refl _)) ?_
      (refine aw_rethq rfl fun R r=>?_;simp only[go_sem, hnd, ↓hlen, hn_gN];refine r _ rfl ?_;clear r R)
      exact ⟨rs2 ++ [r], some gN, os2 ++ [⟨nd.v, xl, xh⟩], _, hex, some_ne, rfl, rfl⟩
set_option maxRecDepth 100000 in
set_option maxHeartbeats 3200000 in
theorem zexport_fh (gT gU gM : Nat) {n : Nat} {og : Option Nat} {ns : List DN} {mm : Mem3} (hs : ZS n og ns mm) (hn : ns.length ≤ 1000000000) {r : Int} (hr : RefOk ns r) :
    Fh Tryz.prog 47 (ZHp gT gU gM og ns mm) [.c (.optr gT 0), .c (.int .i64 r)] (fun x h => ∃ rs os y, ZEx n ns [] [] rs os r y ∧ x = .agg (zdc true ⟨os, y⟩) ∧ h = ZHp gT gU gM og ns mm) := by
  refine fh_of_body Tryz.func47 rfl rfl (by simp [Tryz.ntmps47]) fun C hC => ?_
  simp only [initS, Nat.reduceAdd]
  unfold ZHp ZH
  simp only [List.cons_append, List.nil_append]
  refine xG ?_
  refine xB fun g2 hn_g2=>?_
  refine yG hn_g2 ?_
  refine yA hn_g2 fun g4 hn_g4=>?_
  refine yG (oj hn_g2 hn_g4) ?_
  refine yA (oj hn_g2 hn_g4) fun g5 hn_g5=>?_
  refine yG (oj hn_g2 (oj hn_g4 hn_g5)) ?_
  refine aw_makeMap (Kf := keyI) rfl rfl rfl fun gd hn_gd => ?_
  replace hn_gd := Heap.ne_of hn_gd
  dsimp only [Heap.ne, gh] at hn_gd
  refine yS (oj hn_g2 (oj hn_g4 (oj hn_g5 hn_gd))) ?_
  refine yG (oj hn_g2 (oj hn_g4 (oj hn_g5 hn_gd))) ?_
  refine aw_insNew (a := 0) (kv := []) (Kf := keyI) (v := .int .i64 0) rfl rfl rfl (kt := 3) (et := 3) (by kernel_rfl) ty_ki (zE (oj hn_g2 (oj hn_g4 (oj hn_g5 hn_gd)))) (zE (oj hn_g2 (oj hn_g4 (oj hn_g5 hn_gd)))) (zE (oj hn_g2 (oj hn_g4 (oj hn_g5 hn_gd)))) keyI_rep (cv := .c (.int .i64 0)) (zE (oj hn_g2 (oj hn_g4 (oj hn_g5 hn_gd)))) (fun S w u h => h) rfl (zE (oj hn_g2 (oj hn_g4 (oj hn_g5 hn_gd)))) ?_
  refine yS (oj hn_g2 (oj hn_g4 (oj hn_g5 hn_gd))) ?_
  refine yG (oj hn_g2 (oj hn_g4 (oj hn_g5 hn_gd))) ?_
  refine aw_insNew (a := 1) (kv := [(0, .int .i64 0)]) (Kf := keyI) (v := .int .i64 1) rfl rfl rfl (kt := 3) (et := 3) (by kernel_rfl) ty_ki (zE (oj hn_g2 (oj hn_g4 (oj hn_g5 hn_gd)))) (zE (oj hn_g2 (oj hn_g4 (oj hn_g5 hn_gd)))) (zE (oj hn_g2 (oj hn_g4 (oj hn_g5 hn_gd)))) keyI_rep (cv := .c (.int .i64 1)) (zE (oj hn_g2 (oj hn_g4 (oj hn_g5 hn_gd)))) (fun S w u h => h) rfl (zE (oj hn_g2 (oj hn_g4 (oj hn_g5 hn_gd)))) ?_
  refine yS (oj hn_g2 (oj hn_g4 (oj hn_g5 hn_gd))) ?_
  refine yG (oj hn_g2 (oj hn_g4 (oj hn_g5 hn_gd))) ?_
  refine yA (oj hn_g2 (oj hn_g4 (oj hn_g5 hn_gd))) fun g6 hn_g6=>?_
  refine yG (oj hn_g2 (oj hn_g4 (oj hn_g5 (oj hn_gd hn_g6)))) ?_
  refine yW (oj hn_g2 (oj hn_g4 (oj hn_g5 (oj hn_gd hn_g6)))) ?_
  refine yS (oj hn_g2 (oj hn_g4 (oj hn_g5 (oj hn_gd hn_g6)))) ?_
  refine yG (oj hn_g2 (oj hn_g4 (oj hn_g5 (oj hn_gd hn_g6)))) ?_
  refine yA (oj hn_g2 (oj hn_g4 (oj hn_g5 (oj hn_gd hn_g6)))) fun g7 hn_g7=>?_
  refine yG (oj hn_g2 (oj hn_g4 (oj hn_g5 (oj hn_gd (oj hn_g6 hn_g7))))) ?_
  refine aw_makeFunc (gs := [g6, g2, g7, g5]) rfl rfl rfl (zE (oj hn_g2 (oj hn_g4 (oj hn_g5 (oj hn_gd (oj hn_g6 hn_g7)))))) ?_
  refine yS (oj hn_g2 (oj hn_g4 (oj hn_g5 (oj hn_gd (oj hn_g6 hn_g7))))) ?_
  refine yG (oj hn_g2 (oj hn_g4 (oj hn_g5 (oj hn_gd (oj hn_g6 hn_g7))))) ?_
  refine yW (oj hn_g2 (oj hn_g4 (oj hn_g5 (oj hn_gd (oj hn_g6 hn_g7))))) ?_
  refine yS (oj hn_g2 (oj hn_g4 (oj hn_g5 (oj hn_gd (oj hn_g6 hn_g7))))) ?_
  refine yG (oj hn_g2 (oj hn_g4 (oj hn_g5 (oj hn_gd (oj hn_g6 hn_g7))))) ?_
  refine aw_callhv (hr := [(g4, .cells 33 2 (ofL [.nils, .int .i64 0]))]) (zewalk_fh g6 g2 g7 g5 gd gT gU gM hs hn (r.toNat + 1) r [] none [] (by omega) hr (ExOk.nil ns) (fun _ => rfl)) rfl rfl rfl (zE (oj hn_g2 (oj hn_g4 (oj hn_g5 (oj hn_gd (oj hn_g6 hn_g7)))))) ?hp (zL (oj hn_g2 (oj hn_g4 (oj hn_g5 (oj hn_gd (oj hn_g6 hn_g7)))))) ?_
  · have e : HXZ g6 g2 g7 g5 gd gT gU gM og ns mm [] none [] = XZ5 g6 g2 g7 g5 gd gT [] none 0 ++ ZHp gT gU gM og ns mm := List.append_nil _
    rw [e]
    refine ((permL [(g7, _), (g6, _), (gd, _), (g5, _), (g4, _), (g2, _)] [0, 1, 2, 3, 4, 5] [4, 1, 5, 0, 3, 2] (by decide)).append_right (ZHp gT gU gM og ns mm)).trans ?_
    exact (List.perm_append_singleton (g4, _) (XZ5 g6 g2 g7 g5 gd gT [] none 0 ++ ZHp gT gU gM og ns mm)).symm
  rintro _ _ ⟨rs, oN, os, y, hex, hoN, rfl, rfl⟩ _
  unfold HXZ XZ5 ZHp ZH
  simp only [List.cons_append, List.nil_append, List.append_assoc]
  refine yS (oj hn_g2 (oj hn_g4 (oj hn_g5 (oj hn_gd (oj hn_g6 hn_g7))))) ?_
  refine yG (oj hn_g2 (oj hn_g4 (oj hn_g5 (oj hn_gd (oj hn_g6 hn_g7))))) ?_
  refine yW (oj hn_g2 (oj hn_g4 (oj hn_g5 (oj hn_gd (oj hn_g6 hn_g7))))) ?_
  refine yS (oj hn_g2 (oj hn_g4 (oj hn_g5 (oj hn_gd (oj hn_g6 hn_g7))))) ?_
  refine aw_keep [(4, .c (.optr g4 0)), (5, .c (.optr g5 0))] ((g5, .cells 33 2 (ofL [gs oN 3 os.length, .int .i64 y])) :: ([(gT, .cells 120 3 (ofL [gs og 3 ns.length, .raw (.map (some gU)), .raw (.map (some gM))])), (gU, .gen (MapI dkV (uqTo ns 0))), (gM, .gen (MapI keyS (mmL mm)))] ++ (gh og 88 (ns.length * 3) (dnsF ns) ++ (gh oN 88 (os.length * 3) (dnsF os) ++ [(g4, .cells 33 2 (ofL [.nils, .int .i64 0]))])))) (zB (oj hn_g2 (oj hn_g4 (oj hn_g5 (oj hn_gd (oj hn_g6 hn_g7)))))) (List.Sublist.cons _ (List.Sublist.cons _ (List.Sublist.cons _ (List.Sublist.cons_cons _ (List.Sublist.cons _ (List.Sublist.refl _)))))) ?_
  refine aw_perm (List.Perm.cons _ (perm_ex _ _ _ _)) ?_
  refine aw_nd fun hnd => ?_
  refine aw_frzG (j0 := 0) (og := oN) (s := 3) (n := os.length) (f' := ofL [dns true os, .int .i64 y]) rfl rfl (fun j hj hne => ?_) hoN (fun g e => ?_) ?_
  · match j, hj, hne with
    | 0, _, hne => exact absurd rfl hne
    | 1, _, _ => rfl
  · subst e
    intro hown
    have hm : g ∈ Heap.keys (ZHp gT gU gM og ns mm) := (hC g).1 hown
    have h1 : (g5 :: g :: g4 :: Heap.keys (ZHp gT gU gM og ns mm)).Nodup := hnd
    exact (List.nodup_cons.1 (List.nodup_cons.1 h1).2).1 (List.mem_cons_of_mem _ hm)
  clear hnd
  simp only [List.cons_append, List.nil_append]
  refine yS (oj hn_g2 (oj hn_g4 (oj hn_g5 (oj hn_gd (oj hn_g6 hn_g7))))) ?_
  refine yG (oj hn_g2 (oj hn_g4 (oj hn_g5 (oj hn_gd (oj hn_g6 hn_g7))))) ?_
  refine yW (oj hn_g2 (oj hn_g4 (oj hn_g5 (oj hn_gd (oj hn_g6 hn_g7))))) ?_
  refine yS (oj hn_g2 (oj hn_g4 (oj hn_g5 (oj hn_gd (oj hn_g6 hn_g7))))) ?_
  refine yG (oj hn_g2 (oj hn_g4 (oj hn_g5 (oj hn_gd (oj hn_g6 hn_g7))))) ?_
  refine aw_keep [(4, .c (.optr g4 0))] ((g4, .cells 33 2 (ofL (zdc true ⟨os, y⟩))) :: ZHp gT gU gM og ns mm) (zB (oj hn_g2 (oj hn_g4 (oj hn_g5 (oj hn_gd (oj hn_g6 hn_g7)))))) (List.Sublist.cons _ (List.Sublist.refl _)) ?_
  refine aw_rethw (h' := ZHp gT gU gM og ns mm) rfl (List.Sublist.cons _ (List.Sublist.refl _)) (fun R hR => ?_)
  simp only [go_sem, hn_g2, hn_g4, hn_g5, hn_gd, hn_g6, hn_g7]
  refine hR _ rfl ?_
  clear hR R
  exact ⟨rs, os, y, hex, rfl, rfl⟩
end Go.Proofs.YtcoflhkcpnoaaaaGreat
namespace Go.PN
open Go.AI
theorem mkZ_take {n : Nat} {ns : List DN} (h : ZTab n ns) {k : Nat} (hk : k < ns.length) : mkZ (ns.take k) (ns.getD k dn0).v (ns.getD k dn0).lo (ns.getD k dn0).hi = (ns.take (k + 1), 2 + (k : Int)) := by
  have nd := h k hk
  have hl : (ns.take k).length = k := by rw [List.length_take]; omega
  unfold mkZ
  rw [if_neg nd.hi]
  cases hf : findN ⟨(ns.getD k dn0).v, (ns.getD k dn0).lo, (ns.getD k dn0).hi⟩ (ns.take k) 0 with
  | some i =>
    obtain ⟨_, i2, i3⟩ := findN_some hf
    rw [Nat.sub_zero] at i3
    exfalso
    refine nd.new ?_
    rw [show ns.getD k dn0 = ⟨(ns.getD k dn0).v, (ns.getD k dn0).lo, (ns.getD k dn0).hi⟩ from rfl, ← i3, List.getD_eq_getElem?_getD, List.getElem?_eq_getElem (by omega)]
    exact List.getElem_mem _
  | none =>
    rw [takeDN_push hk, hl]
theorem ZTab.take {n : Nat} {ns : List DN} (h : ZTab n ns) (k : Nat) : ZTab n (ns.take k) := fun i hi => by
  rw [List.length_take] at hi
  obtain ⟨nk, h0, bl, bh, new⟩ := h i (by omega)
  have e : ∀ j, j < k → j < ns.length → (ns.take k).getD j dn0 = ns.getD j dn0 := fun j h1 h2 => by
    rw [List.getD_eq_getElem?_getD, List.getD_eq_getElem?_getD, List.getElem?_take, if_pos h1]
  obtain ⟨v0, v1, l0, l1, g0, g1⟩ := nk
  have hev : ∀ r : Int, 0 ≤ r → r < i + 2 → evZ n (ns.take k) r = evZ n ns r := fun r h0 h1 => by
    unfold evZ
    split
    · rfl
    · rw [e _ (by omega) (by omega)]
  rw [← e i (by omega) (by omega)] at v0 v1 l0 l1 g0 g1 h0 bl bh new
  refine ⟨⟨v0, v1, l0, l1, g0, g1⟩, h0, by rw [hev _ l0 (by omega)]; exact bl, by rw [hev _ g0 (by omega)]; exact bh, ?_⟩
  rw [List.take_take, Nat.min_eq_left (by omega)]
  exact new
end Go.PN
namespace Go.Proofs.YtcoflhkcpnoaaaaGreat
open Go.AI Go.PN
attribute [local irreducible] aw Fa Fh DrK
set_option maxRecDepth 100000 in
set_option maxHeartbeats 1600000 in
theorem newSets_fh : Fh Tryz.prog 44 [] [] (fun x h => ∃ gT gU gM, x = .c (.optr gT 0) ∧ h = ZHp gT gU gM none [] []) := by
  refine fh_of_body Tryz.func44 rfl rfl (by simp [Tryz.ntmps44]) fun C hC => ?_
  simp only [initS, Nat.reduceAdd]
  refine xG ?_
  refine aw_makeMap (Kf := dkV) rfl rfl rfl fun gU hn_gU => ?_
  replace hn_gU := Heap.ne_of hn_gU
  dsimp only [Heap.ne] at hn_gU
  refine yS hn_gU ?_
  refine yG hn_gU ?_
  refine aw_makeMap (Kf := keyS) rfl rfl rfl fun gM hn_gM => ?_
  replace hn_gM := Heap.ne_of hn_gM
  dsimp only [Heap.ne] at hn_gM
  refine yS (oj hn_gU hn_gM) ?_
  refine yG (oj hn_gU hn_gM) ?_
  refine yB (oj hn_gU hn_gM) fun gT hn_gT=>?_
  refine yG (oj hn_gU (oj hn_gM hn_gT)) ?_
  refine aw_perm (permL [(gT, _), (gM, _), (gU, _)] [0, 1, 2] [0, 2, 1] (by decide)) ?_
  refine yU (oj hn_gU (oj hn_gM hn_gT)) ?_
  exact ⟨gT, gU, gM, rfl, rfl⟩
set_option maxRecDepth 100000 in
set_option maxHeartbeats 3200000 in
theorem zimport_fh (gT gU gM : Nat) {n : Nat} (z : ZD) (ht : ZTab n z.nodes) (hr : RefOk z.nodes z.root) (hn : z.nodes.length ≤ 1000000) :
    Fh Tryz.prog 48 (ZHp gT gU gM none [] []) [.c (.optr gT 0), .agg (zdc false z)] (fun x h => ∃ og, (og = none → z.nodes.length = 0) ∧ x = .c (.int .i64 z.root) ∧ h = ZHp gT gU gM og z.nodes []) := by
  have k2 := hr.1
  have k3 := hr.2
  refine fh_of_body Tryz.func48 rfl rfl (by simp [Tryz.ntmps48]) fun C hC => ?_
  simp only [initS, Nat.reduceAdd]
  simp only [ZHp, ZH, List.cons_append, List.nil_append]
  refine xG ?_
  refine xB fun g3 hn_g3=>?_
  refine yG hn_g3 ?_
  refine aw_make (n := z.nodes.length + 2) (c := z.nodes.length + 2) (size := 1) (bytes := 8) (z := [.int .i64 0]) rfl rfl rfl (zE hn_g3) (zE hn_g3) rfl (by omega) (zE hn_g3) (zE hn_g3) (by omega) (by omega) (by omega) (by omega) (by omega) fun g5 hn_g5 => ?_
  clear hn_g5 hn_g3
  simp only [Nat.mul_one]
  rw [make_is]
  refine aw_nd fun hnd => ?_
  simp only [Heap.keys, List.map_cons] at hnd
  replace hnd := ndP_of hnd
  dsimp only [ndP, neA] at hnd
  refine yS hnd ?_
  refine yG hnd ?_
  refine yW hnd ?_
  refine yS hnd ?_
  rw [updF_is (zs := List.replicate (z.nodes.length + 2) 0) (i := 1) (v := 1) (by rw [List.length_replicate]; omega)]
  refine yG hnd ?_
  refine aw_lp (fun x : Nat × Option Nat × List Int => [(0, .c (.optr gT 0)), (3, .c (.optr g3 0)), (5, .c (.osl g5 1 0 (z.nodes.length + 2))), (16, .c (dns false z.nodes)), (17, .c (.int .i64 z.nodes.length)), (18, .c (.int .i64 x.1))]) (fun x => [(g5, .cells 3 (z.nodes.length + 2) (isF x.2.2)), (g3, .cells 33 2 (ofL (zdc false z)))] ++ ZHp gT gU gM x.2.1 (z.nodes.take x.1) [])
    (fun x => x.1 ≤ z.nodes.length ∧ (x.2.1 = none → (z.nodes.take x.1).length = 0) ∧ x.2.2.length = z.nodes.length + 2 ∧ ∀ j : Nat, j < x.1 + 2 → x.2.2.getD j 0 = j) (fun x => z.nodes.length - x.1) (0, none, (List.replicate (z.nodes.length + 2) 0).set 1 1) (zB hnd) zZ ⟨Nat.zero_le _, fun _ => rfl, by simp, fun j hj => ?_⟩ ?_
  · obtain rfl | rfl : j = 0 ∨ j = 1 := by dsimp only at hj; omega
    · rw [getZset' (by omega)]; simp
    · rw [getZset (by rw [List.length_replicate]; omega)]; rfl
  clear hnd
  rintro ⟨k, og', rs⟩ ⟨hk, hs', hrl, hi⟩
  dsimp only at hk hs' hrl hi ⊢
  simp only [ZHp, ZH, List.cons_append, List.nil_append]
  refine aw_nd fun hnd => ?_
  simp only [Heap.keys, List.map_cons] at hnd
  replace hnd := ndP_of hnd
  dsimp only [ndP, neA] at hnd
  refine yG hnd ?_
  refine yF hnd (fun h1=>?_) fun h1=>?_
  · have h1' : k < z.nodes.length := by have := of_decide_eq_true h1; omega
    obtain ⟨v0, v1, l0, l1, q0, q1⟩ := (ht k h1').nk
    have hmk := mkZ_take ht h1'
    have hlt : (z.nodes.take k).length = k := by rw [List.length_take]; omega
    refine yG hnd ?_
    refine yA hnd fun g7 hn_g7=>?_
    clear hn_g7
    refine aw_nd fun hnd2 => ?_
    simp only [Heap.keys, List.map_cons] at hnd2
    replace hnd2 := ndP_of hnd2
    dsimp only [ndP, neA] at hnd2
    clear hnd
    refine yG hnd2 ?_
    refine yW hnd2 ?_
    refine yS hnd2 ?_
    have e1 : rs.getD (z.nodes.getD k dn0).lo.toNat 0 = (z.nodes.getD k dn0).lo := by rw [hi _ (by omega)]; omega
    have e2 : rs.getD (z.nodes.getD k dn0).hi.toNat 0 = (z.nodes.getD k dn0).hi := by rw [hi _ (by omega)]; omega
    generalize hx0 : z.nodes.getD k dn0 = nd at *
    refine yG (oj hnd2 hx0) ?_
    refine aw_cw ([(g5, .cells 3 (z.nodes.length + 2) (isF rs)), (g7, .cells 88 3 (ofL [.int .i64 nd.v, .int .i64 nd.lo, .int .i64 nd.hi]))]) [(0,0),(1,0),(2,0),(3,0),(4,0),(5,0),(6,0),(7,0),(8,0),(9,0),(10,0),(11,0),(12,0),(13,0),(14,0),(15,0),(16,1),(17,0),(18,2)] ty_mixed (by kernel_rfl) eI ?_
    refine yG (oj hnd2 hx0) ?_
    have mk := zmake_fh gT gU gM og' (z.nodes.take k) [] nd.v nd.lo nd.hi hs' (by omega)
    rw [hmk] at mk
    rw [e1, e2]
    refine cw_callh (hc := ZHp gT gU gM og' (z.nodes.take k) []) (hr := [(g7, .cells 88 3 (ofL [.int .i64 nd.v, .int .i64 nd.lo, .int .i64 nd.hi])), (g5, .cells 3 (z.nodes.length + 2) (isF rs)), (g3, .cells 33 2 (ofL (zdc false z)))]) rfl mk rfl rfl rfl (List.perm_append_comm (l₁ := [(g7, _), (g5, _), (g3, _)])) (zL (oj hnd2 hx0)) (by
      rintro _ _ ⟨_, _, rfl, rfl⟩; exact has0_app2 eI) ?_ (hm := .inr ⟨rfl, rfl⟩)
    rintro _ _ ⟨og2, hog2, rfl, rfl⟩ _
    refine yS (oj hnd2 hx0) ?_
    refine cw_perm List.perm_append_comm ?_
    simp only [List.cons_append, List.nil_append]
    refine yS (oj hnd2 hx0) ?_
    refine yG (oj hnd2 hx0) ?_
    refine cw_store (FP' := []) rfl rfl rfl rfl rfl (zE (oj hnd2 hx0)) (zE (oj hnd2 hx0)) (zE (oj hnd2 hx0)) (zE (oj hnd2 hx0)) (fun _ e => by cases e) rfl rfl (by show (2 + (k : Int)).toNat + 1 ≤ _; omega) rfl has0_nil ?_
    simp only [AV.cells]
    rw [show ((2 : Int) + (k : Int)).toNat = 2 + k from by omega, updF_is (by omega)]
    refine yS (oj hnd2 hx0) ?_
    refine yG (oj hnd2 hx0) ?_
    refine aw_stop ⟨(k + 1, og2, rs.set (2 + k) (2 + (k : Int))), by dsimp only; omega, (zB (oj hnd2 hx0)), List.Sublist.cons _ (List.Sublist.refl _), by dsimp only; omega, hog2, by dsimp only; rw [List.length_set]; exact hrl, fun j hj => ?_⟩
    dsimp only at hj ⊢
    by_cases e : j = 2 + k
    · subst e; rw [getZset (by omega)]; omega
    · rw [getZset' (by omega)]; exact hi j (by omega)
  · have h1' : k = z.nodes.length := by have := of_decide_eq_false h1; omega
    subst h1'
    have e1 : rs.getD z.root.toNat 0 = z.root := by rw [hi _ (by omega)]; omega
    refine yG (oj hnd e1) ?_
    refine aw_keep [(4, .c (.int .i64 z.root))] (ZHp gT gU gM og' (z.nodes.take z.nodes.length) []) (zB (oj hnd e1)) (List.Sublist.cons _ (List.Sublist.cons _ (List.Sublist.refl _))) ?_
    refine yU (oj hnd e1) ?_
    rw [List.take_length] at hs' ⊢
    exact ⟨og', hs', rfl, rfl⟩
end Go.Proofs.YtcoflhkcpnoaaaaGreat
