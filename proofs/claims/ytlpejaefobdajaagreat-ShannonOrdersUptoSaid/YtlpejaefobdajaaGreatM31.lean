/- Texts of one proof, laid one behind the other by a program (merge.py): Tab9, Alg2, PAdd, Law4, Law10. -/
import Derived.Test.YtlpejaefobdajaaGreatM30
import Derived.Test.YtlpejaefobdajaaGreatM21
import Derived.Test.YtlpejaefobdajaaGreatM25
import Derived.Test.YtlpejaefobdajaaGreatM20
import Derived.Test.YtlpejaefobdajaaGreatM19
import Derived.Test.YtlpejaefobdajaaGreatM07
set_option linter.unusedSimpArgs false
set_option linter.unusedVariables false
/- decision.Table: Export. -/
namespace Go.AI
@[go_sem ↓] theorem updF_3_1' (a b c x : CV) : updF (ofL [a, b, c]) 1 [x] = ofL [a, x, c] := updF_at [a, b, c] 1 x (by simp)
@[go_sem ↓] theorem updF_3_2' (a b c x : CV) : updF (ofL [a, b, c]) 2 [x] = ofL [a, b, x] := updF_at [a, b, c] 2 x (by simp)
end Go.AI
namespace Go.PN
open Go.AI
/-- The map of what is out. -/
def exTo : List Int → Nat → List (Int × Int)
  | [], _ => []
  | r :: rs, i => (r, 2 + (i : Int)) :: exTo rs (i + 1)
def exL (rs : List Int) : List (Int × Int) := (0, 0) :: (1, 1) :: exTo rs 0
theorem exTo_push (r : Int) : ∀ (rs : List Int) (i : Nat), exTo (rs ++ [r]) i = exTo rs i ++ [(r, 2 + ((i + rs.length : Nat) : Int))]
  | [], i => by simp [exTo]
  | x :: rs, i => by
    show _ :: exTo (rs ++ [r]) (i + 1) = _ :: (exTo rs (i + 1) ++ _)
    rw [exTo_push r rs (i + 1)]
    simp only [List.length_cons]
    congr 5
    omega
theorem exL_push (rs : List Int) (r : Int) : exL rs ++ [(r, 2 + (rs.length : Int))] = exL (rs ++ [r]) := by
  unfold exL
  rw [exTo_push]
  simp
theorem exTo_get (r : Int) : ∀ (rs : List Int) (i : Nat), dnGet r (exTo rs i) = if r ∈ rs then some (2 + ((i + rs.idxOf r : Nat) : Int)) else none
  | [], i => by simp [exTo, dnGet]
  | x :: rs, i => by
    rw [exTo, dnGet]
    by_cases e : r = x
    · subst e; simp
    · rw [if_neg e, exTo_get r rs (i + 1)]
      by_cases hm : r ∈ rs
      · have hi : (x :: rs).idxOf r = rs.idxOf r + 1 := by rw [List.idxOf_cons, beq_false_of_ne (fun h => e h.symm)]; rfl
        rw [if_pos hm, if_pos (List.mem_cons_of_mem _ hm), hi]
        congr 2
        omega
      · rw [if_neg hm, if_neg (by simp [e, hm])]
theorem exL_get {r : Int} (h0 : 0 ≤ r) (rs : List Int) (hb : ∀ x ∈ rs, 2 ≤ x) : dnGet r (exL rs) = exR rs r := by
  unfold exL exR
  rw [dnGet, dnGet]
  dsimp only
  by_cases e0 : r = 0
  · subst e0; simp
  · rw [if_neg e0]
    by_cases e1 : r = 1
    · subst e1; simp
    · rw [if_neg e1, if_neg (by omega), exTo_get, Nat.zero_add]
      split
      · congr 1; omega
      · rfl
theorem perm_ex {α : Type} (T A B : List α) (x : α) : (T ++ (A ++ (B ++ [x]))).Perm (B ++ (x :: (T ++ A))) := by
  have := List.perm_append_comm (l₁ := T ++ A) (l₂ := B ++ [x])
  simpa using this
theorem ExOk.lenle {ns : List DN} {rs : List Int} {os : List DN} (h : ExOk ns rs os) : rs.length ≤ ns.length := nodup_range h.nd h.bd
end Go.PN
namespace Go.Proofs.YtlpejaefobdajaaGreat
open Go.AI Go.PN
attribute [local irreducible] aw Fa Fh DrK
/-- What the walk of Export has captured. -/
abbrev X5 (g1 g2 g3 g4 gd gT : Nat) (oo : List Int) (rs : List Int) (oN : Option Nat) (n : Nat) : Heap :=
  [(g1, .cells 160 1 (ofL [.raw (.map (some gd))])), (g2, .cells 96 1 (ofL [.optr gT 0])), (g3, .cells 98 1 (ofL [fnC 190 [g1, g2, g3, g4]])), (g4, .cells 25 3 (ofL [is true oo, gs oN 3 n, .int .i64 0])), (gd, .gen (MapI keyI (dnL (exL rs))))]
abbrev HX (g1 g2 g3 g4 gd gT gU gM : Nat) (og : Option Nat) (o pl : List Int) (ns : List DN) (mm : Mem3) (oo : List Int) (rs : List Int) (oN : Option Nat) (os : List DN) : Heap :=
  (X5 g1 g2 g3 g4 gd gT oo rs oN os.length ++ THp gT gU gM og o pl ns mm) ++ gh oN 139 (os.length * 3) (dnsF os)
set_option maxRecDepth 100000 in
set_option maxHeartbeats 6400000 in
theorem ewalk_fh (g1 g2 g3 g4 gd gT gU gM : Nat) {o pl : List Int} {og : Option Nat} {ns : List DN} {mm : Mem3} (hs : TS o og ns mm) (hn : ns.length ≤ 1000000000) (oo : List Int) : ∀ (k : Nat) (r : Int) (rs : List Int) (oN : Option Nat) (os : List DN), r.toNat < k → RefOk ns r → ExOk ns rs os → (oN = none → os.length = 0) →
    Fh Tryz.prog 190 (HX g1 g2 g3 g4 gd gT gU gM og o pl ns mm oo rs oN os) ([.c (.int .i64 r)] ++ [g1, g2, g3, g4].map fun g => .c (.optr g 0)) (fun x h => ∃ rs' oN' os' y, Ex o ns rs os rs' os' r y ∧ (oN' = none → os'.length = 0) ∧ x = .c (.int .i64 y) ∧ h = HX g1 g2 g3 g4 gd gT gU gM og o pl ns mm oo rs' oN' os') := by
  intro k
  induction k with
  | zero => intro r rs oN os hk; omega
  | succ k ih =>
    intro r rs oN os hk hr hx hoN
    simp only [List.cons_append, List.nil_append, List.map_cons, List.map_nil]
    refine fh_of_body Tryz.func190 rfl rfl (by simp [Tryz.ntmps190]) fun C hC => ?_
    simp only [initS, Nat.reduceAdd]
    simp only [HX, X5, THp, TH, List.cons_append, List.nil_append]
    refine aw_nd fun hnd => ?_
    simp only [Heap.keys, List.map_cons] at hnd
    replace hnd := ndP_of hnd
    dsimp only [ndP, neA] at hnd
    refine yG hnd ?_
    refine aw_lookup2 (a := r) (kv := dnL (exL rs)) (Kf := keyI) (kt := 3) (et := 3) rfl rfl rfl (by kernel_rfl) ty_ki ty_iz (zE hnd) (zE hnd) (zE hnd) keyI_rep ?_
    refine yS hnd ?_
    rw [dn_get, exL_get hr.1 rs (fun x hm => (hx.bd x hm).1)]
    cases hf : exR rs r with
    | some y =>
      try simp only [Option.map_some, Option.getD_some, Option.isSome_some, cstC]
      refine yG hnd ?_
      refine yP hnd ?_
      refine yG hnd ?_
      refine yU hnd ?_
      exact ⟨rs, oN, os, y, ex_same hx hr.1 hf, hoN, rfl, by simp only [HX, X5, THp, TH, List.cons_append, List.nil_append]⟩
    | none =>
      try simp only [Option.map_none, Option.getD_none, Option.isSome_none, cstC]
      refine yG hnd ?_
      refine yN hnd ?_
      have h2 : 2 ≤ r := by
        refine Classical.byContradiction fun h => ?_
        unfold exR at hf
        rw [if_pos (by omega)] at hf
        cases hf
      have hnew : r ∉ rs := fun hm => by
        unfold exR at hf
        rw [if_neg (by omega), if_pos hm] at hf
        cases hf
      obtain ⟨g, rfl⟩ : ∃ g, og = some g := by
        cases og with
        | none => have := hs.og rfl; unfold RefOk at hr; omega
        | some g => exact ⟨g, rfl⟩
      have hi : (r - 2).toNat < ns.length := by unfold RefOk at hr; omega
      have hrl : r < ns.length + 2 := hr.2
      obtain ⟨w0, w1, w2, w3, w4, w5⟩ := (hs.tab.ns _ hi)
      obtain ⟨kl, kh⟩ := kids_ref hs.tab hi
      have hnode : ∀ {rs1 rs2 : List Int} {os1 os2 : List DN} {xl xh : Int}, Ex o ns rs os rs1 os1 (ns.getD (r - 2).toNat dn0).lo xl → Ex o ns rs1 os1 rs2 os2 (ns.getD (r - 2).toNat dn0).hi xh → r ∉ rs2 ∧ Ex o ns rs os (rs2 ++ [r]) (os2 ++ [⟨(ns.getD (r - 2).toNat dn0).v, xl, xh⟩]) r ((rs2.length : Int) + 2) := fun a b => ex_node hs.tab h2 hrl hnew a b
      simp only [gs, gh, List.cons_append, List.nil_append]
      clear hnd
      refine aw_nd fun hnd => ?_
      simp only [Heap.keys, List.map_cons, List.map_append] at hnd
      replace hnd := ndP_of hnd
      dsimp only [ndP, neA] at hnd
      generalize hx0 : ns.getD (r - 2).toNat dn0 = nd at *
      refine yG (oj hnd hx0) ?_
      refine yA (oj hnd hx0) fun g9 hn_g9=>?_
      refine yG (oj hnd (oj hx0 hn_g9)) ?_
      refine yW (oj hnd (oj hx0 hn_g9)) ?_
      refine yS (oj hnd (oj hx0 hn_g9)) ?_
      refine yG (oj hnd (oj hx0 hn_g9)) ?_
      refine aw_callhv (hr := [(g9, .cells 139 3 (ofL [.int .i64 nd.v, .int .i64 nd.lo, .int .i64 nd.hi]))]) (gs := [g1, g2, g3, g4]) (ih nd.lo rs oN os (by omega) kl hx hoN) rfl rfl rfl (zE (oj hnd (oj hx0 hn_g9))) ?_ (zL (oj hnd (oj hx0 hn_g9))) ?_
      · exact List.perm_append_comm (l₁ := [(g9, _)])
      rintro _ _ ⟨rs1, oN1, os1, xl, a1, hoN1, rfl, rfl⟩ _
      refine aw_perm List.perm_append_comm ?_
      simp only [HX, X5, THp, TH, gs, gh, List.cons_append, List.nil_append]
      clear hnd
      refine aw_nd fun hnd => ?_
      simp only [Heap.keys, List.map_cons, List.map_append] at hnd
      replace hnd := ndP_of hnd
      dsimp only [ndP, neA] at hnd
      refine yS hnd ?_
      refine yG hnd ?_
      refine aw_callhv (hr := [(g9, .cells 139 3 (ofL [.int .i64 nd.v, .int .i64 nd.lo, .int .i64 nd.hi]))]) (gs := [g1, g2, g3, g4]) (ih nd.hi rs1 oN1 os1 (by omega) kh a1.ok hoN1) rfl rfl rfl (zE hnd) ?_ (zL hnd) ?_
      · exact List.perm_append_comm (l₁ := [(g9, _)])
      rintro _ _ ⟨rs2, oN2, os2, xh, b1, hoN2, rfl, rfl⟩ _
      refine aw_perm List.perm_append_comm ?_
      simp only [HX, X5, THp, TH, gh, List.cons_append, List.nil_append]
      clear hnd
      refine aw_nd fun hnd => ?_
      simp only [Heap.keys, List.map_cons, List.map_append] at hnd
      replace hnd := ndP_of hnd
      dsimp only [ndP, neA] at hnd
      obtain ⟨hout, hex⟩ := hnode a1 b1
      have l2 := b1.ok.len
      have l3 := b1.ok.lenle
      have hlen := lenCV_gs (s := 3) hoN2
      (try simp only[go_sem, hnd, ↓hlen])
      repeat first|apply wa1|apply wa2|apply wa3|apply wa4|apply wa5 rfl|apply wa6|apply wa7|(refine wb1 rfl fun R r=>?_;simp only[go_sem, hnd, ↓hlen];with_reducible refine r _ _ ?_;clear r R)
      refine aw_push (pre := [(g9, .cells 139 3 (ofL [.int .i64 nd.v, .int .i64 nd.lo, .int .i64 nd.hi])), (g1, .cells 160 1 (ofL [.raw (.map (some gd))])), (g2, .cells 96 1 (ofL [.optr gT 0])), (g3, .cells 98 1 (ofL [fnC 190 [g1, g2, g3, g4]])), (g4, .cells 25 3 (ofL [is true oo, gs oN2 3 os2.length, .int .i64 0])), (gd, .gen (MapI keyI (dnL (exL rs2)))), (gT, .cells 158 5 (ofL [is true o, is true pl, .osl g 3 0 ns.length, .raw (.map (some gU)), .raw (.map (some gM))])), (gU, .gen (MapI dkV (uqTo ns 0))), (gM, .gen (MapI key3 (mmL mm))), (g, .cells 139 (ns.length * 3) (dnsF ns))]) rfl rfl rfl rfl rfl rfl rfl (by simp only[go_sem, hnd, ↓hlen]<;>rfl) (by simp only[go_sem, hnd, ↓hlen]<;>rfl) (by rfl) (by omega) (by omega) (by simp only[go_sem, hnd, ↓hlen]<;>rfl) (by omega) (by exact hoN2) (by simp only[go_sem, hnd, ↓hlen]<;>rfl) (by rfl) (by rfl) (by first | rfl | simp only [Nat.mul_one, List.nil_append, List.cons_append] <;> rfl) (by unfold maxLen; omega) (by omega) (by exact lf_push (xs := os2) rfl (⟨nd.v, xl, xh⟩ : DN) (by omega)) fun gN hn_gN => ?_
      replace hn_gN := Heap.ne_of hn_gN
      first | dsimp only [Heap.ne, gh] at hn_gN | dsimp only [Heap.ne] at hn_gN | skip
      (try simp only[go_sem, hnd, ↓hlen, hn_gN])
      simp only [gs, gh, List.cons_append, List.nil_append]
      repeat first|apply wa1|apply wa2|apply wa3|apply wa4|apply wa5 rfl|apply wa6|apply wa7|(refine wb1 rfl fun R r=>?_;simp only[go_sem, hnd, ↓hlen, hn_gN];with_reducible refine r _ _ ?_;clear r R)
      refine aw_store rfl rfl rfl rfl (by simp only[go_sem, hnd, ↓hlen, hn_gN]<;>rfl) (by simp only[go_sem, hnd, ↓hlen, hn_gN]<;>rfl) (by simp only[go_sem, hnd, ↓hlen, hn_gN]<;>rfl) (by simp only[go_sem, hnd, ↓hlen, hn_gN]<;>rfl) (fun _ e => by cases e) (by first | rfl | exact solid_gs3) (by rfl) (by first|omega|simp) rfl ?_
      (try simp only[go_sem, hnd, ↓hlen, hn_gN])
      repeat first|apply wa1|apply wa2|apply wa3|apply wa4|apply wa5 rfl|apply wa6|apply wa7|(refine wb1 rfl fun R r=>?_;simp only[go_sem, hnd, ↓hlen, hn_gN];with_reducible refine r _ _ ?_;clear r R)
      have e1 : (1 : Int) + ((os2.length + 1 : Nat) : Int) = 2 + (rs2.length : Int) := by omega
      have e1' : (1 : Int) + ((os2.length : Int) + 1) = 2 + (rs2.length : Int) := by omega
      have hb2 : ∀ x ∈ rs2, 2 ≤ x := fun x hm => (b1.ok.bd x hm).1
      refine aw_mapNew (a := r) (kv := dnL (exL rs2)) (Kf := keyI) (v := .int .i64 (2 + (rs2.length : Int))) rfl rfl rfl (kt := 3) (et := 3) (by kernel_rfl) ty_ki (by simp only[go_sem, hnd, ↓hlen, hn_gN]<;>rfl) (by simp only[go_sem, hnd, ↓hlen, hn_gN]<;>rfl) (by simp only[go_sem, hnd, ↓hlen, hn_gN]<;>rfl) keyI_rep (cv := .c (.int .i64 (2 + (rs2.length : Int)))) (by (try simp only[go_sem, hnd, ↓hlen, hn_gN]); first | rfl | rw [e1] | rw [e1']) (fun S w u h => h) (by rw [dn_get, exL_get hr.1 rs2 hb2]; unfold exR; rw [if_neg (by omega), if_neg hout]; rfl) (by simp only[go_sem, hnd, ↓hlen, hn_gN]<;>rfl) ?_
      rw [dnL_push, exL_push]
      (try simp only[go_sem, hnd, ↓hlen, hn_gN])
      repeat first|apply wa1|apply wa2|apply wa3|apply wa4|apply wa5 rfl|apply wa6|apply wa7|(refine wb1 rfl fun R r=>?_;simp only[go_sem, hnd, ↓hlen, hn_gN];with_reducible refine r _ _ ?_;clear r R)
      refine aw_lookup (a := r) (kv := dnL (exL (rs2 ++ [r]))) (Kf := keyI) (kt := 3) (et := 3) rfl rfl rfl (by kernel_rfl) ty_ki ty_iz (by simp only[go_sem, hnd, ↓hlen, hn_gN]<;>rfl) (by simp only[go_sem, hnd, ↓hlen, hn_gN]<;>rfl) (by simp only[go_sem, hnd, ↓hlen, hn_gN]<;>rfl) keyI_rep ?_
      rw [dn_get, exL_get hr.1 _ (fun x hm => by rcases List.mem_append.1 hm with hm | hm; exact hb2 x hm; rw [List.mem_singleton] at hm; omega), hex.ref]
      try simp only [Option.map_some, Option.getD_some, cstC]
      (try simp only[go_sem, hnd, ↓hlen, hn_gN])
      repeat first|apply wa1|apply wa2|apply wa3|apply wa4|apply wa5 rfl|apply wa6|apply wa7|(refine wb1 rfl fun R r=>?_;simp only[go_sem, hnd, ↓hlen, hn_gN];with_reducible refine r _ _ ?_;clear r R)
      refine aw_keep [(6, .c (.int .i64 ((rs2.length : Int) + 2)))] (HX g1 g2 g3 g4 gd gT gU gM (some g) o pl ns mm oo (rs2 ++ [r]) (some gN) (os2 ++ [⟨nd.v, xl, xh⟩])) (by simp only[go_sem, hnd, ↓hlen, hn_gN]<;>and_intros<;>first|exact True.intro|(with_reducible rfl)|exact c_int (by omega)|rfl) (by
        simp only [HX, X5, THp, TH, gs, gh, List.cons_append, List.nil_append, List.length_append, List.length_singleton]
        exact List.Sublist.cons _ (List.Sublist.refl _)) ?_
      (refine aw_rethq rfl fun R r=>?_;simp only[go_sem, hnd, ↓hlen, hn_gN];refine r _ rfl ?_;clear r R)
      exact ⟨rs2 ++ [r], some gN, os2 ++ [⟨nd.v, xl, xh⟩], _, hex, some_ne, rfl, rfl⟩
set_option maxRecDepth 100000 in
set_option maxHeartbeats 3200000 in
theorem export_fh (gT gU gM : Nat) {o pl : List Int} (ho : OdOk o pl) {og : Option Nat} {ns : List DN} {mm : Mem3} (hs : TS o og ns mm) (hn : ns.length ≤ 1000000000) {r : Int} (hr : RefOk ns r) :
    Fh Tryz.prog 151 (THp gT gU gM og o pl ns mm) [.c (.optr gT 0), .c (.int .i64 r)] (fun x h => ∃ rs os y, Ex o ns [] [] rs os r y ∧ x = .agg (dgc true ⟨o, os, y⟩) ∧ h = THp gT gU gM og o pl ns mm) := by
  have l24 := ho.l24
  refine fh_of_body Tryz.func151 rfl rfl (by simp [Tryz.ntmps151]) fun C hC => ?_
  simp only [initS, Nat.reduceAdd]
  unfold THp TH
  simp only [List.cons_append, List.nil_append]
  refine xG ?_
  refine xB fun g2 hn_g2=>?_
  refine yG hn_g2 ?_
  refine yA hn_g2 fun g4 hn_g4=>?_
  refine yG (oj hn_g2 hn_g4) ?_
  refine aw_copy (size := 1) (z := [.int .i64 0]) rfl rfl rfl (zE (oj hn_g2 hn_g4)) (zE (oj hn_g2 hn_g4)) rfl (by omega) (zE (oj hn_g2 hn_g4)) (zE (oj hn_g2 hn_g4)) .row (by unfold maxLen; omega) (by omega) ?_
  refine yS (oj hn_g2 hn_g4) ?_
  refine yG (oj hn_g2 hn_g4) ?_
  refine yA (oj hn_g2 hn_g4) fun g5 hn_g5=>?_
  refine yG (oj hn_g2 (oj hn_g4 hn_g5)) ?_
  refine yW (oj hn_g2 (oj hn_g4 hn_g5)) ?_
  refine yS (oj hn_g2 (oj hn_g4 hn_g5)) ?_
  refine yG (oj hn_g2 (oj hn_g4 hn_g5)) ?_
  refine aw_makeMap (Kf := keyI) rfl rfl rfl fun gd hn_gd => ?_
  replace hn_gd := Heap.ne_of hn_gd
  dsimp only [Heap.ne, gh] at hn_gd
  refine yS (oj hn_g2 (oj hn_g4 (oj hn_g5 hn_gd))) ?_
  refine yG (oj hn_g2 (oj hn_g4 (oj hn_g5 hn_gd))) ?_
  refine aw_insNew (a := 0) (kv := []) (Kf := keyI) (v := .int .i64 0) rfl rfl rfl (kt := 3) (et := 3) (by kernel_rfl) ty_ki (zE (oj hn_g2 (oj hn_g4 (oj hn_g5 hn_gd)))) (zE (oj hn_g2 (oj hn_g4 (oj hn_g5 hn_gd)))) (zE (oj hn_g2 (oj hn_g4 (oj hn_g5 hn_gd)))) keyI_rep (cv := .c (.int .i64 0)) (zE (oj hn_g2 (oj hn_g4 (oj hn_g5 hn_gd)))) (fun S w u h => h) rfl (zE (oj hn_g2 (oj hn_g4 (oj hn_g5 hn_gd)))) ?_
  refine yS (oj hn_g2 (oj hn_g4 (oj hn_g5 hn_gd))) ?_
  refine yG (oj hn_g2 (oj hn_g4 (oj hn_g5 hn_gd))) ?_
  refine aw_insNew (a := 1) (kv := [(0, .int .i64 0)]) (Kf := keyI) (v := .int .i64 1) rfl rfl rfl (kt := 3) (et := 3) (by kernel_rfl) ty_ki (zE (oj hn_g2 (oj hn_g4 (oj hn_g5 hn_gd)))) (zE (oj hn_g2 (oj hn_g4 (oj hn_g5 hn_gd)))) (zE (oj hn_g2 (oj hn_g4 (oj hn_g5 hn_gd)))) keyI_rep (cv := .c (.int .i64 1)) (zE (oj hn_g2 (oj hn_g4 (oj hn_g5 hn_gd)))) (fun S w u h => h) rfl (zE (oj hn_g2 (oj hn_g4 (oj hn_g5 hn_gd)))) ?_
  refine yS (oj hn_g2 (oj hn_g4 (oj hn_g5 hn_gd))) ?_
  refine yG (oj hn_g2 (oj hn_g4 (oj hn_g5 hn_gd))) ?_
  refine yA (oj hn_g2 (oj hn_g4 (oj hn_g5 hn_gd))) fun g6 hn_g6=>?_
  refine yG (oj hn_g2 (oj hn_g4 (oj hn_g5 (oj hn_gd hn_g6)))) ?_
  refine yW (oj hn_g2 (oj hn_g4 (oj hn_g5 (oj hn_gd hn_g6)))) ?_
  refine yS (oj hn_g2 (oj hn_g4 (oj hn_g5 (oj hn_gd hn_g6)))) ?_
  refine yG (oj hn_g2 (oj hn_g4 (oj hn_g5 (oj hn_gd hn_g6)))) ?_
  refine yA (oj hn_g2 (oj hn_g4 (oj hn_g5 (oj hn_gd hn_g6)))) fun g7 hn_g7=>?_
  refine yG (oj hn_g2 (oj hn_g4 (oj hn_g5 (oj hn_gd (oj hn_g6 hn_g7))))) ?_
  refine aw_makeFunc (gs := [g6, g2, g7, g5]) rfl rfl rfl (zE (oj hn_g2 (oj hn_g4 (oj hn_g5 (oj hn_gd (oj hn_g6 hn_g7)))))) ?_
  refine yS (oj hn_g2 (oj hn_g4 (oj hn_g5 (oj hn_gd (oj hn_g6 hn_g7))))) ?_
  refine yG (oj hn_g2 (oj hn_g4 (oj hn_g5 (oj hn_gd (oj hn_g6 hn_g7))))) ?_
  refine yW (oj hn_g2 (oj hn_g4 (oj hn_g5 (oj hn_gd (oj hn_g6 hn_g7))))) ?_
  refine yS (oj hn_g2 (oj hn_g4 (oj hn_g5 (oj hn_gd (oj hn_g6 hn_g7))))) ?_
  refine yG (oj hn_g2 (oj hn_g4 (oj hn_g5 (oj hn_gd (oj hn_g6 hn_g7))))) ?_
  refine aw_callhv (hr := [(g4, .cells 25 3 (ofL [.nils, .nils, .int .i64 0]))]) (ewalk_fh (pl := pl) g6 g2 g7 g5 gd gT gU gM hs hn o (r.toNat + 1) r [] none [] (by omega) hr (ExOk.nil ns) (fun _ => rfl)) rfl rfl rfl (zE (oj hn_g2 (oj hn_g4 (oj hn_g5 (oj hn_gd (oj hn_g6 hn_g7)))))) ?hp (zL (oj hn_g2 (oj hn_g4 (oj hn_g5 (oj hn_gd (oj hn_g6 hn_g7)))))) ?_
  · have e : HX g6 g2 g7 g5 gd gT gU gM og o pl ns mm o [] none [] = X5 g6 g2 g7 g5 gd gT o [] none 0 ++ THp gT gU gM og o pl ns mm := List.append_nil _
    rw [e]
    refine ((permL [(g7, _), (g6, _), (gd, _), (g5, _), (g4, _), (g2, _)] [0, 1, 2, 3, 4, 5] [4, 1, 5, 0, 3, 2] (by decide)).append_right (THp gT gU gM og o pl ns mm)).trans ?_
    exact (List.perm_append_singleton (g4, _) (X5 g6 g2 g7 g5 gd gT o [] none 0 ++ THp gT gU gM og o pl ns mm)).symm
  rintro _ _ ⟨rs, oN, os, y, hex, hoN, rfl, rfl⟩ _
  unfold HX X5 THp TH
  simp only [List.cons_append, List.nil_append, List.append_assoc]
  refine yS (oj hn_g2 (oj hn_g4 (oj hn_g5 (oj hn_gd (oj hn_g6 hn_g7))))) ?_
  refine yG (oj hn_g2 (oj hn_g4 (oj hn_g5 (oj hn_gd (oj hn_g6 hn_g7))))) ?_
  refine yW (oj hn_g2 (oj hn_g4 (oj hn_g5 (oj hn_gd (oj hn_g6 hn_g7))))) ?_
  refine yS (oj hn_g2 (oj hn_g4 (oj hn_g5 (oj hn_gd (oj hn_g6 hn_g7))))) ?_
  refine aw_keep [(4, .c (.optr g4 0)), (5, .c (.optr g5 0))] ((g5, .cells 25 3 (ofL [is true o, gs oN 3 os.length, .int .i64 y])) :: ([(gT, .cells 158 5 (ofL [is true o, is true pl, gs og 3 ns.length, .raw (.map (some gU)), .raw (.map (some gM))])), (gU, .gen (MapI dkV (uqTo ns 0))), (gM, .gen (MapI key3 (mmL mm)))] ++ (gh og 139 (ns.length * 3) (dnsF ns) ++ (gh oN 139 (os.length * 3) (dnsF os) ++ [(g4, .cells 25 3 (ofL [.nils, .nils, .int .i64 0]))])))) (zB (oj hn_g2 (oj hn_g4 (oj hn_g5 (oj hn_gd (oj hn_g6 hn_g7)))))) (List.Sublist.cons _ (List.Sublist.cons _ (List.Sublist.cons _ (List.Sublist.cons_cons _ (List.Sublist.cons _ (List.Sublist.refl _)))))) ?_
  refine aw_perm (List.Perm.cons _ (perm_ex _ _ _ _)) ?_
  refine aw_nd fun hnd => ?_
  refine aw_frzG (j0 := 1) (og := oN) (s := 3) (n := os.length) (f' := ofL [is true o, dns true os, .int .i64 y]) rfl rfl (fun j hj hne => ?_) hoN (fun g e => ?_) ?_
  · match j, hj, hne with
    | 0, _, _ => rfl
    | 1, _, hne => exact absurd rfl hne
    | 2, _, _ => rfl
  · subst e
    intro hown
    have hm : g ∈ Heap.keys (THp gT gU gM og o pl ns mm) := (hC g).1 hown
    have h1 : (g5 :: g :: g4 :: Heap.keys (THp gT gU gM og o pl ns mm)).Nodup := hnd
    exact (List.nodup_cons.1 (List.nodup_cons.1 h1).2).1 (List.mem_cons_of_mem _ hm)
  clear hnd
  simp only [List.cons_append, List.nil_append]
  refine yS (oj hn_g2 (oj hn_g4 (oj hn_g5 (oj hn_gd (oj hn_g6 hn_g7))))) ?_
  refine yG (oj hn_g2 (oj hn_g4 (oj hn_g5 (oj hn_gd (oj hn_g6 hn_g7))))) ?_
  refine yW (oj hn_g2 (oj hn_g4 (oj hn_g5 (oj hn_gd (oj hn_g6 hn_g7))))) ?_
  refine yS (oj hn_g2 (oj hn_g4 (oj hn_g5 (oj hn_gd (oj hn_g6 hn_g7))))) ?_
  refine yG (oj hn_g2 (oj hn_g4 (oj hn_g5 (oj hn_gd (oj hn_g6 hn_g7))))) ?_
  refine aw_keep [(4, .c (.optr g4 0))] ((g4, .cells 25 3 (ofL (dgc true ⟨o, os, y⟩))) :: THp gT gU gM og o pl ns mm) (zB (oj hn_g2 (oj hn_g4 (oj hn_g5 (oj hn_gd (oj hn_g6 hn_g7)))))) (List.Sublist.cons _ (List.Sublist.refl _)) ?_
  refine aw_rethw (h' := THp gT gU gM og o pl ns mm) rfl (List.Sublist.cons _ (List.Sublist.refl _)) (fun R hR => ?_)
  simp only [go_sem, hn_g2, hn_g4, hn_g5, hn_gd, hn_g6, hn_g7]
  refine hR _ rfl ?_
  clear hR R
  exact ⟨rs, os, y, hex, rfl, rfl⟩
end Go.Proofs.YtlpejaefobdajaaGreat

/- algebra: result, Not, both, Or, And. -/
namespace Go.PN
open Go.AI
/-- A diagram that is handed out: without error, of this order and function. -/
structure DOut (o : List Int) (f : Nat → Bool) (D : DG) : Prop where
  order : D.order = o
  code : dcode D = 0
  ev : ∀ s, evalD D.nodes s D.root = f s
theorem dout_of {o : List Int} {ns : List DN} {rs : List Int} {os : List DN} {r x : Int} (ho : ocode o o.length = 0) (h12 : o.length ≤ 12) (hm : ∀ v : Int, 0 ≤ v → v < o.length → v ∈ o) (ht : TabOk o ns) (hr : RefOk ns r) (h : Ex o ns [] [] rs os r x) : DOut o (fun s => evalD ns s r) ⟨o, os, x⟩ := by
  refine ⟨rfl, ex_code ho ht hr h ?_, fun s => h.ok.eval ht s x.toNat r x (Nat.le_refl _) hr.1 hr.2 h.ref⟩
  have h0 := lv3_nonneg hm ht hr
  have hl := h.len
  have hp : 2 ^ ((o.length : Int) - lvZ o ns r).toNat ≤ 2 ^ 12 := Nat.pow_le_pow_right (by omega) (by omega)
  rw [h.ok.len]
  simp only [List.length_nil] at hl
  omega
theorem dcode_o {d : DG} (h : dcode d = 0) : ocode d.order d.order.length = 0 := by
  unfold dcode at h
  split at h
  · rename_i h1; exact absurd h h1
  · rename_i h1; simpa using h1
end Go.PN
namespace Go.Proofs.YtlpejaefobdajaaGreat
open Go.AI Go.PN
attribute [local irreducible] aw Fa Fh DrK
theorem od_of {d : DG} (h : dcode d = 0) : OdOk d.order (placesL d.order) := ⟨(dg_ok h).perm, pl_ok (dg_ok h).perm, (dg_ok h).o24⟩
set_option maxRecDepth 100000 in
set_option maxHeartbeats 3200000 in
theorem result_fh (gT gU gM : Nat) {o pl : List Int} (ho : OdOk o pl) {og : Option Nat} {ns : List DN} {mm : Mem3} (hs : TS o og ns mm) (hn : ns.length ≤ 1000000000) {r : Int} (hr : RefOk ns r) (h12 : o.length ≤ 12) :
    Fh Tryz.prog 107 (THp gT gU gM og o pl ns mm) [.c (.optr gT 0), .c (.int .i64 r)] (fun x h => ∃ rs os y, Ex o ns [] [] rs os r y ∧ x = .tup [.agg (dgc true ⟨o, os, y⟩), .c .nilI] ∧ h = THp gT gU gM og o pl ns mm) := by
  have hp : 2 ^ o.length ≤ 2 ^ 12 := Nat.pow_le_pow_right (by omega) h12
  refine fh_of_body Tryz.func107 rfl rfl (by simp [Tryz.ntmps107]) fun C hC => ?_
  simp only [initS, Nat.reduceAdd]
  refine xG ?_
  refine xA fun g4 hn_g4=>?_
  refine yG hn_g4 ?_
  refine aw_callh (hc := THp gT gU gM og o pl ns mm) (hr := [(g4, .cells 25 3 (ofL [.nils, .nils, .int .i64 0]))]) (small_fh gT gU gM ho hs hn hr (most := 4096) (by omega)) rfl rfl rfl (List.perm_append_comm (l₁ := [(g4, _)])) (zL hn_g4) ?_
  rintro _ _ ⟨rfl, rfl⟩ _
  refine yS hn_g4 ?_
  refine yG hn_g4 ?_
  refine yN hn_g4 ?_
  refine yG hn_g4 ?_
  refine aw_callh (hc := THp gT gU gM og o pl ns mm) (hr := [(g4, .cells 25 3 (ofL [.nils, .nils, .int .i64 0]))]) (export_fh gT gU gM ho hs hn hr) rfl rfl rfl (.refl _) (zL hn_g4) ?_
  rintro _ _ ⟨rs, os, y, hex, rfl, rfl⟩ _
  refine aw_perm List.perm_append_comm ?_
  refine yS hn_g4 ?_
  refine yG hn_g4 ?_
  refine yW hn_g4 ?_
  refine yS hn_g4 ?_
  refine yG hn_g4 ?_
  refine aw_rethw (h' := THp gT gU gM og o pl ns mm) rfl (List.Sublist.cons _ (List.Sublist.refl _)) (fun R hR => ?_)
  simp only [go_sem, hn_g4]
  refine hR _ rfl ?_
  clear hR R
  exact ⟨rs, os, y, hex, rfl, rfl⟩
set_option maxRecDepth 100000 in
set_option maxHeartbeats 3200000 in
theorem anot_fh (d : DG) (h0 : dcode d = 0) (h12 : d.order.length ≤ 12) : Fh Tryz.prog 49 [] [.agg (dgc false d)] (fun x h => h = [] ∧ ∃ D, DOut d.order (fun s => !evalD d.nodes s d.root) D ∧ x = .tup [.agg (dgc true D), .c .nilI]) := by
  have hod := od_of h0
  have hp : 2 ^ (d.order.length + 1) ≤ 2 ^ 13 := Nat.pow_le_pow_right (by omega) (by omega)
  have O : Fh Tryz.prog 106 [] [.c (dgs false [d])] (fun x h => ∃ gT gU gM og ns mm rl, TS d.order og ns mm ∧ OpS [d] 1 ns rl ∧ ns.length ≤ 1 * 4096 ∧ x = .tup [.c (.optr gT 0), .c (is true rl), .c .nilI] ∧ h = THp gT gU gM og d.order (placesL d.order) ns mm) :=
    open_fh [d] (by simp) (by simp) (fun j hj => by obtain rfl : j = 0 := by simpa using hj
                                                    exact h0) (fun j hj => by obtain rfl : j = 0 := by simpa using hj
                                                                              rfl)
  refine fh_of_body Tryz.func49 rfl rfl (by simp [Tryz.ntmps49]) fun C hC => ?_
  simp only [initS, Nat.reduceAdd]
  refine xG ?_
  refine xB fun g1 hn_g1=>?_
  refine yG hn_g1 ?_
  refine yA hn_g1 fun g2 hn_g2=>?_
  refine yG (oj hn_g1 hn_g2) ?_
  refine aw_buildSlice (xs := [.tmp 8]) (cells := dgc false d) rfl rfl rfl (zE (oj hn_g1 hn_g2)) (by refine yS (oj hn_g1 hn_g2) ?_; rfl) rfl (by omega) (by omega) (by intro x hx; simp only [List.mem_singleton] at hx; subst hx; exact ⟨rfl, rfl, rfl⟩) rfl fun g9 hn_g9 => ?_
  replace hn_g9 := Heap.ne_of hn_g9
  dsimp only [Heap.ne] at hn_g9
  refine yS (oj hn_g1 (oj hn_g2 hn_g9)) ?_
  refine aw_frzT (t := 9) (dgsF [d]) (zE (oj hn_g1 (oj hn_g2 hn_g9))) (zE (oj hn_g1 (oj hn_g2 hn_g9))) (by omega) (fun h => by have := (hC g9).1 h; simp [Heap.keys] at this) (fun q hq => by match q, hq with | 0, _ => rfl | 1, _ => rfl | 2, _ => rfl) rfl (zE (oj hn_g1 (oj hn_g2 hn_g9))) ?_
  refine yS (oj hn_g1 (oj hn_g2 hn_g9)) ?_
  refine yG (oj hn_g1 (oj hn_g2 hn_g9)) ?_
  refine aw_callh (hc := []) (hr := [(g2, .cells 25 3 (ofL [.nils, .nils, .int .i64 0])), (g1, .cells 25 3 (ofL (dgc false d)))]) O rfl rfl rfl (.refl _) (zL (oj hn_g1 (oj hn_g2 hn_g9))) ?_
  rintro _ _ ⟨gT, gU, gM, og, ns, mm, rl, hs, hop, hn, rfl, rfl⟩ _
  have hl := hop.len
  obtain ⟨q1, q2⟩ := hop.ref 0 (by omega)
  change ∀ s, evalD ns s (rl.getD 0 0) = evalD d.nodes s d.root at q2
  refine yS (oj hn_g1 (oj hn_g2 hn_g9)) ?_
  refine yG (oj hn_g1 (oj hn_g2 hn_g9)) ?_
  refine yN (oj hn_g1 (oj hn_g2 hn_g9)) ?_
  refine yG (oj hn_g1 (oj hn_g2 hn_g9)) ?_
  refine aw_callh (tnot_fh gT gU gM hod hs (by omega) q1) rfl rfl rfl (.refl _) (zL (oj hn_g1 (oj hn_g2 hn_g9))) ?_
  rintro _ _ ⟨og1, ns1, mm1, r1, s1, l1, p1, f1, rfl, rfl⟩ _
  have n1 := l1.len
  refine yS (oj hn_g1 (oj hn_g2 hn_g9)) ?_
  refine yG (oj hn_g1 (oj hn_g2 hn_g9)) ?_
  refine aw_callh (result_fh gT gU gM hod s1 (by omega) p1 h12) rfl rfl rfl (.refl _) (zL (oj hn_g1 (oj hn_g2 hn_g9))) ?_
  rintro _ _ ⟨rs, os, y, hex, rfl, rfl⟩ _
  refine aw_perm List.perm_append_comm ?_
  refine yS (oj hn_g1 (oj hn_g2 hn_g9)) ?_
  refine yG (oj hn_g1 (oj hn_g2 hn_g9)) ?_
  refine yW (oj hn_g1 (oj hn_g2 hn_g9)) ?_
  refine yS (oj hn_g1 (oj hn_g2 hn_g9)) ?_
  refine yG (oj hn_g1 (oj hn_g2 hn_g9)) ?_
  refine aw_rethw (h' := []) rfl (List.nil_sublist _) (fun R hR => ?_)
  simp only [go_sem, hn_g1, hn_g2, hn_g9]
  refine hR _ rfl ?_
  clear hR R
  have D := dout_of (dcode_o h0) h12 hod.mem s1.tab p1 hex
  exact ⟨rfl, _, ⟨D.order, D.code, fun s => by rw [D.ev s, f1 s]; dsimp only; rw [q2 s]⟩, rfl⟩
set_option maxRecDepth 100000 in
set_option maxHeartbeats 3200000 in
theorem both_fh (F : FuncId) (op : Bool → Bool → Bool) (hF : ∀ (gT gU gM : Nat) {o pl : List Int} (ho : OdOk o pl) {og : Option Nat} {ns : List DN} {mm : Mem3} (hs : TS o og ns mm) (hn : ns.length + 2 ^ (o.length + 1) ≤ 1000000000) {a b : Int} (ha : RefOk ns a) (hb : RefOk ns b), Fh Tryz.prog F (THp gT gU gM og o pl ns mm) [.c (.optr gT 0), .c (.int .i64 a), .c (.int .i64 b)] (OpQ gT gU gM o pl ns (2 ^ (o.length + 1) - 1) fun s => op (evalD ns s a) (evalD ns s b)))
    (a b : DG) (hc : c16 [a, b] = 0) (h12 : a.order.length ≤ 12) : Fh Tryz.prog 99 [] [.agg (dgc false a), .agg (dgc false b), .c (.raw (.func (.func F) #[] #[]))] (fun x h => h = [] ∧ ∃ D, DOut a.order (fun s => op (evalD a.nodes s a.root) (evalD b.nodes s b.root)) D ∧ x = .tup [.agg (dgc true D), .c .nilI]) := by
  obtain ⟨hz, hoo⟩ := c16_ok hc
  have h0 : dcode a = 0 := hz 0 (by simp)
  have hod := od_of h0
  have hp : 2 ^ (a.order.length + 1) ≤ 2 ^ 13 := Nat.pow_le_pow_right (by omega) (by omega)
  have O : Fh Tryz.prog 106 [] [.c (dgs false [a, b])] (fun x h => ∃ gT gU gM og ns mm rl, TS a.order og ns mm ∧ OpS [a, b] 2 ns rl ∧ ns.length ≤ 2 * 4096 ∧ x = .tup [.c (.optr gT 0), .c (is true rl), .c .nilI] ∧ h = THp gT gU gM og a.order (placesL a.order) ns mm) :=
    open_fh [a, b] (by simp) (by simp) hz hoo
  refine fh_of_body Tryz.func99 rfl rfl (by simp [Tryz.ntmps99]) fun C hC => ?_
  simp only [initS, Nat.reduceAdd]
  refine xG ?_
  refine xB fun g3 hn_g3=>?_
  refine yG hn_g3 ?_
  refine yB hn_g3 fun g4 hn_g4=>?_
  refine yG (oj hn_g3 hn_g4) ?_
  refine yA (oj hn_g3 hn_g4) fun g6 hn_g6=>?_
  refine yG (oj hn_g3 (oj hn_g4 hn_g6)) ?_
  refine aw_buildSlice (xs := [.tmp 12, .tmp 13]) (cells := dgc false a ++ dgc false b) rfl rfl rfl (zE (oj hn_g3 (oj hn_g4 hn_g6))) (by refine yS (oj hn_g3 (oj hn_g4 hn_g6)) ?_; rfl) rfl (by omega) (by omega) (by intro x hx; simp only [List.mem_cons, List.not_mem_nil, or_false] at hx; rcases hx with rfl | rfl <;> exact ⟨rfl, rfl, rfl⟩) rfl fun g9 hn_g9 => ?_
  replace hn_g9 := Heap.ne_of hn_g9
  dsimp only [Heap.ne] at hn_g9
  refine yS (oj hn_g3 (oj hn_g4 (oj hn_g6 hn_g9))) ?_
  refine aw_frzT (t := 14) (dgsF [a, b]) (zE (oj hn_g3 (oj hn_g4 (oj hn_g6 hn_g9)))) (zE (oj hn_g3 (oj hn_g4 (oj hn_g6 hn_g9)))) (by omega) (fun h => by have := (hC g9).1 h; simp [Heap.keys] at this) (fun q hq => by match q, hq with | 0, _ => rfl | 1, _ => rfl | 2, _ => rfl | 3, _ => rfl | 4, _ => rfl | 5, _ => rfl) rfl (zE (oj hn_g3 (oj hn_g4 (oj hn_g6 hn_g9)))) ?_
  refine yS (oj hn_g3 (oj hn_g4 (oj hn_g6 hn_g9))) ?_
  refine yG (oj hn_g3 (oj hn_g4 (oj hn_g6 hn_g9))) ?_
  refine aw_callh (hc := []) (hr := [(g6, .cells 25 3 (ofL [.nils, .nils, .int .i64 0])), (g4, .cells 25 3 (ofL (dgc false b))), (g3, .cells 25 3 (ofL (dgc false a)))]) O rfl rfl rfl (.refl _) (zL (oj hn_g3 (oj hn_g4 (oj hn_g6 hn_g9)))) ?_
  rintro _ _ ⟨gT, gU, gM, og, ns, mm, rl, hs, hop, hn, rfl, rfl⟩ _
  have hl := hop.len
  obtain ⟨q1, q2⟩ := hop.ref 0 (by omega)
  obtain ⟨u1, u2⟩ := hop.ref 1 (by omega)
  change ∀ s, evalD ns s (rl.getD 0 0) = evalD a.nodes s a.root at q2
  change ∀ s, evalD ns s (rl.getD 1 0) = evalD b.nodes s b.root at u2
  refine yS (oj hn_g3 (oj hn_g4 (oj hn_g6 hn_g9))) ?_
  refine yG (oj hn_g3 (oj hn_g4 (oj hn_g6 hn_g9))) ?_
  refine yN (oj hn_g3 (oj hn_g4 (oj hn_g6 hn_g9))) ?_
  refine yG (oj hn_g3 (oj hn_g4 (oj hn_g6 hn_g9))) ?_
  refine aw_cw ([]) [(0,0),(1,0),(2,0),(3,0),(4,0),(5,0),(6,0),(7,0),(8,0),(9,1),(10,1),(11,0),(12,0),(13,2),(14,0)] ty_mixed (by kernel_rfl) eI ?_
  refine yG (oj hn_g3 (oj hn_g4 (oj hn_g6 hn_g9))) ?_
  refine cw_callhv (gs := []) (args := [.c (.optr gT 0), .c (.int .i64 (rl.getD 0 0)), .c (.int .i64 (rl.getD 1 0))]) (hc := THp gT gU gM og a.order (placesL a.order) ns mm) (hr := [(g6, .cells 25 3 (ofL [.nils, .nils, .int .i64 0])), (g4, .cells 25 3 (ofL (dgc false b))), (g3, .cells 25 3 (ofL (dgc false a)))]) rfl (hF gT gU gM hod hs (by omega) q1 u1) rfl rfl rfl (zE (oj hn_g3 (oj hn_g4 (oj hn_g6 hn_g9)))) (.refl _) (zL (oj hn_g3 (oj hn_g4 (oj hn_g6 hn_g9)))) (fun _ _ _ => has0_nil) ?_ (hm := .inr ⟨rfl, rfl⟩)
  rintro _ _ ⟨og1, ns1, mm1, r1, s1, l1, p1, f1, rfl, rfl⟩ _
  have n1 := l1.len
  refine yS (oj hn_g3 (oj hn_g4 (oj hn_g6 hn_g9))) ?_
  refine yG (oj hn_g3 (oj hn_g4 (oj hn_g6 hn_g9))) ?_
  refine cw_callh (hc := THp gT gU gM og1 a.order (placesL a.order) ns1 mm1) (hr := [(g6, .cells 25 3 (ofL [.nils, .nils, .int .i64 0])), (g4, .cells 25 3 (ofL (dgc false b))), (g3, .cells 25 3 (ofL (dgc false a)))]) rfl (result_fh gT gU gM hod s1 (by omega) p1 h12) rfl rfl rfl (.refl _) (zL (oj hn_g3 (oj hn_g4 (oj hn_g6 hn_g9)))) (fun _ _ _ => has0_nil) ?_ (hm := .inr ⟨rfl, rfl⟩)
  rintro _ _ ⟨rs, os, y, hex, rfl, rfl⟩ _
  refine cw_perm List.perm_append_comm ?_
  refine yS (oj hn_g3 (oj hn_g4 (oj hn_g6 hn_g9))) ?_
  refine yG (oj hn_g3 (oj hn_g4 (oj hn_g6 hn_g9))) ?_
  refine cw_store (FP' := []) rfl rfl rfl rfl rfl (zE (oj hn_g3 (oj hn_g4 (oj hn_g6 hn_g9)))) (zE (oj hn_g3 (oj hn_g4 (oj hn_g6 hn_g9)))) (zE (oj hn_g3 (oj hn_g4 (oj hn_g6 hn_g9)))) (zE (oj hn_g3 (oj hn_g4 (oj hn_g6 hn_g9)))) (fun _ e => by cases e) rfl rfl (Nat.le_refl 3) rfl has0_nil ?_
  simp only [AV.cells]
  refine yS (oj hn_g3 (oj hn_g4 (oj hn_g6 hn_g9))) ?_
  refine yG (oj hn_g3 (oj hn_g4 (oj hn_g6 hn_g9))) ?_
  refine aw_rethw (h' := []) rfl (List.nil_sublist _) (fun R hR => ?_)
  simp only [go_sem, hn_g3, hn_g4, hn_g6, hn_g9]
  refine hR _ rfl ?_
  clear hR R
  have D := dout_of (dcode_o h0) h12 hod.mem s1.tab p1 hex
  exact ⟨rfl, _, ⟨D.order, D.code, fun s => by rw [D.ev s, f1 s]; dsimp only; rw [q2 s, u2 s]⟩, rfl⟩
set_option maxRecDepth 100000 in
set_option maxHeartbeats 3200000 in
theorem aor_fh (a b : DG) (hc : c16 [a, b] = 0) (h12 : a.order.length ≤ 12) : Fh Tryz.prog 40 [] [.agg (dgc false a), .agg (dgc false b)] (fun x h => h = [] ∧ ∃ D, DOut a.order (fun s => evalD a.nodes s a.root || evalD b.nodes s b.root) D ∧ x = .tup [.agg (dgc true D), .c .nilI]) := by
  have B := both_fh 100 (fun x y => x || y) (fun gT gU gM {_ _} ho {_ _ _} hs hn {_ _} ha hb => tor_fh gT gU gM ho hs hn ha hb) a b hc h12
  refine fh_of_body Tryz.func40 rfl rfl (by simp [Tryz.ntmps40]) fun C hC => ?_
  simp only [initS, Nat.reduceAdd]
  refine xG ?_
  refine xB fun g2 hn_g2=>?_
  refine yG hn_g2 ?_
  refine yB hn_g2 fun g3 hn_g3=>?_
  refine yG (oj hn_g2 hn_g3) ?_
  refine yA (oj hn_g2 hn_g3) fun g4 hn_g4=>?_
  refine yG (oj hn_g2 (oj hn_g3 hn_g4)) ?_
  refine aw_callh (hc := []) (hr := [(g4, .cells 25 3 (ofL [.nils, .nils, .int .i64 0])), (g3, .cells 25 3 (ofL (dgc false b))), (g2, .cells 25 3 (ofL (dgc false a)))]) B rfl rfl rfl (.refl _) (zL (oj hn_g2 (oj hn_g3 hn_g4))) ?_
  rintro _ _ ⟨rfl, D, hD, rfl⟩ _
  refine yS (oj hn_g2 (oj hn_g3 hn_g4)) ?_
  refine yG (oj hn_g2 (oj hn_g3 hn_g4)) ?_
  refine yW (oj hn_g2 (oj hn_g3 hn_g4)) ?_
  refine yS (oj hn_g2 (oj hn_g3 hn_g4)) ?_
  refine yG (oj hn_g2 (oj hn_g3 hn_g4)) ?_
  refine aw_rethw (h' := []) rfl (List.nil_sublist _) (fun R hR => ?_)
  simp only [go_sem, hn_g2, hn_g3, hn_g4]
  refine hR _ rfl ?_
  clear hR R
  exact ⟨rfl, D, hD, rfl⟩
set_option maxRecDepth 100000 in
set_option maxHeartbeats 3200000 in
theorem aand_fh (a b : DG) (hc : c16 [a, b] = 0) (h12 : a.order.length ≤ 12) : Fh Tryz.prog 41 [] [.agg (dgc false a), .agg (dgc false b)] (fun x h => h = [] ∧ ∃ D, DOut a.order (fun s => evalD a.nodes s a.root && evalD b.nodes s b.root) D ∧ x = .tup [.agg (dgc true D), .c .nilI]) := by
  have B := both_fh 101 (fun x y => x && y) (fun gT gU gM {_ _} ho {_ _ _} hs hn {_ _} ha hb => tand_fh gT gU gM ho hs hn ha hb) a b hc h12
  refine fh_of_body Tryz.func41 rfl rfl (by simp [Tryz.ntmps41]) fun C hC => ?_
  simp only [initS, Nat.reduceAdd]
  refine xG ?_
  refine xB fun g2 hn_g2=>?_
  refine yG hn_g2 ?_
  refine yB hn_g2 fun g3 hn_g3=>?_
  refine yG (oj hn_g2 hn_g3) ?_
  refine yA (oj hn_g2 hn_g3) fun g4 hn_g4=>?_
  refine yG (oj hn_g2 (oj hn_g3 hn_g4)) ?_
  refine aw_callh (hc := []) (hr := [(g4, .cells 25 3 (ofL [.nils, .nils, .int .i64 0])), (g3, .cells 25 3 (ofL (dgc false b))), (g2, .cells 25 3 (ofL (dgc false a)))]) B rfl rfl rfl (.refl _) (zL (oj hn_g2 (oj hn_g3 hn_g4))) ?_
  rintro _ _ ⟨rfl, D, hD, rfl⟩ _
  refine yS (oj hn_g2 (oj hn_g3 hn_g4)) ?_
  refine yG (oj hn_g2 (oj hn_g3 hn_g4)) ?_
  refine yW (oj hn_g2 (oj hn_g3 hn_g4)) ?_
  refine yS (oj hn_g2 (oj hn_g3 hn_g4)) ?_
  refine yG (oj hn_g2 (oj hn_g3 hn_g4)) ?_
  refine aw_rethw (h' := []) rfl (List.nil_sublist _) (fun R hR => ?_)
  simp only [go_sem, hn_g2, hn_g3, hn_g4]
  refine hR _ rfl ?_
  clear hR R
  exact ⟨rfl, D, hD, rfl⟩
end Go.Proofs.YtlpejaefobdajaaGreat

/- Probabilities as means of what a diagram answers: sums, negations, bounds. No program in sight. -/
namespace Go.PN
open Go.AI
def evB (b : Bool) : Rat := if b then 1 else 0
theorem ex_add {p : Nat → Rat} : ∀ (m : Nat) (f g : Nat → Rat), exQ p m (fun s => f s + g s) = exQ p m f + exQ p m g
  | 0, f, g => rfl
  | m + 1, f, g => by rw [exQ, exQ, exQ, ex_add m f g, ex_add m (fun s => f (s + 2 ^ m)) (fun s => g (s + 2 ^ m))]; grind
theorem ex_sub1 {p : Nat → Rat} : ∀ (m : Nat) (f : Nat → Rat), exQ p m (fun s => 1 - f s) = 1 - exQ p m f
  | 0, f => rfl
  | m + 1, f => by rw [exQ, exQ, ex_sub1 m f, ex_sub1 m (fun s => f (s + 2 ^ m))]; grind
theorem unit_mix {p a b : Rat} (p0 : 0 ≤ p) (p1 : p ≤ 1) (a0 : 0 ≤ a) (a1 : a ≤ 1) (b0 : 0 ≤ b) (b1 : b ≤ 1) : 0 ≤ (1 - p) * a + p * b ∧ (1 - p) * a + p * b ≤ 1 := by
  have q0 : 0 ≤ 1 - p := by grind
  have h1 := Rat.mul_nonneg q0 a0
  have h2 := Rat.mul_nonneg p0 b0
  have h3 := Rat.mul_nonneg q0 (show 0 ≤ 1 - a by grind)
  have h4 := Rat.mul_nonneg p0 (show 0 ≤ 1 - b by grind)
  constructor
  · grind
  · grind
theorem ex_unit {p : Nat → Rat} : ∀ (m : Nat) (f : Nat → Rat), (∀ i, i < m → 0 ≤ p i ∧ p i ≤ 1) → (∀ s, 0 ≤ f s ∧ f s ≤ 1) → 0 ≤ exQ p m f ∧ exQ p m f ≤ 1
  | 0, f, _, h => h 0
  | m + 1, f, hp, h => by
    rw [exQ]
    obtain ⟨a0, a1⟩ := ex_unit m f (fun i hi => hp i (by omega)) h
    obtain ⟨b0, b1⟩ := ex_unit m (fun s => f (s + 2 ^ m)) (fun i hi => hp i (by omega)) (fun s => h _)
    exact unit_mix (hp m (by omega)).1 (hp m (by omega)).2 a0 a1 b0 b1
theorem evB_unit (b : Bool) : 0 ≤ evB b ∧ evB b ≤ 1 := by cases b <;> unfold evB <;> constructor <;> decide
end Go.PN
namespace Go.Proofs.YtlpejaefobdajaaGreat
open Go.AI Go.PN
theorem prS_ex {d : DG} {p : List RD} (h : d.order.length = p.length) : prS d p = exQ (prP p) p.length (fun s => evB (evalD d.nodes s d.root)) := by
  unfold prS
  rw [sumQ_ex]
  refine ex_congr _ _ _ fun s hs => ?_
  unfold evB tabL
  rw [List.getD_eq_getElem?_getD, h]
  simp [hs]
theorem prS_congr {d e : DG} {p : List RD} (hd : d.order.length = p.length) (he : e.order.length = p.length) (h : ∀ s, evalD d.nodes s d.root = evalD e.nodes s e.root) : prS d p = prS e p := by
  rw [prS_ex hd, prS_ex he]
  exact ex_congr _ _ _ fun s _ => by rw [h s]
theorem prS_not {d e : DG} {p : List RD} (hd : d.order.length = p.length) (he : e.order.length = p.length) (h : ∀ s, evalD e.nodes s e.root = !evalD d.nodes s d.root) : prS e p = 1 - prS d p := by
  rw [prS_ex hd, prS_ex he, ← ex_sub1]
  exact ex_congr _ _ _ fun s _ => by rw [h s]; cases evalD d.nodes s d.root <;> simp only [evB, Bool.not_false, Bool.not_true, if_true, if_false, Bool.false_eq_true] <;> grind
theorem prS_adds {a b c d : DG} {p : List RD} (ha : a.order.length = p.length) (hb : b.order.length = p.length) (hc : c.order.length = p.length) (hd : d.order.length = p.length) (h1 : ∀ s, evalD c.nodes s c.root = (evalD a.nodes s a.root || evalD b.nodes s b.root)) (h2 : ∀ s, evalD d.nodes s d.root = (evalD a.nodes s a.root && evalD b.nodes s b.root)) : prS a p + prS b p = prS c p + prS d p := by
  rw [prS_ex ha, prS_ex hb, prS_ex hc, prS_ex hd, ← ex_add, ← ex_add]
  exact ex_congr _ _ _ fun s _ => by rw [h1 s, h2 s]; cases evalD a.nodes s a.root <;> cases evalD b.nodes s b.root <;> simp [evB] <;> grind
theorem prob_unit {r : RD} (h : r.prob = true) : 0 ≤ r.q ∧ r.q ≤ 1 := by
  unfold RD.prob at h
  simp only [Bool.and_eq_true, decide_eq_true_eq] at h
  exact ⟨by have := h; grind, by have := h; grind⟩
theorem prS_unit {d : DG} {p : List RD} (hd : d.order.length = p.length) (hp : ∀ r ∈ p, r.prob = true) : 0 ≤ prS d p ∧ prS d p ≤ 1 := by
  rw [prS_ex hd]
  refine ex_unit _ _ (fun i hi => ?_) fun s => evB_unit _
  unfold prP
  rw [List.getD_eq_getElem?_getD, List.getElem?_eq_getElem hi]
  exact prob_unit (hp _ (List.getElem_mem hi))
theorem small_like {d e : DG} {p : List RD} (hs : Small d p) (h0 : dpcode d p = 0) (he : dcode e = 0) (ho : e.order = d.order) : Small e p ∧ dpcode e p = 0 := by
  have o6 := hs.o6 h0
  have n := (dg_ok he).n4096
  refine ⟨⟨hs.w, hs.l, by rw [ho]; exact hs.o, by omega, fun _ => by rw [ho]; exact o6⟩, ?_⟩
  unfold dpcode at h0 ⊢
  rw [if_neg (by simpa using he), ho]
  split at h0
  · rename_i h; exact absurd h0 h
  · exact h0
end Go.Proofs.YtlpejaefobdajaaGreat

/- faultlinelaw37: valid, ShannonTotal. -/
namespace Go.Proofs.YtlpejaefobdajaaGreat
open Go.AI Go.PN
attribute [local irreducible] aw Fa Fh DrK
abbrev validB (d : DG) (p : List RD) : Bool := !largeB d p && (dpcode d p == 0)
set_option maxHeartbeats 800000 in
theorem valid37_fa (d : DG) (p : List RD) (hw : WordsOk p) (hl : p.length ≤ 1099511627776) (hl1 : d.order.length ≤ 1099511627776) (hl2 : d.nodes.length ≤ 1099511627776) : Fa Tryz.prog 38 [.agg (dgc false d), .c (rats false p)] (.c (.bool (validB d p))) := by
  refine fa_of_body Tryz.func38 rfl rfl (by simp [Tryz.ntmps38]) fun C hC => ?_
  simp only [initS, Nat.reduceAdd]
  refine xG ?_
  refine xB fun g2 hn_g2=>?_
  refine yG hn_g2 ?_
  refine yC hn_g2 (large_fa d p hl hl1 hl2) ?_
  refine yG hn_g2 ?_
  refine aw_split 9 (zE hn_g2) (fun hb => ?_) (fun hb => ?_) <;> refine yS hn_g2 ?_
  · have hb' : largeB d p = false := by simpa using hb
    have hs := small_of hw hl2 hb'
    have s1 := hs.l
    have s2 := hs.o
    refine yG hn_g2 ?_
    refine yC hn_g2 (checkDiagram_fa d p hs.w5 ?_ ?_ ?_) ?_
    · omega
    · omega
    · omega
    refine yG hn_g2 ?_
    refine yT hC hn_g2 ?_
    exact .one (.c (ler_bool (by unfold validB; rw [hb']; rfl)))
  · have hb' : largeB d p = true := by simpa using hb
    refine yG hn_g2 ?_
    refine yT hC hn_g2 ?_
    exact .one (.c (ler_bool (by unfold validB; rw [hb']; rfl)))
theorem valid_ok {d : DG} {p : List RD} (h : validB d p = true) : largeB d p = false ∧ dpcode d p = 0 := by
  unfold validB at h
  rw [Bool.and_eq_true] at h
  exact ⟨by simpa using h.1, by simpa using h.2⟩
theorem sum_wf {d : DG} {p q : List RD} (hs : Small d p) (h0 : dpcode d p = 0) (hl : q.length = p.length) (hw : ∀ r ∈ q, r.wf 4) : (rd (sumQ q (tabL d) (2 ^ p.length))).wf 4000 := by
  have h6 := hs.o6 h0
  obtain ⟨ok, hpl, _⟩ := dp_ok h0
  refine rd_wf (fits_mono (fits_sum (L := 4) (by omega) hw _) ?_)
  have h3 : 2 ^ p.length ≤ 2 ^ 6 := Nat.pow_le_pow_right (by omega) (by omega)
  have h4 := Nat.mul_le_mul (show (2 * 4 + 2) * q.length + 2 ≤ 62 from by omega) h3
  omega
theorem fits_of {q : Rat} {L : Nat} (hL : 1 ≤ L) (h : (rd q).wf L) : fits q L := by
  have := RD.fits h hL
  rwa [rd_q] at this
end Go.Proofs.YtlpejaefobdajaaGreat

/- The law ShannonAdds. -/
namespace Go.Proofs.YtlpejaefobdajaaGreat
open Go.AI Go.PN
attribute [local irreducible] aw Fa Fh DrK
theorem prS_wf {d : DG} {p : List RD} (hs : Small d p) (h0 : dpcode d p = 0) : (rd (prS d p)).wf 4000 := rd_wf (pr_fits hs h0)
theorem sprob_ok {d : DG} {p : List RD} (hs : Small d p) (h0 : dpcode d p = 0) : Fa Tryz.prog 33 [.agg (dgc false d), .c (rats false p)] (.tup [.agg (rdc (rd (prS d p))), .c .nilI]) := by
  have := sprobability_fa d p hs
  rw [if_pos h0, h0] at this
  exact this
theorem signQ_0 {x : Rat} (h : x = 0) : signQ x = 0 := by subst h; rfl
set_option maxRecDepth 100000 in
set_option maxHeartbeats 3200000 in
theorem lawAdds_fa (haw : Fa Tryz.prog 37 [] (.c (.bool true))) (a b : DG) (p : List RD) (hw : WordsOk p) (hl : p.length ≤ 1099511627776) (hla1 : a.order.length ≤ 68719476736) (hla2 : a.nodes.length ≤ 1099511627776) (hlb1 : b.order.length ≤ 68719476736) (hlb2 : b.nodes.length ≤ 1099511627776) :
    Fa Tryz.prog 7 [.agg (dgc false a), .agg (dgc false b), .c (rats false p)] (.c (.bool true)) := by
  refine fa_of_body Tryz.func7 rfl rfl (by simp [Tryz.ntmps7]) fun C hC => ?_
  simp only [initS, Nat.reduceAdd]
  refine xG ?_
  refine xB fun g3 hn_g3=>?_
  refine yG hn_g3 ?_
  refine yB hn_g3 fun g4 hn_g4=>?_
  refine yG (oj hn_g3 hn_g4) ?_
  refine yC (oj hn_g3 hn_g4) (haw) ?_
  refine yG (oj hn_g3 hn_g4) ?_
  refine yC (oj hn_g3 hn_g4) (valid37_fa a p hw hl ?_ hla2) ?_
  · omega
  refine yG (oj hn_g3 hn_g4) ?_
  refine aw_split 27 (zE (oj hn_g3 hn_g4)) (fun hv => ?_) (fun hv => ?_) <;> refine yS (oj hn_g3 hn_g4) ?_
  · refine yG (oj hn_g3 hn_g4) ?_
    refine yP (oj hn_g3 hn_g4) ?_
    refine yG (oj hn_g3 hn_g4) ?_
    refine yC (oj hn_g3 hn_g4) (haw) ?_
    refine yG (oj hn_g3 hn_g4) ?_
    refine yT hC (oj hn_g3 hn_g4) ?_
    exact .one (.c (.bool _))
  refine yG (oj hn_g3 hn_g4) ?_
  refine aw_buildSlice (xs := [.tmp 28, .tmp 29]) (cells := dgc false a ++ dgc false b) rfl (zE (oj hn_g3 hn_g4)) rfl (zE (oj hn_g3 hn_g4)) (by refine yS (oj hn_g3 hn_g4) ?_; rfl) rfl (by omega) (by omega) (by intro x hx; simp only [List.mem_cons, List.not_mem_nil, or_false] at hx; rcases hx with rfl | rfl <;> exact ⟨rfl, rfl, rfl⟩) rfl fun g9 hn_g9 => ?_
  replace hn_g9 := Heap.ne_of hn_g9
  dsimp only [Heap.ne] at hn_g9
  refine yS (oj hn_g3 (oj hn_g4 hn_g9)) ?_
  refine aw_frzT (t := 30) (dgsF [a, b]) (zE (oj hn_g3 (oj hn_g4 hn_g9))) (zE (oj hn_g3 (oj hn_g4 hn_g9))) (by omega) (hC g9) (fun q hq => by match q, hq with | 0, _ => rfl | 1, _ => rfl | 2, _ => rfl | 3, _ => rfl | 4, _ => rfl | 5, _ => rfl) rfl (zE (oj hn_g3 (oj hn_g4 hn_g9))) ?_
  refine yS (oj hn_g3 (oj hn_g4 hn_g9)) ?_
  refine yG (oj hn_g3 (oj hn_g4 hn_g9)) ?_
  refine yC (oj hn_g3 (oj hn_g4 hn_g9)) (check16_fa [a, b] ?_ ?_) ?_
  · simp
  · intro d hd; simp only [List.mem_cons, List.not_mem_nil, or_false] at hd; rcases hd with rfl | rfl; exact ⟨hla1, hla2⟩; exact ⟨hlb1, hlb2⟩
  refine yG (oj hn_g3 (oj hn_g4 hn_g9)) ?_
  refine yF (oj hn_g3 (oj hn_g4 hn_g9)) (fun h16=>?_) fun h16=>?_
  · refine yG (oj hn_g3 (oj hn_g4 hn_g9)) ?_
    refine yC (oj hn_g3 (oj hn_g4 hn_g9)) (haw) ?_
    refine yG (oj hn_g3 (oj hn_g4 hn_g9)) ?_
    refine yT hC (oj hn_g3 (oj hn_g4 hn_g9)) ?_
    exact .one (.c (.bool _))
  obtain ⟨hb, hdp⟩ := valid_ok (show validB a p = true from by simpa using hv)
  have h16' : c16 [a, b] = 0 := by simpa using h16
  have hs := small_of hw hla2 hb
  obtain ⟨ok, hpl, hpr⟩ := dp_ok hdp
  have h6 := hs.o6 hdp
  obtain ⟨hz, hoo⟩ := c16_ok h16'
  have hdb : dcode b = 0 := hz 1 (by simp)
  have hob : b.order = a.order := hoo 1 (by simp)
  obtain ⟨hsb, hdpb⟩ := small_like hs hdp hdb hob
  refine yG (oj hn_g3 (oj hn_g4 hn_g9)) ?_
  refine aw_callh (hc := []) (hr := [(g4, .cells 25 3 (ofL (dgc false b))), (g3, .cells 25 3 (ofL (dgc false a)))]) (aor_fh a b h16' (by omega)) rfl rfl rfl (.refl _) (zL (oj hn_g3 (oj hn_g4 hn_g9))) ?_
  rintro _ _ ⟨rfl, C, hC1, rfl⟩ _
  obtain ⟨hsc, hdpc⟩ := small_like hs hdp hC1.code hC1.order
  rw [List.nil_append]
  refine yS (oj hn_g3 (oj hn_g4 hn_g9)) ?_
  refine yG (oj hn_g3 (oj hn_g4 hn_g9)) ?_
  refine yA (oj hn_g3 (oj hn_g4 hn_g9)) fun g7 hn_g7=>?_
  refine yG (oj hn_g3 (oj hn_g4 (oj hn_g9 hn_g7))) ?_
  refine yW (oj hn_g3 (oj hn_g4 (oj hn_g9 hn_g7))) ?_
  refine yS (oj hn_g3 (oj hn_g4 (oj hn_g9 hn_g7))) ?_
  refine yG (oj hn_g3 (oj hn_g4 (oj hn_g9 hn_g7))) ?_
  refine aw_callh (hc := []) (hr := [(g7, .cells 25 3 (ofL (dgc true C))), (g4, .cells 25 3 (ofL (dgc false b))), (g3, .cells 25 3 (ofL (dgc false a)))]) (aand_fh a b h16' (by omega)) rfl rfl rfl (.refl _) (zL (oj hn_g3 (oj hn_g4 (oj hn_g9 hn_g7)))) ?_
  rintro _ _ ⟨rfl, D, hD1, rfl⟩ _
  obtain ⟨hsd, hdpd⟩ := small_like hs hdp hD1.code hD1.order
  rw [List.nil_append]
  refine yS (oj hn_g3 (oj hn_g4 (oj hn_g9 hn_g7))) ?_
  refine yG (oj hn_g3 (oj hn_g4 (oj hn_g9 hn_g7))) ?_
  refine yA (oj hn_g3 (oj hn_g4 (oj hn_g9 hn_g7))) fun g9 hn_g9=>?_
  refine yG (oj hn_g3 (oj hn_g4 (oj hn_g9 (oj hn_g7 hn_g9)))) ?_
  refine yW (oj hn_g3 (oj hn_g4 (oj hn_g9 (oj hn_g7 hn_g9)))) ?_
  refine yS (oj hn_g3 (oj hn_g4 (oj hn_g9 (oj hn_g7 hn_g9)))) ?_
  have hadd := prS_adds (p := p) (a := a) (b := b) (c := C) (d := D) hpl.symm (by rw [hob]; exact hpl.symm) (by rw [hC1.order]; exact hpl.symm) (by rw [hD1.order]; exact hpl.symm) hC1.ev hD1.ev
  have Pa := sprob_ok hs hdp
  have Pb := sprob_ok hsb hdpb
  have Pc := sprob_ok hsc hdpc
  have Pd := sprob_ok hsd hdpd
  have fa := pr_fits hs hdp
  have fb := pr_fits hsb hdpb
  have fc := pr_fits hsc hdpc
  have fd := pr_fits hsd hdpd
  generalize prS a p = A at *
  generalize prS b p = B at *
  generalize prS C p = X at *
  generalize prS D p = Y at *
  refine yG (oj hn_g3 (oj hn_g4 (oj hn_g9 (oj hn_g7 hn_g9)))) ?_
  refine yC (oj hn_g3 (oj hn_g4 (oj hn_g9 (oj hn_g7 hn_g9)))) (Pa) ?_
  refine yG (oj hn_g3 (oj hn_g4 (oj hn_g9 (oj hn_g7 hn_g9)))) ?_
  refine yA (oj hn_g3 (oj hn_g4 (oj hn_g9 (oj hn_g7 hn_g9)))) fun g11 hn_g11=>?_
  refine yG (oj hn_g3 (oj hn_g4 (oj hn_g9 (oj hn_g7 (oj hn_g9 hn_g11))))) ?_
  refine yW (oj hn_g3 (oj hn_g4 (oj hn_g9 (oj hn_g7 (oj hn_g9 hn_g11))))) ?_
  refine yS (oj hn_g3 (oj hn_g4 (oj hn_g9 (oj hn_g7 (oj hn_g9 hn_g11))))) ?_
  refine yG (oj hn_g3 (oj hn_g4 (oj hn_g9 (oj hn_g7 (oj hn_g9 hn_g11))))) ?_
  refine yC (oj hn_g3 (oj hn_g4 (oj hn_g9 (oj hn_g7 (oj hn_g9 hn_g11))))) (Pb) ?_
  refine yG (oj hn_g3 (oj hn_g4 (oj hn_g9 (oj hn_g7 (oj hn_g9 hn_g11))))) ?_
  refine yA (oj hn_g3 (oj hn_g4 (oj hn_g9 (oj hn_g7 (oj hn_g9 hn_g11))))) fun g13 hn_g13=>?_
  refine yG (oj hn_g3 (oj hn_g4 (oj hn_g9 (oj hn_g7 (oj hn_g9 (oj hn_g11 hn_g13)))))) ?_
  refine yW (oj hn_g3 (oj hn_g4 (oj hn_g9 (oj hn_g7 (oj hn_g9 (oj hn_g11 hn_g13)))))) ?_
  refine yS (oj hn_g3 (oj hn_g4 (oj hn_g9 (oj hn_g7 (oj hn_g9 (oj hn_g11 hn_g13)))))) ?_
  refine yG (oj hn_g3 (oj hn_g4 (oj hn_g9 (oj hn_g7 (oj hn_g9 (oj hn_g11 hn_g13)))))) ?_
  refine yC (oj hn_g3 (oj hn_g4 (oj hn_g9 (oj hn_g7 (oj hn_g9 (oj hn_g11 hn_g13)))))) (Pc) ?_
  refine yG (oj hn_g3 (oj hn_g4 (oj hn_g9 (oj hn_g7 (oj hn_g9 (oj hn_g11 hn_g13)))))) ?_
  refine yA (oj hn_g3 (oj hn_g4 (oj hn_g9 (oj hn_g7 (oj hn_g9 (oj hn_g11 hn_g13)))))) fun g15 hn_g15=>?_
  refine yG (oj hn_g3 (oj hn_g4 (oj hn_g9 (oj hn_g7 (oj hn_g9 (oj hn_g11 (oj hn_g13 hn_g15))))))) ?_
  refine yW (oj hn_g3 (oj hn_g4 (oj hn_g9 (oj hn_g7 (oj hn_g9 (oj hn_g11 (oj hn_g13 hn_g15))))))) ?_
  refine yS (oj hn_g3 (oj hn_g4 (oj hn_g9 (oj hn_g7 (oj hn_g9 (oj hn_g11 (oj hn_g13 hn_g15))))))) ?_
  refine yG (oj hn_g3 (oj hn_g4 (oj hn_g9 (oj hn_g7 (oj hn_g9 (oj hn_g11 (oj hn_g13 hn_g15))))))) ?_
  refine yC (oj hn_g3 (oj hn_g4 (oj hn_g9 (oj hn_g7 (oj hn_g9 (oj hn_g11 (oj hn_g13 hn_g15))))))) (Pd) ?_
  refine yG (oj hn_g3 (oj hn_g4 (oj hn_g9 (oj hn_g7 (oj hn_g9 (oj hn_g11 (oj hn_g13 hn_g15))))))) ?_
  refine yA (oj hn_g3 (oj hn_g4 (oj hn_g9 (oj hn_g7 (oj hn_g9 (oj hn_g11 (oj hn_g13 hn_g15))))))) fun g17 hn_g17=>?_
  refine yG (oj hn_g3 (oj hn_g4 (oj hn_g9 (oj hn_g7 (oj hn_g9 (oj hn_g11 (oj hn_g13 (oj hn_g15 hn_g17)))))))) ?_
  refine yW (oj hn_g3 (oj hn_g4 (oj hn_g9 (oj hn_g7 (oj hn_g9 (oj hn_g11 (oj hn_g13 (oj hn_g15 hn_g17)))))))) ?_
  refine yS (oj hn_g3 (oj hn_g4 (oj hn_g9 (oj hn_g7 (oj hn_g9 (oj hn_g11 (oj hn_g13 (oj hn_g15 hn_g17)))))))) ?_
  refine yG (oj hn_g3 (oj hn_g4 (oj hn_g9 (oj hn_g7 (oj hn_g9 (oj hn_g11 (oj hn_g13 (oj hn_g15 hn_g17)))))))) ?_
  refine aw_dr 32 ty_mixed (by kernel_rfl) ?_
  refine yG (oj hn_g3 (oj hn_g4 (oj hn_g9 (oj hn_g7 (oj hn_g9 (oj hn_g11 (oj hn_g13 (oj hn_g15 hn_g17)))))))) ?_
  refine yD (oj hn_g3 (oj hn_g4 (oj hn_g9 (oj hn_g7 (oj hn_g9 (oj hn_g11 (oj hn_g13 (oj hn_g15 hn_g17)))))))) (sadd_fa (rd A) (rd B) (rd_wf (fits_mono fa ?_)) (rd_wf (fits_mono fb ?_))) ?_
  · omega
  · omega
  rw [rd_q, rd_q]
  refine yG (oj hn_g3 (oj hn_g4 (oj hn_g9 (oj hn_g7 (oj hn_g9 (oj hn_g11 (oj hn_g13 (oj hn_g15 hn_g17)))))))) ?_
  refine yD (oj hn_g3 (oj hn_g4 (oj hn_g9 (oj hn_g7 (oj hn_g9 (oj hn_g11 (oj hn_g13 (oj hn_g15 hn_g17)))))))) (sadd_fa (rd X) (rd Y) (rd_wf (fits_mono fc ?_)) (rd_wf (fits_mono fd ?_))) ?_
  · omega
  · omega
  rw [rd_q, rd_q]
  refine yG (oj hn_g3 (oj hn_g4 (oj hn_g9 (oj hn_g7 (oj hn_g9 (oj hn_g11 (oj hn_g13 (oj hn_g15 hn_g17)))))))) ?_
  refine yD (oj hn_g3 (oj hn_g4 (oj hn_g9 (oj hn_g7 (oj hn_g9 (oj hn_g11 (oj hn_g13 (oj hn_g15 hn_g17)))))))) (scmp_fa (rd (A + B)) (rd (X + Y)) (rd_wf (fits_mono (fits_add fa fb) ?_)) (rd_wf (fits_mono (fits_add fc fd) ?_))) ?_
  · omega
  · omega
  rw [rd_q, rd_q, signQ_0 (by rw [hadd]; grind)]
  refine yG (oj hn_g3 (oj hn_g4 (oj hn_g9 (oj hn_g7 (oj hn_g9 (oj hn_g11 (oj hn_g13 (oj hn_g15 hn_g17)))))))) ?_
  refine yT hC (oj hn_g3 (oj hn_g4 (oj hn_g9 (oj hn_g7 (oj hn_g9 (oj hn_g11 (oj hn_g13 (oj hn_g15 hn_g17)))))))) ?_
  exact .one (.c (ler_bool rfl))
end Go.Proofs.YtlpejaefobdajaaGreat
