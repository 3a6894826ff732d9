/- Texts of one proof, laid one behind the other by a program (merge.py): Tab9, Tab10, Alg1, Cub2, Shan6, Add, PAwk, Awk, Alg2, PCan, PTot, PBir, PAdd, Bir2, PSig, Cut1, Frm7. -/
import Derived.Test.YtmfmnmkipjpjhaaGreatDoorV22
import Derived.Test.YtmfmnmkipjpjhaaGreatDoorV20
import Derived.Test.YtmfmnmkipjpjhaaGreatDoorV21
import Derived.Test.YtmfmnmkipjpjhaaGreatDoorV18
import Derived.Test.YtmfmnmkipjpjhaaGreatDoorV15
import Derived.Test.YtmfmnmkipjpjhaaGreatDoorV17
import Derived.Test.YtmfmnmkipjpjhaaGreatDoorV06
import Derived.Test.YtmfmnmkipjpjhaaGreatDoorV16
set_option linter.unusedSimpArgs false
set_option linter.unusedVariables false
/- decision.Table: Export. -/
namespace Go.AI
@[go_sem ↓] theorem updF_3_1' (a b c x : CV) : updF (ofL [a, b, c]) 1 [x] = ofL [a, x, c] := updF_at [a, b, c] 1 x (by simp)
@[go_sem ↓] theorem updF_3_2' (a b c x : CV) : updF (ofL [a, b, c]) 2 [x] = ofL [a, b, x] := updF_at [a, b, c] 2 x (by simp)
end Go.AI
namespace Go.PN
open Go.AI
/-- The map of what is out. -/
def exTo : List Int → Nat → List (Int × Int)
  | [], _ => []
  | r :: rs, i => (r, 2 + (i : Int)) :: exTo rs (i + 1)
def exL (rs : List Int) : List (Int × Int) := (0, 0) :: (1, 1) :: exTo rs 0
theorem exTo_push (r : Int) : ∀ (rs : List Int) (i : Nat), exTo (rs ++ [r]) i = exTo rs i ++ [(r, 2 + ((i + rs.length : Nat) : Int))]
  | [], i => by simp [exTo]
  | x :: rs, i => by
    show _ :: exTo (rs ++ [r]) (i + 1) = _ :: (exTo rs (i + 1) ++ _)
    rw [exTo_push r rs (i + 1)]
    simp only [List.length_cons]
    congr 5
    omega
theorem exL_push (rs : List Int) (r : Int) : exL rs ++ [(r, 2 + (rs.length : Int))] = exL (rs ++ [r]) := by
  unfold exL
  rw [exTo_push]
  simp
theorem exTo_get (r : Int) : ∀ (rs : List Int) (i : Nat), dnGet r (exTo rs i) = if r ∈ rs then some (2 + ((i + rs.idxOf r : Nat) : Int)) else none
  | [], i => by simp [exTo, dnGet]
  | x :: rs, i => by
    rw [exTo, dnGet]
    by_cases e : r = x
    · subst e; simp
    · rw [if_neg e, exTo_get r rs (i + 1)]
      by_cases hm : r ∈ rs
      · have hi : (x :: rs).idxOf r = rs.idxOf r + 1 := by rw [List.idxOf_cons, beq_false_of_ne (fun h => e h.symm)]; rfl
        rw [if_pos hm, if_pos (List.mem_cons_of_mem _ hm), hi]
        congr 2
        omega
      · rw [if_neg hm, if_neg (by simp [e, hm])]
theorem exL_get {r : Int} (h0 : 0 ≤ r) (rs : List Int) (hb : ∀ x ∈ rs, 2 ≤ x) : dnGet r (exL rs) = exR rs r := by
  unfold exL exR
  rw [dnGet, dnGet]
  dsimp only
  by_cases e0 : r = 0
  · subst e0; simp
  · rw [if_neg e0]
    by_cases e1 : r = 1
    · subst e1; simp
    · rw [if_neg e1, if_neg (by omega), exTo_get, Nat.zero_add]
      split
      · congr 1; omega
      · rfl
theorem perm_ex {α : Type} (T A B : List α) (x : α) : (T ++ (A ++ (B ++ [x]))).Perm (B ++ (x :: (T ++ A))) := by
  have := List.perm_append_comm (l₁ := T ++ A) (l₂ := B ++ [x])
  simpa using this
theorem ExOk.lenle {ns : List DN} {rs : List Int} {os : List DN} (h : ExOk ns rs os) : rs.length ≤ ns.length := nodup_range h.nd h.bd
end Go.PN
namespace Go.Proofs.YtmfmnmkipjpjhaaGreatDoor
open Go.AI Go.PN
attribute [local irreducible] aw Fa Fh DrK
/-- What the walk of Export has captured. -/
abbrev X5 (g1 g2 g3 g4 gd gT : Nat) (oo : List Int) (rs : List Int) (oN : Option Nat) (n : Nat) : Heap :=
  [(g1, .cells 170 1 (ofL [.raw (.map (some gd))])), (g2, .cells 126 1 (ofL [.optr gT 0])), (g3, .cells 128 1 (ofL [fnC 146 [g1, g2, g3, g4]])), (g4, .cells 98 3 (ofL [is true oo, gs oN 3 n, .int .i64 0])), (gd, .gen (MapI keyI (dnL (exL rs))))]
abbrev HX (g1 g2 g3 g4 gd gT gU gM : Nat) (og : Option Nat) (o pl : List Int) (ns : List DN) (mm : Mem3) (oo : List Int) (rs : List Int) (oN : Option Nat) (os : List DN) : Heap :=
  (X5 g1 g2 g3 g4 gd gT oo rs oN os.length ++ THp gT gU gM og o pl ns mm) ++ gh oN 132 (os.length * 3) (dnsF os)
set_option maxRecDepth 100000 in
set_option maxHeartbeats 6400000 in
theorem ewalk_fh (g1 g2 g3 g4 gd gT gU gM : Nat) {o pl : List Int} {og : Option Nat} {ns : List DN} {mm : Mem3} (hs : TS o og ns mm) (hn : ns.length ≤ 1000000000) (oo : List Int) : ∀ (k : Nat) (r : Int) (rs : List Int) (oN : Option Nat) (os : List DN), r.toNat < k → RefOk ns r → ExOk ns rs os → (oN = none → os.length = 0) →
    Fh Tryz.prog 146 (HX g1 g2 g3 g4 gd gT gU gM og o pl ns mm oo rs oN os) ([.c (.int .i64 r)] ++ [g1, g2, g3, g4].map fun g => .c (.optr g 0)) (fun x h => ∃ rs' oN' os' y, Ex o ns rs os rs' os' r y ∧ (oN' = none → os'.length = 0) ∧ x = .c (.int .i64 y) ∧ h = HX g1 g2 g3 g4 gd gT gU gM og o pl ns mm oo rs' oN' os') := by
  intro k
  induction k with
  | zero => intro r rs oN os hk; omega
  | succ k ih =>
    intro r rs oN os hk hr hx hoN
    simp only [List.cons_append, List.nil_append, List.map_cons, List.map_nil]
    refine fh_of_body Tryz.func146 rfl rfl (by simp [Tryz.ntmps146]) fun C hC => ?_
    simp only [initS, Nat.reduceAdd]
    simp only [HX, X5, THp, TH, List.cons_append, List.nil_append]
    refine aw_nd fun hnd => ?_
    simp only [Heap.keys, List.map_cons] at hnd
    replace hnd := ndP_of hnd
    dsimp only [ndP, neA] at hnd
    refine yG hnd ?_
    refine aw_lookup2 (a := r) (kv := dnL (exL rs)) (Kf := keyI) (kt := 3) (et := 3) rfl rfl rfl (by kernel_rfl) ty_ki ty_iz (zE hnd) (zE hnd) (zE hnd) keyI_rep ?_
    refine yS hnd ?_
    rw [dn_get, exL_get hr.1 rs (fun x hm => (hx.bd x hm).1)]
    cases hf : exR rs r with
    | some y =>
      try simp only [Option.map_some, Option.getD_some, Option.isSome_some, cstC]
      refine yG hnd ?_
      refine yP hnd ?_
      refine yG hnd ?_
      refine yU hnd ?_
      exact ⟨rs, oN, os, y, ex_same hx hr.1 hf, hoN, rfl, by simp only [HX, X5, THp, TH, List.cons_append, List.nil_append]⟩
    | none =>
      try simp only [Option.map_none, Option.getD_none, Option.isSome_none, cstC]
      refine yG hnd ?_
      refine yN hnd ?_
      have h2 : 2 ≤ r := by
        refine Classical.byContradiction fun h => ?_
        unfold exR at hf
        rw [if_pos (by omega)] at hf
        cases hf
      have hnew : r ∉ rs := fun hm => by
        unfold exR at hf
        rw [if_neg (by omega), if_pos hm] at hf
        cases hf
      obtain ⟨g, rfl⟩ : ∃ g, og = some g := by
        cases og with
        | none => have := hs.og rfl; unfold RefOk at hr; omega
        | some g => exact ⟨g, rfl⟩
      have hi : (r - 2).toNat < ns.length := by unfold RefOk at hr; omega
      have hrl : r < ns.length + 2 := hr.2
      obtain ⟨w0, w1, w2, w3, w4, w5⟩ := (hs.tab.ns _ hi)
      obtain ⟨kl, kh⟩ := kids_ref hs.tab hi
      have hnode : ∀ {rs1 rs2 : List Int} {os1 os2 : List DN} {xl xh : Int}, Ex o ns rs os rs1 os1 (ns.getD (r - 2).toNat dn0).lo xl → Ex o ns rs1 os1 rs2 os2 (ns.getD (r - 2).toNat dn0).hi xh → r ∉ rs2 ∧ Ex o ns rs os (rs2 ++ [r]) (os2 ++ [⟨(ns.getD (r - 2).toNat dn0).v, xl, xh⟩]) r ((rs2.length : Int) + 2) := fun a b => ex_node hs.tab h2 hrl hnew a b
      simp only [gs, gh, List.cons_append, List.nil_append]
      clear hnd
      refine aw_nd fun hnd => ?_
      simp only [Heap.keys, List.map_cons, List.map_append] at hnd
      replace hnd := ndP_of hnd
      dsimp only [ndP, neA] at hnd
      generalize hx0 : ns.getD (r - 2).toNat dn0 = nd at *
      refine yG (oj hnd hx0) ?_
      refine yA (oj hnd hx0) fun g9 hn_g9=>?_
      refine yG (oj hnd (oj hx0 hn_g9)) ?_
      refine yW (oj hnd (oj hx0 hn_g9)) ?_
      refine yS (oj hnd (oj hx0 hn_g9)) ?_
      refine yG (oj hnd (oj hx0 hn_g9)) ?_
      refine aw_callhv (hr := [(g9, .cells 132 3 (ofL [.int .i64 nd.v, .int .i64 nd.lo, .int .i64 nd.hi]))]) (gs := [g1, g2, g3, g4]) (ih nd.lo rs oN os (by omega) kl hx hoN) rfl rfl rfl (zE (oj hnd (oj hx0 hn_g9))) ?_ (zL (oj hnd (oj hx0 hn_g9))) ?_
      · exact List.perm_append_comm (l₁ := [(g9, _)])
      rintro _ _ ⟨rs1, oN1, os1, xl, a1, hoN1, rfl, rfl⟩ _
      refine aw_perm List.perm_append_comm ?_
      simp only [HX, X5, THp, TH, gs, gh, List.cons_append, List.nil_append]
      clear hnd
      refine aw_nd fun hnd => ?_
      simp only [Heap.keys, List.map_cons, List.map_append] at hnd
      replace hnd := ndP_of hnd
      dsimp only [ndP, neA] at hnd
      refine yS hnd ?_
      refine yG hnd ?_
      refine aw_callhv (hr := [(g9, .cells 132 3 (ofL [.int .i64 nd.v, .int .i64 nd.lo, .int .i64 nd.hi]))]) (gs := [g1, g2, g3, g4]) (ih nd.hi rs1 oN1 os1 (by omega) kh a1.ok hoN1) rfl rfl rfl (zE hnd) ?_ (zL hnd) ?_
      · exact List.perm_append_comm (l₁ := [(g9, _)])
      rintro _ _ ⟨rs2, oN2, os2, xh, b1, hoN2, rfl, rfl⟩ _
      refine aw_perm List.perm_append_comm ?_
      simp only [HX, X5, THp, TH, gh, List.cons_append, List.nil_append]
      clear hnd
      refine aw_nd fun hnd => ?_
      simp only [Heap.keys, List.map_cons, List.map_append] at hnd
      replace hnd := ndP_of hnd
      dsimp only [ndP, neA] at hnd
      obtain ⟨hout, hex⟩ := hnode a1 b1
      have l2 := b1.ok.len
      have l3 := b1.ok.lenle
      have hlen := lenCV_gs (s := 3) hoN2
      (try simp only[go_sem, hnd, ↓hlen])
      repeat first|apply wa1|apply wa2|apply wa3|apply wa4|apply wa5 rfl|apply wa6|apply wa7|(refine wb1 rfl fun R r=>?_;simp only[go_sem, hnd, ↓hlen];with_reducible refine r _ _ ?_;clear r R)
      refine aw_push (pre := [(g9, .cells 132 3 (ofL [.int .i64 nd.v, .int .i64 nd.lo, .int .i64 nd.hi])), (g1, .cells 170 1 (ofL [.raw (.map (some gd))])), (g2, .cells 126 1 (ofL [.optr gT 0])), (g3, .cells 128 1 (ofL [fnC 146 [g1, g2, g3, g4]])), (g4, .cells 98 3 (ofL [is true oo, gs oN2 3 os2.length, .int .i64 0])), (gd, .gen (MapI keyI (dnL (exL rs2)))), (gT, .cells 164 5 (ofL [is true o, is true pl, .osl g 3 0 ns.length, .raw (.map (some gU)), .raw (.map (some gM))])), (gU, .gen (MapI dkV (uqTo ns 0))), (gM, .gen (MapI key3 (mmL mm))), (g, .cells 132 (ns.length * 3) (dnsF ns))]) rfl rfl rfl rfl rfl rfl rfl (by simp only[go_sem, hnd, ↓hlen]<;>rfl) (by simp only[go_sem, hnd, ↓hlen]<;>rfl) (by rfl) (by omega) (by omega) (by simp only[go_sem, hnd, ↓hlen]<;>rfl) (by omega) (by exact hoN2) (by simp only[go_sem, hnd, ↓hlen]<;>rfl) (by rfl) (by rfl) (by first | rfl | simp only [Nat.mul_one, List.nil_append, List.cons_append] <;> rfl) (by unfold maxLen; omega) (by omega) (by exact lf_push (xs := os2) rfl (⟨nd.v, xl, xh⟩ : DN) (by omega)) fun gN hn_gN => ?_
      replace hn_gN := Heap.ne_of hn_gN
      first | dsimp only [Heap.ne, gh] at hn_gN | dsimp only [Heap.ne] at hn_gN | skip
      (try simp only[go_sem, hnd, ↓hlen, hn_gN])
      simp only [gs, gh, List.cons_append, List.nil_append]
      repeat first|apply wa1|apply wa2|apply wa3|apply wa4|apply wa5 rfl|apply wa6|apply wa7|(refine wb1 rfl fun R r=>?_;simp only[go_sem, hnd, ↓hlen, hn_gN];with_reducible refine r _ _ ?_;clear r R)
      refine aw_store rfl rfl rfl rfl (by simp only[go_sem, hnd, ↓hlen, hn_gN]<;>rfl) (by simp only[go_sem, hnd, ↓hlen, hn_gN]<;>rfl) (by simp only[go_sem, hnd, ↓hlen, hn_gN]<;>rfl) (by simp only[go_sem, hnd, ↓hlen, hn_gN]<;>rfl) (fun _ e => by cases e) (by first | rfl | exact solid_gs3) (by rfl) (by first|omega|simp) rfl ?_
      (try simp only[go_sem, hnd, ↓hlen, hn_gN])
      repeat first|apply wa1|apply wa2|apply wa3|apply wa4|apply wa5 rfl|apply wa6|apply wa7|(refine wb1 rfl fun R r=>?_;simp only[go_sem, hnd, ↓hlen, hn_gN];with_reducible refine r _ _ ?_;clear r R)
      have e1 : (1 : Int) + ((os2.length + 1 : Nat) : Int) = 2 + (rs2.length : Int) := by omega
      have e1' : (1 : Int) + ((os2.length : Int) + 1) = 2 + (rs2.length : Int) := by omega
      have hb2 : ∀ x ∈ rs2, 2 ≤ x := fun x hm => (b1.ok.bd x hm).1
      refine aw_mapNew (a := r) (kv := dnL (exL rs2)) (Kf := keyI) (v := .int .i64 (2 + (rs2.length : Int))) rfl rfl rfl (kt := 3) (et := 3) (by kernel_rfl) ty_ki (by simp only[go_sem, hnd, ↓hlen, hn_gN]<;>rfl) (by simp only[go_sem, hnd, ↓hlen, hn_gN]<;>rfl) (by simp only[go_sem, hnd, ↓hlen, hn_gN]<;>rfl) keyI_rep (cv := .c (.int .i64 (2 + (rs2.length : Int)))) (by (try simp only[go_sem, hnd, ↓hlen, hn_gN]); first | rfl | rw [e1] | rw [e1']) (fun S w u h => h) (by rw [dn_get, exL_get hr.1 rs2 hb2]; unfold exR; rw [if_neg (by omega), if_neg hout]; rfl) (by simp only[go_sem, hnd, ↓hlen, hn_gN]<;>rfl) ?_
      rw [dnL_push, exL_push]
      (try simp only[go_sem, hnd, ↓hlen, hn_gN])
      repeat first|apply wa1|apply wa2|apply wa3|apply wa4|apply wa5 rfl|apply wa6|apply wa7|(refine wb1 rfl fun R r=>?_;simp only[go_sem, hnd, ↓hlen, hn_gN];with_reducible refine r _ _ ?_;clear r R)
      refine aw_lookup (a := r) (kv := dnL (exL (rs2 ++ [r]))) (Kf := keyI) (kt := 3) (et := 3) rfl rfl rfl (by kernel_rfl) ty_ki ty_iz (by simp only[go_sem, hnd, ↓hlen, hn_gN]<;>rfl) (by simp only[go_sem, hnd, ↓hlen, hn_gN]<;>rfl) (by simp only[go_sem, hnd, ↓hlen, hn_gN]<;>rfl) keyI_rep ?_
      rw [dn_get, exL_get hr.1 _ (fun x hm => by rcases List.mem_append.1 hm with hm | hm; exact hb2 x hm; rw [List.mem_singleton] at hm; omega), hex.ref]
      try simp only [Option.map_some, Option.getD_some, cstC]
      (try simp only[go_sem, hnd, ↓hlen, hn_gN])
      repeat first|apply wa1|apply wa2|apply wa3|apply wa4|apply wa5 rfl|apply wa6|apply wa7|(refine wb1 rfl fun R r=>?_;simp only[go_sem, hnd, ↓hlen, hn_gN];with_reducible refine r _ _ ?_;clear r R)
      refine aw_keep [(6, .c (.int .i64 ((rs2.length : Int) + 2)))] (HX g1 g2 g3 g4 gd gT gU gM (some g) o pl ns mm oo (rs2 ++ [r]) (some gN) (os2 ++ [⟨nd.v, xl, xh⟩])) (by simp only[go_sem, hnd, ↓hlen, hn_gN]<;>and_intros<;>first|exact True.intro|(with_reducible rfl)|exact c_int (by omega)|rfl) (by
        simp only [HX, X5, THp, TH, gs, gh, List.cons_append, List.nil_append, List.length_append, List.length_singleton]
        exact List.Sublist.cons _ (List.Sublist.refl _)) ?_
      (refine aw_rethq rfl fun R r=>?_;simp only[go_sem, hnd, ↓hlen, hn_gN];refine r _ rfl ?_;clear r R)
      exact ⟨rs2 ++ [r], some gN, os2 ++ [⟨nd.v, xl, xh⟩], _, hex, some_ne, rfl, rfl⟩
set_option maxRecDepth 100000 in
set_option maxHeartbeats 3200000 in
theorem export_fh (gT gU gM : Nat) {o pl : List Int} (ho : OdOk o pl) {og : Option Nat} {ns : List DN} {mm : Mem3} (hs : TS o og ns mm) (hn : ns.length ≤ 1000000000) {r : Int} (hr : RefOk ns r) :
    Fh Tryz.prog 108 (THp gT gU gM og o pl ns mm) [.c (.optr gT 0), .c (.int .i64 r)] (fun x h => ∃ rs os y, Ex o ns [] [] rs os r y ∧ x = .agg (dgc true ⟨o, os, y⟩) ∧ h = THp gT gU gM og o pl ns mm) := by
  have l24 := ho.l24
  refine fh_of_body Tryz.func108 rfl rfl (by simp [Tryz.ntmps108]) fun C hC => ?_
  simp only [initS, Nat.reduceAdd]
  unfold THp TH
  simp only [List.cons_append, List.nil_append]
  refine xG ?_
  refine xB fun g2 hn_g2=>?_
  refine yG hn_g2 ?_
  refine yA hn_g2 fun g4 hn_g4=>?_
  refine yG (oj hn_g2 hn_g4) ?_
  refine aw_copy (size := 1) (z := [.int .i64 0]) rfl rfl rfl (zE (oj hn_g2 hn_g4)) (zE (oj hn_g2 hn_g4)) rfl (by omega) (zE (oj hn_g2 hn_g4)) (zE (oj hn_g2 hn_g4)) .row (by unfold maxLen; omega) (by omega) ?_
  refine yS (oj hn_g2 hn_g4) ?_
  refine yG (oj hn_g2 hn_g4) ?_
  refine yA (oj hn_g2 hn_g4) fun g5 hn_g5=>?_
  refine yG (oj hn_g2 (oj hn_g4 hn_g5)) ?_
  refine yW (oj hn_g2 (oj hn_g4 hn_g5)) ?_
  refine yS (oj hn_g2 (oj hn_g4 hn_g5)) ?_
  refine yG (oj hn_g2 (oj hn_g4 hn_g5)) ?_
  refine aw_makeMap (Kf := keyI) rfl rfl rfl fun gd hn_gd => ?_
  replace hn_gd := Heap.ne_of hn_gd
  dsimp only [Heap.ne, gh] at hn_gd
  refine yS (oj hn_g2 (oj hn_g4 (oj hn_g5 hn_gd))) ?_
  refine yG (oj hn_g2 (oj hn_g4 (oj hn_g5 hn_gd))) ?_
  refine aw_insNew (a := 0) (kv := []) (Kf := keyI) (v := .int .i64 0) rfl rfl rfl (kt := 3) (et := 3) (by kernel_rfl) ty_ki (zE (oj hn_g2 (oj hn_g4 (oj hn_g5 hn_gd)))) (zE (oj hn_g2 (oj hn_g4 (oj hn_g5 hn_gd)))) (zE (oj hn_g2 (oj hn_g4 (oj hn_g5 hn_gd)))) keyI_rep (cv := .c (.int .i64 0)) (zE (oj hn_g2 (oj hn_g4 (oj hn_g5 hn_gd)))) (fun S w u h => h) rfl (zE (oj hn_g2 (oj hn_g4 (oj hn_g5 hn_gd)))) ?_
  refine yS (oj hn_g2 (oj hn_g4 (oj hn_g5 hn_gd))) ?_
  refine yG (oj hn_g2 (oj hn_g4 (oj hn_g5 hn_gd))) ?_
  refine aw_insNew (a := 1) (kv := [(0, .int .i64 0)]) (Kf := keyI) (v := .int .i64 1) rfl rfl rfl (kt := 3) (et := 3) (by kernel_rfl) ty_ki (zE (oj hn_g2 (oj hn_g4 (oj hn_g5 hn_gd)))) (zE (oj hn_g2 (oj hn_g4 (oj hn_g5 hn_gd)))) (zE (oj hn_g2 (oj hn_g4 (oj hn_g5 hn_gd)))) keyI_rep (cv := .c (.int .i64 1)) (zE (oj hn_g2 (oj hn_g4 (oj hn_g5 hn_gd)))) (fun S w u h => h) rfl (zE (oj hn_g2 (oj hn_g4 (oj hn_g5 hn_gd)))) ?_
  refine yS (oj hn_g2 (oj hn_g4 (oj hn_g5 hn_gd))) ?_
  refine yG (oj hn_g2 (oj hn_g4 (oj hn_g5 hn_gd))) ?_
  refine yA (oj hn_g2 (oj hn_g4 (oj hn_g5 hn_gd))) fun g6 hn_g6=>?_
  refine yG (oj hn_g2 (oj hn_g4 (oj hn_g5 (oj hn_gd hn_g6)))) ?_
  refine yW (oj hn_g2 (oj hn_g4 (oj hn_g5 (oj hn_gd hn_g6)))) ?_
  refine yS (oj hn_g2 (oj hn_g4 (oj hn_g5 (oj hn_gd hn_g6)))) ?_
  refine yG (oj hn_g2 (oj hn_g4 (oj hn_g5 (oj hn_gd hn_g6)))) ?_
  refine yA (oj hn_g2 (oj hn_g4 (oj hn_g5 (oj hn_gd hn_g6)))) fun g7 hn_g7=>?_
  refine yG (oj hn_g2 (oj hn_g4 (oj hn_g5 (oj hn_gd (oj hn_g6 hn_g7))))) ?_
  refine aw_makeFunc (gs := [g6, g2, g7, g5]) rfl rfl rfl (zE (oj hn_g2 (oj hn_g4 (oj hn_g5 (oj hn_gd (oj hn_g6 hn_g7)))))) ?_
  refine yS (oj hn_g2 (oj hn_g4 (oj hn_g5 (oj hn_gd (oj hn_g6 hn_g7))))) ?_
  refine yG (oj hn_g2 (oj hn_g4 (oj hn_g5 (oj hn_gd (oj hn_g6 hn_g7))))) ?_
  refine yW (oj hn_g2 (oj hn_g4 (oj hn_g5 (oj hn_gd (oj hn_g6 hn_g7))))) ?_
  refine yS (oj hn_g2 (oj hn_g4 (oj hn_g5 (oj hn_gd (oj hn_g6 hn_g7))))) ?_
  refine yG (oj hn_g2 (oj hn_g4 (oj hn_g5 (oj hn_gd (oj hn_g6 hn_g7))))) ?_
  refine aw_callhv (hr := [(g4, .cells 98 3 (ofL [.nils, .nils, .int .i64 0]))]) (ewalk_fh (pl := pl) g6 g2 g7 g5 gd gT gU gM hs hn o (r.toNat + 1) r [] none [] (by omega) hr (ExOk.nil ns) (fun _ => rfl)) rfl rfl rfl (zE (oj hn_g2 (oj hn_g4 (oj hn_g5 (oj hn_gd (oj hn_g6 hn_g7)))))) ?hp (zL (oj hn_g2 (oj hn_g4 (oj hn_g5 (oj hn_gd (oj hn_g6 hn_g7)))))) ?_
  · have e : HX g6 g2 g7 g5 gd gT gU gM og o pl ns mm o [] none [] = X5 g6 g2 g7 g5 gd gT o [] none 0 ++ THp gT gU gM og o pl ns mm := List.append_nil _
    rw [e]
    refine ((permL [(g7, _), (g6, _), (gd, _), (g5, _), (g4, _), (g2, _)] [0, 1, 2, 3, 4, 5] [4, 1, 5, 0, 3, 2] (by decide)).append_right (THp gT gU gM og o pl ns mm)).trans ?_
    exact (List.perm_append_singleton (g4, _) (X5 g6 g2 g7 g5 gd gT o [] none 0 ++ THp gT gU gM og o pl ns mm)).symm
  rintro _ _ ⟨rs, oN, os, y, hex, hoN, rfl, rfl⟩ _
  unfold HX X5 THp TH
  simp only [List.cons_append, List.nil_append, List.append_assoc]
  refine yS (oj hn_g2 (oj hn_g4 (oj hn_g5 (oj hn_gd (oj hn_g6 hn_g7))))) ?_
  refine yG (oj hn_g2 (oj hn_g4 (oj hn_g5 (oj hn_gd (oj hn_g6 hn_g7))))) ?_
  refine yW (oj hn_g2 (oj hn_g4 (oj hn_g5 (oj hn_gd (oj hn_g6 hn_g7))))) ?_
  refine yS (oj hn_g2 (oj hn_g4 (oj hn_g5 (oj hn_gd (oj hn_g6 hn_g7))))) ?_
  refine aw_keep [(4, .c (.optr g4 0)), (5, .c (.optr g5 0))] ((g5, .cells 98 3 (ofL [is true o, gs oN 3 os.length, .int .i64 y])) :: ([(gT, .cells 164 5 (ofL [is true o, is true pl, gs og 3 ns.length, .raw (.map (some gU)), .raw (.map (some gM))])), (gU, .gen (MapI dkV (uqTo ns 0))), (gM, .gen (MapI key3 (mmL mm)))] ++ (gh og 132 (ns.length * 3) (dnsF ns) ++ (gh oN 132 (os.length * 3) (dnsF os) ++ [(g4, .cells 98 3 (ofL [.nils, .nils, .int .i64 0]))])))) (zB (oj hn_g2 (oj hn_g4 (oj hn_g5 (oj hn_gd (oj hn_g6 hn_g7)))))) (List.Sublist.cons _ (List.Sublist.cons _ (List.Sublist.cons _ (List.Sublist.cons_cons _ (List.Sublist.cons _ (List.Sublist.refl _)))))) ?_
  refine aw_perm (List.Perm.cons _ (perm_ex _ _ _ _)) ?_
  refine aw_nd fun hnd => ?_
  refine aw_frzG (j0 := 1) (og := oN) (s := 3) (n := os.length) (f' := ofL [is true o, dns true os, .int .i64 y]) rfl rfl (fun j hj hne => ?_) hoN (fun g e => ?_) ?_
  · match j, hj, hne with
    | 0, _, _ => rfl
    | 1, _, hne => exact absurd rfl hne
    | 2, _, _ => rfl
  · subst e
    intro hown
    have hm : g ∈ Heap.keys (THp gT gU gM og o pl ns mm) := (hC g).1 hown
    have h1 : (g5 :: g :: g4 :: Heap.keys (THp gT gU gM og o pl ns mm)).Nodup := hnd
    exact (List.nodup_cons.1 (List.nodup_cons.1 h1).2).1 (List.mem_cons_of_mem _ hm)
  clear hnd
  simp only [List.cons_append, List.nil_append]
  refine yS (oj hn_g2 (oj hn_g4 (oj hn_g5 (oj hn_gd (oj hn_g6 hn_g7))))) ?_
  refine yG (oj hn_g2 (oj hn_g4 (oj hn_g5 (oj hn_gd (oj hn_g6 hn_g7))))) ?_
  refine yW (oj hn_g2 (oj hn_g4 (oj hn_g5 (oj hn_gd (oj hn_g6 hn_g7))))) ?_
  refine yS (oj hn_g2 (oj hn_g4 (oj hn_g5 (oj hn_gd (oj hn_g6 hn_g7))))) ?_
  refine yG (oj hn_g2 (oj hn_g4 (oj hn_g5 (oj hn_gd (oj hn_g6 hn_g7))))) ?_
  refine aw_keep [(4, .c (.optr g4 0))] ((g4, .cells 98 3 (ofL (dgc true ⟨o, os, y⟩))) :: THp gT gU gM og o pl ns mm) (zB (oj hn_g2 (oj hn_g4 (oj hn_g5 (oj hn_gd (oj hn_g6 hn_g7)))))) (List.Sublist.cons _ (List.Sublist.refl _)) ?_
  refine aw_rethw (h' := THp gT gU gM og o pl ns mm) rfl (List.Sublist.cons _ (List.Sublist.refl _)) (fun R hR => ?_)
  simp only [go_sem, hn_g2, hn_g4, hn_g5, hn_gd, hn_g6, hn_g7]
  refine hR _ rfl ?_
  clear hR R
  exact ⟨rs, os, y, hex, rfl, rfl⟩
end Go.Proofs.YtmfmnmkipjpjhaaGreatDoor

/- decision.Table: Translate. Lists of ints compared. -/
namespace Go.Proofs.YtmfmnmkipjpjhaaGreatDoor
open Go.AI Go.PN
attribute [local irreducible] aw Fa Fh DrK
/-- How far Translate has come: rs are the references of the diagram's references below k + 2. -/
structure TrOk (d : DG) (ns : List DN) (rs : List Int) (k : Nat) : Prop where
  ref : ∀ r : Nat, r < k + 2 → RefOk ns (rs.getD r 0) ∧ ∀ s, evalD ns s (rs.getD r 0) = evalD d.nodes s r
end Go.Proofs.YtmfmnmkipjpjhaaGreatDoor

/- faultlineref16.Check, algebra.open. -/
namespace Go.AI
/-- Lists of diagrams. -/
def dgZ : DG := ⟨[], [], 0⟩
def dgsF (ds : List DG) : Nat → CV := lf 3 (fun d : DG => [is false d.order, dns false d.nodes, CV.int .i64 d.root]) dgZ ds
@[go_sem] theorem dgsF_0 (ps : List DG) (i : Nat) : dgsF ps (i * 3) = is false (ps.getD i dgZ).order := by
  have := lf_at (s := 3) (c := fun d : DG => [is false d.order, dns false d.nodes, CV.int .i64 d.root]) (d := dgZ) (xs := ps) (i := i) (k := 0) (by omega)
  exact this
@[go_sem] theorem dgsF_1 (ps : List DG) (i : Nat) : dgsF ps (i * 3 + 1) = dns false (ps.getD i dgZ).nodes := by
  have := lf_at (s := 3) (c := fun d : DG => [is false d.order, dns false d.nodes, CV.int .i64 d.root]) (d := dgZ) (xs := ps) (i := i) (k := 1) (by omega)
  exact this
@[go_sem] theorem dgsF_2 (ps : List DG) (i : Nat) : dgsF ps (i * 3 + 2) = .int .i64 (ps.getD i dgZ).root := by
  have := lf_at (s := 3) (c := fun d : DG => [is false d.order, dns false d.nodes, CV.int .i64 d.root]) (d := dgZ) (xs := ps) (i := i) (k := 2) (by omega)
  exact this
@[go_sem] theorem dgsF_00 (ps : List DG) : dgsF ps 0 = is false (ps.getD 0 dgZ).order := dgsF_0 ps 0
end Go.AI
namespace Go.PN
open Go.AI
instance c16dec (ds : List DG) : Decidable (∀ j, j < ds.length → (ds.getD j dgZ).order = (ds.getD 0 dgZ).order) := Nat.decidableBallLT _ _
/-- References of the diagrams of a list. -/
structure OpS (ds : List DG) (k : Nat) (ns : List DN) (rl : List Int) : Prop where
  len : rl.length = k
  ref : ∀ j, j < k → RefOk ns (rl.getD j 0) ∧ ∀ s, evalD ns s (rl.getD j 0) = evalD (ds.getD j dgZ).nodes s (ds.getD j dgZ).root
theorem OpS.push {ds : List DG} {k : Nat} {o : List Int} {ns ns' : List DN} {m : Nat} {rl : List Int} {x : Int} (h : OpS ds k ns rl) (ht : TabOk o ns) (hl : Later o ns ns' m) (hx : RefOk ns' x) (he : ∀ s, evalD ns' s x = evalD (ds.getD k dgZ).nodes s (ds.getD k dgZ).root) : OpS ds (k + 1) ns' (rl ++ [x]) := by
  have hlen := h.len
  refine ⟨by simp [h.len], fun j hj => ?_⟩
  by_cases e : j = k
  · have e1 : (rl ++ [x]).getD j 0 = x := by
      rw [List.getD_eq_getElem?_getD, List.getElem?_append_right (by omega), show j - rl.length = 0 from by omega]; rfl
    rw [e1, e]
    exact ⟨hx, he⟩
  · obtain ⟨a, b⟩ := h.ref j (by omega)
    have e1 : (rl ++ [x]).getD j 0 = rl.getD j 0 := by
      rw [List.getD_eq_getElem?_getD, List.getElem?_append_left (by omega), ← List.getD_eq_getElem?_getD]
    rw [e1]
    exact ⟨hl.ref a, fun s => by rw [hl.eval ht a]; exact b s⟩
end Go.PN
namespace Go.Proofs.YtmfmnmkipjpjhaaGreatDoor
open Go.AI Go.PN
attribute [local irreducible] aw Fa Fh DrK
end Go.Proofs.YtmfmnmkipjpjhaaGreatDoor

/- cube: Weight. -/
namespace Go.Proofs.YtmfmnmkipjpjhaaGreatDoor
open Go.AI Go.PN
attribute [local irreducible] aw Fa Fh DrK
end Go.Proofs.YtmfmnmkipjpjhaaGreatDoor

/- shannon.Given. -/
namespace Go.PN
open Go.AI
end Go.PN
namespace Go.Proofs.YtmfmnmkipjpjhaaGreatDoor
open Go.AI Go.PN
attribute [local irreducible] aw Fa Fh DrK
end Go.Proofs.YtmfmnmkipjpjhaaGreatDoor

/- faultlineref15.add, a level more. -/
namespace Go.Proofs.YtmfmnmkipjpjhaaGreatDoor
open Go.AI Go.PN
attribute [local irreducible] aw Fa Fh DrK
end Go.Proofs.YtmfmnmkipjpjhaaGreatDoor

/- The chapter's example: two of three events; what the laws' first calls come to, reckoned. -/
namespace Go.PN
open Go.AI
def wtQ (y n : Nat) (qs : List Rat) : Nat → Rat
  | 0 => 1
  | k + 1 => wtQ y n qs k * wfac y n k (qs.getD k 0)
def smQ (qs : List Rat) (tb : List Bool) : Nat → Rat
  | 0 => 0
  | k + 1 => if tb.getD k false then smQ qs tb k + wtQ k (2 ^ qs.length - 1 - k) qs qs.length else smQ qs tb k
theorem rd0_rd : rd0 = rd 0 := rd_zero.symm
theorem map_rd_q (qs : List Rat) (k : Nat) : ((qs.map rd).getD k rd0).q = qs.getD k 0 := by
  rw [List.getD_eq_getElem?_getD, List.getD_eq_getElem?_getD, List.getElem?_map]
  cases qs[k]? with
  | none => show rd0.q = 0; rw [rd0_rd, rd_q]
  | some x => exact rd_q x
theorem wtTo_rd (y n : Nat) (qs : List Rat) : ∀ k, wtTo y n (qs.map rd) k = wtQ y n qs k
  | 0 => rfl
  | k + 1 => by rw [wtTo, wtQ, wtTo_rd y n qs k, map_rd_q]
theorem sumQ_rd (qs : List Rat) (tb : List Bool) : ∀ k, sumQ (qs.map rd) tb k = smQ qs tb k
  | 0 => rfl
  | k + 1 => by rw [sumQ, smQ, sumQ_rd qs tb k, stQ, List.length_map, wtTo_rd]
end Go.PN

/- faultlineref15: Of, Build; faultlinelaw37: example, awake. -/
namespace Go.AI
section
variable {E : Env} {K : List It} {σ : Sl} {h : Heap}
theorem Sl.set_set (t : Nat) (u v : AV) : ∀ σ : Sl, (σ.set t u).set t v = σ.set t v
  | [] => by simp [Sl.set]
  | (t', x) :: σ => by
    simp only [Sl.set]
    by_cases e : t' = t
    · rw [if_pos e, if_pos e]; simp [Sl.set]
    · rw [if_neg e, if_neg e]; simp only [Sl.set, if_neg e]; rw [Sl.set_set t u v σ]
/-- A block of its own is given up, told otherwise. -/
theorem aw_frzT {t g s off n m : Nat} {ty : TypeId} {f : Nat → CV} (f' : Nat → CV) {σ' : Sl} {h' : Heap} (ht : σ.get t = .c (.osl g s off n)) (hg : h.get g = some (.cells ty m f)) (hm : off + n * s ≤ m) (hn : ¬ E.C.own0 g) (hf : ∀ j, j < n * s → f (off + j) = f' j) (hσ : σ.set t (.c (.row true s n f')) = σ') (hh : h.del g = h')
    (k : aw E K σ' h') : aw E K σ h := by
  refine aw_frz ht hg hm hn rfl hh ?_
  refine aw_conv (t := t) (v := .c (.row true s n f')) (σ' := σ') (fun S w u hr => ?_) ?_ k
  · rw [Sl.get_set, if_pos rfl] at hr
    obtain ⟨A, c, hv, hc, hn⟩ := hr
    refine ⟨A, c, hv, hc, fun h0 => ?_⟩
    obtain ⟨ad, hA, hS, hj⟩ := hn h0
    refine ⟨ad, hA, hS, fun j hjl => ?_⟩
    obtain ⟨u, hu, hru⟩ := hj j hjl
    exact ⟨u, hu, by rw [← hf j hjl]; exact hru⟩
  · rw [← hσ, Sl.set_set]
end
end Go.AI
namespace Go.Proofs.YtmfmnmkipjpjhaaGreatDoor
open Go.AI Go.PN
attribute [local irreducible] aw Fa Fh DrK
end Go.Proofs.YtmfmnmkipjpjhaaGreatDoor

/- algebra: result, Not, both, Or, And. -/
namespace Go.PN
open Go.AI
/-- A diagram that is handed out: without error, of this order and function. -/
structure DOut (o : List Int) (f : Nat → Bool) (D : DG) : Prop where
  order : D.order = o
  code : dcode D = 0
  ev : ∀ s, evalD D.nodes s D.root = f s
theorem dout_of {o : List Int} {ns : List DN} {rs : List Int} {os : List DN} {r x : Int} (ho : ocode o o.length = 0) (h12 : o.length ≤ 12) (hm : ∀ v : Int, 0 ≤ v → v < o.length → v ∈ o) (ht : TabOk o ns) (hr : RefOk ns r) (h : Ex o ns [] [] rs os r x) : DOut o (fun s => evalD ns s r) ⟨o, os, x⟩ := by
  refine ⟨rfl, ex_code ho ht hr h ?_, fun s => h.ok.eval ht s x.toNat r x (Nat.le_refl _) hr.1 hr.2 h.ref⟩
  have h0 := lv3_nonneg hm ht hr
  have hl := h.len
  have hp : 2 ^ ((o.length : Int) - lvZ o ns r).toNat ≤ 2 ^ 12 := Nat.pow_le_pow_right (by omega) (by omega)
  rw [h.ok.len]
  simp only [List.length_nil] at hl
  omega
end Go.PN
namespace Go.Proofs.YtmfmnmkipjpjhaaGreatDoor
open Go.AI Go.PN
attribute [local irreducible] aw Fa Fh DrK
end Go.Proofs.YtmfmnmkipjpjhaaGreatDoor

/- Tables of nodes: a function has one reference. No program in sight. -/
namespace Go.PN
open Go.AI
end Go.PN

/- The expectation is linear in each probability; the law of total probability. No program in sight. -/
namespace Go.PN
open Go.AI
theorem rd0_q : rd0.q = 0 := by
  have : rd0 = rd 0 := rd_zero.symm
  rw [this, rd_q]
end Go.PN

/- Importances: what they are. No program in sight. -/
namespace Go.Proofs.YtmfmnmkipjpjhaaGreatDoor
open Go.AI Go.PN
/-- The probability. -/
abbrev prS (d : DG) (p : List RD) : Rat := sumQ p (tabL d) (2 ^ p.length)
theorem Small.set {d : DG} {p : List RD} (hs : Small d p) (h : dpcode d p = 0) {i : Nat} {q : RD} (hq : q.wf 4) : Small d (p.set i q) :=
  ⟨fun r hr => by
    rcases List.mem_or_eq_of_mem_set hr with hr | rfl
    · exact hs.w r hr
    · exact hq, by rw [List.length_set]; exact hs.l, hs.o, hs.n, fun _ => hs.o6 h⟩
end Go.Proofs.YtmfmnmkipjpjhaaGreatDoor

/- Probabilities as means of what a diagram answers: sums, negations, bounds. No program in sight. -/
namespace Go.PN
open Go.AI
def evB (b : Bool) : Rat := if b then 1 else 0
end Go.PN
namespace Go.Proofs.YtmfmnmkipjpjhaaGreatDoor
open Go.AI Go.PN
theorem prS_ex {d : DG} {p : List RD} (h : d.order.length = p.length) : prS d p = exQ (prP p) p.length (fun s => evB (evalD d.nodes s d.root)) := by
  unfold prS
  rw [sumQ_ex]
  refine ex_congr _ _ _ fun s hs => ?_
  unfold evB tabL
  rw [List.getD_eq_getElem?_getD, h]
  simp [hs]
theorem prob_unit {r : RD} (h : r.prob = true) : 0 ≤ r.q ∧ r.q ≤ 1 := by
  unfold RD.prob at h
  simp only [Bool.and_eq_true, decide_eq_true_eq] at h
  exact ⟨by have := h; grind, by have := h; grind⟩
end Go.Proofs.YtmfmnmkipjpjhaaGreatDoor

/- faultlineref42: set, Change, one, Birnbaum, Joint, Critical. -/
namespace Go.Proofs.YtmfmnmkipjpjhaaGreatDoor
open Go.AI Go.PN
attribute [local irreducible] aw Fa Fh DrK
end Go.Proofs.YtmfmnmkipjpjhaaGreatDoor

/- Importances of monotone functions and of negations. No program in sight. -/
namespace Go.PN
open Go.AI
end Go.PN
namespace Go.Proofs.YtmfmnmkipjpjhaaGreatDoor
open Go.AI Go.PN
end Go.Proofs.YtmfmnmkipjpjhaaGreatDoor

/- order.Natural, cuts.natural, cuts.Monotone. -/
namespace Go.PN
open Go.AI
end Go.PN
namespace Go.Proofs.YtmfmnmkipjpjhaaGreatDoor
open Go.AI Go.PN
attribute [local irreducible] aw Fa Fh DrK
end Go.Proofs.YtmfmnmkipjpjhaaGreatDoor

/- formula.Trim. -/
namespace Go.PN
open Go.AI
/-- The new places, as far as they are known. -/
structure ToOk (f : FM) (tl : List Int) (k : Nat) : Prop where
  len : tl.length = f.vars.toNat + f.nodes.length
  at' : ∀ a : Int, 0 ≤ a → a < f.vars + k → (belL f).getD a.toNat false = true → tl.getD a.toNat 0 = toR f a
end Go.PN
namespace Go.Proofs.YtmfmnmkipjpjhaaGreatDoor
open Go.AI Go.PN
theorem toOk_set {f : FM} (v0 : 0 ≤ f.vars) {tl : List Int} {k : Nat} (hk : k < f.nodes.length) (h : ToOk f tl k) : ToOk f (tl.set (f.vars.toNat + k) (f.vars + szTo f k)) (k + 1) := by
  have hl := h.len
  refine ⟨by rw [List.length_set]; exact hl, fun a a0 a1 hm => ?_⟩
  by_cases e : a = f.vars + k
  · subst e
    rw [show (f.vars + (k : Int)).toNat = f.vars.toNat + k from by omega, getZset (by omega)]
    unfold toR
    rw [if_neg (by omega), show (f.vars + (k : Int) - f.vars).toNat = k from by omega]
  · rw [getZset' (by omega)]
    exact h.at' a a0 (by omega) hm
theorem toOk_skip {f : FM} (v0 : 0 ≤ f.vars) {tl : List Int} {k : Nat} (h : ToOk f tl k) (hm : (belL f).getD (f.vars.toNat + k) false = false) : ToOk f tl (k + 1) := by
  refine ⟨h.len, fun a a0 a1 ha => ?_⟩
  by_cases e : a = f.vars + k
  · subst e
    rw [show (f.vars + (k : Int)).toNat = f.vars.toNat + k from by omega, hm] at ha
    cases ha
  · exact h.at' a a0 (by omega) ha
attribute [local irreducible] aw Fa Fh DrK
set_option maxRecDepth 100000 in
set_option maxHeartbeats 6400000 in
theorem ftrim_fh (f : FM) (hn : f.nodes.length ≤ 1099511627776) (ha : ArgsOk f) (hc : fcode f = 0) : Fh Tryz.prog 54 [] [.agg (fmc false f)] (fun x h => h = [] ∧ x = .tup [.agg (fmc true (trimF f)), .c .nilI]) := by
  have ok := fr_ok hc
  have v0 := ok.v0
  have v24 := ok.v24
  have n128 := ok.n128
  have t0 := ok.t0
  have t1 := ok.t1
  have z := ieq_t hc
  have hbl : (belL f).length = f.vars.toNat + f.nodes.length := belTo_len f f.nodes.length
  have htop := bel_top ok f.nodes.length
  refine fh_of_body Tryz.func54 rfl rfl (by simp [Tryz.ntmps54]) fun C hC => ?_
  simp only [initS, Nat.reduceAdd]
  refine yG z ?_
  refine yB z fun g1 hn_g1=>?_
  refine yG (oj z hn_g1) ?_
  refine yA (oj z hn_g1) fun g2 hn_g2=>?_
  refine yG (oj z (oj hn_g1 hn_g2)) ?_
  refine aw_callq (fcheck_fa f hn ha (by omega) (by omega)) rfl rfl rfl (zL (oj z (oj hn_g1 hn_g2))) ?_
  refine yS (oj z (oj hn_g1 hn_g2)) ?_
  refine yG (oj z (oj hn_g1 hn_g2)) ?_
  refine yN (oj z (oj hn_g1 hn_g2)) ?_
  refine yG (oj z (oj hn_g1 hn_g2)) ?_
  refine yA (oj z (oj hn_g1 hn_g2)) fun g5 hn_g5=>?_
  refine yG (oj z (oj hn_g1 (oj hn_g2 hn_g5))) ?_
  refine yW (oj z (oj hn_g1 (oj hn_g2 hn_g5))) ?_
  refine yS (oj z (oj hn_g1 (oj hn_g2 hn_g5))) ?_
  refine yG (oj z (oj hn_g1 (oj hn_g2 hn_g5))) ?_
  refine aw_make (n := f.vars.toNat + f.nodes.length) (c := f.vars.toNat + f.nodes.length) (size := 1) (bytes := 8) (z := [.int .i64 0]) rfl rfl rfl (zE (oj z (oj hn_g1 (oj hn_g2 hn_g5)))) (zE (oj z (oj hn_g1 (oj hn_g2 hn_g5)))) rfl (by omega) (zE (oj z (oj hn_g1 (oj hn_g2 hn_g5)))) (zE (oj z (oj hn_g1 (oj hn_g2 hn_g5)))) (by omega) (by omega) (by omega) (by omega) (by omega) fun g6 hn_g6 => ?_
  simp only [Nat.mul_one]
  rw [make_is]
  replace hn_g6 := Heap.ne_of hn_g6
  dsimp only [Heap.ne] at hn_g6
  refine yS (oj z (oj hn_g1 (oj hn_g2 (oj hn_g5 hn_g6)))) ?_
  refine yG (oj z (oj hn_g1 (oj hn_g2 (oj hn_g5 hn_g6)))) ?_
  obtain ⟨V, hV⟩ : ∃ V : Nat, f.vars = V := ⟨f.vars.toNat, by omega⟩
  have hVt : f.vars.toNat = V := by omega
  refine aw_lp (fun x : Nat × List Int => [(1, .c (.optr g1 0)), (2, .c (.optr g2 0)), (5, .c (.optr g5 0)), (6, .c (.osl g6 1 0 (f.vars.toNat + f.nodes.length))), (31, .c (.int .i64 f.vars)), (32, .c (.int .i64 x.1))]) (fun x => [(g6, .cells 3 (f.vars.toNat + f.nodes.length) (isF x.2)), (g5, .cells 24 3 (ofL [.int .i64 f.vars, .nils, .int .i64 0])), (g2, .cells 24 3 (ofL [.int .i64 0, .nils, .int .i64 0])), (g1, .cells 24 3 (ofL (fmc false f)))]) (fun x => x.1 ≤ V ∧ x.2.length = f.vars.toNat + f.nodes.length ∧ ∀ q : Nat, q < x.1 → x.2.getD q 0 = q) (fun x => V - x.1) (0, List.replicate (f.vars.toNat + f.nodes.length) 0) (zB (oj z (oj hn_g1 (oj hn_g2 (oj hn_g5 hn_g6))))) zZ ⟨Nat.zero_le _, by simp, fun q hq => by omega⟩ ?_
  rintro ⟨i, zs⟩ ⟨hi, hzl, hz⟩
  dsimp only at hi hzl hz ⊢
  refine yG (oj z (oj hn_g1 (oj hn_g2 (oj hn_g5 hn_g6)))) ?_
  refine yF (oj z (oj hn_g1 (oj hn_g2 (oj hn_g5 hn_g6)))) (fun hb1=>?_) fun hb1=>?_
  · have hin : i < V := by have := of_decide_eq_true hb1; omega
    refine yG (oj z (oj hn_g1 (oj hn_g2 (oj hn_g5 hn_g6)))) ?_
    refine yW (oj z (oj hn_g1 (oj hn_g2 (oj hn_g5 hn_g6)))) ?_
    refine yS (oj z (oj hn_g1 (oj hn_g2 (oj hn_g5 hn_g6)))) ?_
    rw [updF_is (by omega)]
    refine yG (oj z (oj hn_g1 (oj hn_g2 (oj hn_g5 hn_g6)))) ?_
    refine aw_stop ⟨(i + 1, zs.set i i), by dsimp only; omega, (zB (oj z (oj hn_g1 (oj hn_g2 (oj hn_g5 hn_g6))))), zZ, by dsimp only; omega, by simpa using hzl, fun k hk => ?_⟩
    dsimp only at hk ⊢
    by_cases hki : k = i
    · subst hki; exact getZset (by omega)
    · rw [getZset' hki]; exact hz k (by omega)
  have hin : i = V := by have := of_decide_eq_false hb1; omega
  subst hin
  have to0 : ToOk f zs 0 := ⟨hzl, fun a a0 a1 _ => by
    have := hz a.toNat (by omega)
    rw [this]
    unfold toR
    rw [if_pos (by omega)]; omega⟩
  clear hz hb1
  refine yG (oj z (oj hn_g1 (oj hn_g2 (oj hn_g5 hn_g6)))) ?_
  refine aw_dr 7 ty_mixed (by kernel_rfl) ?_
  refine yG (oj z (oj hn_g1 (oj hn_g2 (oj hn_g5 hn_g6)))) ?_
  refine yD (oj z (oj hn_g1 (oj hn_g2 (oj hn_g5 hn_g6)))) (below_fa f ok) ?_
  refine yG (oj z (oj hn_g1 (oj hn_g2 (oj hn_g5 hn_g6)))) ?_
  rw [show (belL f).length - f.vars.toNat = f.nodes.length from by omega]
  refine aw_lp (fun x : Nat × Option Nat × List Int => [(1, .c (.optr g1 0)), (2, .c (.optr g2 0)), (5, .c (.optr g5 0)), (6, .c (.osl g6 1 0 (f.vars.toNat + f.nodes.length))), (44, .c (.row true 1 f.nodes.length fun j => .bool ((belL f).getD (f.vars.toNat + j) false))), (45, .c (.int .i64 f.nodes.length)), (46, .c (.int .i64 x.1))])
    (fun x => [(g6, .cells 3 (f.vars.toNat + f.nodes.length) (isF x.2.2)), (g5, .cells 24 3 (ofL [.int .i64 f.vars, gs x.2.1 3 (szTo f x.1), .int .i64 0])), (g2, .cells 24 3 (ofL [.int .i64 0, .nils, .int .i64 0])), (g1, .cells 24 3 (ofL (fmc false f)))] ++ gh x.2.1 72 (szTo f x.1 * 3) (fnsF (trTo f x.1)))
    (fun x => x.1 ≤ f.nodes.length ∧ (x.2.1 = none → szTo f x.1 = 0) ∧ ToOk f x.2.2 x.1) (fun x => f.nodes.length - x.1) (0, none, zs) (zB (oj z (oj hn_g1 (oj hn_g2 (oj hn_g5 hn_g6))))) (by simp only [gh, List.append_nil]; exact List.Sublist.refl _) ⟨Nat.zero_le _, fun _ => rfl, to0⟩ ?_
  clear hzl to0
  rintro ⟨k, oN, tl⟩ ⟨hk, hoN, hto⟩
  dsimp only at hk hoN hto ⊢
  have htl := hto.len
  have hsz := szTo_le f k
  simp only [List.cons_append, List.nil_append]
  refine yG (oj z (oj hn_g1 (oj hn_g2 (oj hn_g5 hn_g6)))) ?_
  refine yF (oj z (oj hn_g1 (oj hn_g2 (oj hn_g5 hn_g6)))) (fun h1=>?_) fun h1=>?_
  · have h1' : k < f.nodes.length := by have := of_decide_eq_true h1; omega
    have hln := ok.len h1'
    have hs1 : szTo f (k + 1) = szTo f k + if (belL f).getD (f.vars.toNat + k) false then 1 else 0 := rfl
    have hr1 : trTo f (k + 1) = if (belL f).getD (f.vars.toNat + k) false then trTo f k ++ [⟨(f.nodes.getD k fn0).kind, (f.nodes.getD k fn0).k, (f.nodes.getD k fn0).args.map (toR f)⟩] else trTo f k := rfl
    refine yG (oj z (oj hn_g1 (oj hn_g2 (oj hn_g5 hn_g6)))) ?_
    refine yF (oj z (oj hn_g1 (oj hn_g2 (oj hn_g5 hn_g6)))) (fun hm=>?_) fun hm=>?_
    · have hm' : (belL f).getD (f.vars.toNat + k) false = false := by simpa using hm
      rw [if_neg (by rw [hm']; simp)] at hs1 hr1
      refine yG (oj z (oj hn_g1 (oj hn_g2 (oj hn_g5 hn_g6)))) ?_
      refine aw_stop ⟨(k + 1, oN, tl), by dsimp only; omega, (zB (oj z (oj hn_g1 (oj hn_g2 (oj hn_g5 hn_g6))))), ?_, by dsimp only; omega, by dsimp only; rw [hs1]; exact hoN, toOk_skip v0 hto hm'⟩
      dsimp only
      rw [hs1, hr1]
      exact List.Sublist.refl _
    have hm' : (belL f).getD (f.vars.toNat + k) false = true := by simpa using hm
    rw [if_pos hm'] at hs1 hr1
    have hargs : ∀ j, j < (f.nodes.getD k fn0).args.length → 0 ≤ (f.nodes.getD k fn0).args.getD j 0 ∧ (f.nodes.getD k fn0).args.getD j 0 < f.vars + k ∧ tl.getD ((f.nodes.getD k fn0).args.getD j 0).toNat 0 = toR f ((f.nodes.getD k fn0).args.getD j 0) := fun j hj => by
      obtain ⟨a0, a1⟩ := ok.at h1' hj
      refine ⟨a0, a1, hto.at' _ a0 a1 (bel_arg ok h1' hm' ?_)⟩
      rw [getDZ hj]; exact List.getElem_mem hj
    refine yG (oj z (oj hn_g1 (oj hn_g2 (oj hn_g5 hn_g6)))) ?_
    generalize hx : f.nodes.getD k fn0 = x at *
    refine yA (oj z (oj hn_g1 (oj hn_g2 (oj hn_g5 (oj hn_g6 hx))))) fun g10 hn_g10=>?_
    refine yG (oj z (oj hn_g1 (oj hn_g2 (oj hn_g5 (oj hn_g6 (oj hx hn_g10)))))) ?_
    refine yW (oj z (oj hn_g1 (oj hn_g2 (oj hn_g5 (oj hn_g6 (oj hx hn_g10)))))) ?_
    refine yS (oj z (oj hn_g1 (oj hn_g2 (oj hn_g5 (oj hn_g6 (oj hx hn_g10)))))) ?_
    refine yG (oj z (oj hn_g1 (oj hn_g2 (oj hn_g5 (oj hn_g6 (oj hx hn_g10)))))) ?_
    refine yA (oj z (oj hn_g1 (oj hn_g2 (oj hn_g5 (oj hn_g6 (oj hx hn_g10)))))) fun g11 hn_g11=>?_
    refine yG (oj z (oj hn_g1 (oj hn_g2 (oj hn_g5 (oj hn_g6 (oj hx (oj hn_g10 hn_g11))))))) ?_
    refine yW (oj z (oj hn_g1 (oj hn_g2 (oj hn_g5 (oj hn_g6 (oj hx (oj hn_g10 hn_g11))))))) ?_
    refine yS (oj z (oj hn_g1 (oj hn_g2 (oj hn_g5 (oj hn_g6 (oj hx (oj hn_g10 hn_g11))))))) ?_
    refine yG (oj z (oj hn_g1 (oj hn_g2 (oj hn_g5 (oj hn_g6 (oj hx (oj hn_g10 hn_g11))))))) ?_
    refine aw_lp (fun y : Nat × Option Nat => [(1, .c (.optr g1 0)), (2, .c (.optr g2 0)), (5, .c (.optr g5 0)), (6, .c (.osl g6 1 0 (f.vars.toNat + f.nodes.length))), (44, .c (.row true 1 f.nodes.length fun j => .bool ((belL f).getD (f.vars.toNat + j) false))), (45, .c (.int .i64 f.nodes.length)), (46, .c (.int .i64 k)), (8, .c (.int .i64 k)), (11, .c (.optr g11 0)), (64, .c (is true x.args)), (65, .c (.int .i64 x.args.length)), (66, .c (.int .i64 y.1))])
      (fun y => ((g11, .cells 72 3 (ofL [.int .i64 x.kind, .int .i64 x.k, gs y.2 1 y.1])) :: (g6, .cells 3 (f.vars.toNat + f.nodes.length) (isF tl)) :: (g5, .cells 24 3 (ofL [.int .i64 f.vars, gs oN 3 (szTo f k), .int .i64 0])) :: (g2, .cells 24 3 (ofL [.int .i64 0, .nils, .int .i64 0])) :: (g1, .cells 24 3 (ofL (fmc false f))) :: gh oN 72 (szTo f k * 3) (fnsF (trTo f k))) ++ gh y.2 3 y.1 (isF ((x.args.take y.1).map (toR f))))
      (fun y => y.1 ≤ x.args.length ∧ (y.2 = none → y.1 = 0)) (fun y => x.args.length - y.1) (0, none) (zB (oj z (oj hn_g1 (oj hn_g2 (oj hn_g5 (oj hn_g6 (oj hx (oj hn_g10 hn_g11)))))))) (by
        simp only [gh, gs, List.append_nil]
        exact List.Sublist.cons_cons _ (List.Sublist.cons _ (List.Sublist.refl _))) ⟨Nat.zero_le _, fun _ => rfl⟩ ?_
    rintro ⟨j, oa⟩ ⟨hj, hoa⟩
    dsimp only at hj hoa ⊢
    simp only [List.cons_append]
    refine yG (oj z (oj hn_g1 (oj hn_g2 (oj hn_g5 (oj hn_g6 (oj hx (oj hn_g10 hn_g11))))))) ?_
    refine yF (oj z (oj hn_g1 (oj hn_g2 (oj hn_g5 (oj hn_g6 (oj hx (oj hn_g10 hn_g11))))))) (fun h2=>?_) fun h2=>?_
    · have h2' : j < x.args.length := by have := of_decide_eq_true h2; omega
      obtain ⟨a0, a1, a2⟩ := hargs j h2'
      obtain ⟨i2, hi2⟩ := Int.eq_ofNat_of_zero_le a0
      rw [hi2] at a1
      have a2' := a2
      rw [hi2, Int.toNat_natCast] at a2'
      have htk : x.args.take (j + 1) = x.args.take j ++ [x.args.getD j 0] := by rw [getDZ h2', List.take_succ_eq_append_getElem h2']
      have hlk : ((x.args.take j).map (toR f)).length = j := by rw [List.length_map, List.length_take]; omega
      refine yG (oj z (oj hn_g1 (oj hn_g2 (oj hn_g5 (oj hn_g6 (oj hx (oj hn_g10 (oj hn_g11 hi2)))))))) ?_
      refine aw_drB 7 ty_mixed (by kernel_rfl) ?_
      repeat first | (refine drb_2q true rfl (fun R hR => ?_); simp only [go_sem, z, hn_g1, hn_g2, hn_g5, hn_g6, hx, hn_g10, hn_g11, hi2]; (with_reducible refine hR _ _ ?_ ?_); (focus (((try simp only [inRange]) <;> and_intros <;> first | exact True.intro | omega | trivial); done)); clear hR R) | fail
      refine drb_new rfl (NewX.buildSlice (xs := [.tmp 75]) (cells := [.int .i64 (tl.getD i2 0)]) rfl rfl rfl (zE (oj z (oj hn_g1 (oj hn_g2 (oj hn_g5 (oj hn_g6 (oj hx (oj hn_g10 (oj hn_g11 hi2))))))))) (by refine yS (oj z (oj hn_g1 (oj hn_g2 (oj hn_g5 (oj hn_g6 (oj hx (oj hn_g10 (oj hn_g11 hi2)))))))) ?_; rfl) rfl (by omega) (by omega) (by intro x hx; simp only [List.mem_singleton] at hx; subst hx; exact ⟨rfl, rfl, rfl⟩) rfl (by simp [Op.operands])) (by kernel_rfl) ?_
      refine yS (oj z (oj hn_g1 (oj hn_g2 (oj hn_g5 (oj hn_g6 (oj hx (oj hn_g10 (oj hn_g11 hi2)))))))) ?_
      refine drb_nil fun γ => ?_
      refine yS (oj z (oj hn_g1 (oj hn_g2 (oj hn_g5 (oj hn_g6 (oj hx (oj hn_g10 (oj hn_g11 hi2)))))))) ?_
      rw [a2']
      generalize γ 6 = gt
      refine aw_push2 (e := 3) (size := 1) (bytes := 8) (n := j) (z := [.int .i64 0]) (og := oa) (f := isF ((x.args.take j).map (toR f))) (pre := (g11, .cells 72 3 (ofL [.int .i64 x.kind, .int .i64 x.k, gs oa 1 j])) :: (g6, .cells 3 (f.vars.toNat + f.nodes.length) (isF tl)) :: (g5, .cells 24 3 (ofL [.int .i64 f.vars, gs oN 3 (szTo f k), .int .i64 0])) :: (g2, .cells 24 3 (ofL [.int .i64 0, .nils, .int .i64 0])) :: (g1, .cells 24 3 (ofL (fmc false f))) :: gh oN 72 (szTo f k * 3) (fnsF (trTo f k))) (f' := isF ((x.args.take (j + 1)).map (toR f))) (v := .c (.int .i64 (toR f i2))) rfl rfl rfl (zE (oj z (oj hn_g1 (oj hn_g2 (oj hn_g5 (oj hn_g6 (oj hx (oj hn_g10 (oj hn_g11 hi2))))))))) (zE (oj z (oj hn_g1 (oj hn_g2 (oj hn_g5 (oj hn_g6 (oj hx (oj hn_g10 (oj hn_g11 hi2))))))))) rfl (by omega) (by omega) (zE (oj z (oj hn_g1 (oj hn_g2 (oj hn_g5 (oj hn_g6 (oj hx (oj hn_g10 (oj hn_g11 hi2))))))))) (zE (oj z (oj hn_g1 (oj hn_g2 (oj hn_g5 (oj hn_g6 (oj hx (oj hn_g10 (oj hn_g11 hi2))))))))) hoa (by rfl) (by rfl) (by simp only [Nat.mul_one, List.cons_append]; rfl) (by unfold maxLen; omega) (by omega) (by rw [htk, List.map_append, hi2]; exact is_push hlk _) fun g hn_g => ?_
      refine yS (oj z (oj hn_g1 (oj hn_g2 (oj hn_g5 (oj hn_g6 (oj hx (oj hn_g10 (oj hn_g11 hi2)))))))) ?_
      try simp only [List.cons_append, Nat.mul_one]
      refine yH (oj z (oj hn_g1 (oj hn_g2 (oj hn_g5 (oj hn_g6 (oj hx (oj hn_g10 (oj hn_g11 hi2)))))))) ?_
      refine yW (oj z (oj hn_g1 (oj hn_g2 (oj hn_g5 (oj hn_g6 (oj hx (oj hn_g10 (oj hn_g11 hi2)))))))) ?_
      refine yS (oj z (oj hn_g1 (oj hn_g2 (oj hn_g5 (oj hn_g6 (oj hx (oj hn_g10 (oj hn_g11 hi2)))))))) ?_
      refine yG (oj z (oj hn_g1 (oj hn_g2 (oj hn_g5 (oj hn_g6 (oj hx (oj hn_g10 (oj hn_g11 hi2)))))))) ?_
      refine aw_stop ⟨(j + 1, some g), by dsimp only; omega, (zB (oj z (oj hn_g1 (oj hn_g2 (oj hn_g5 (oj hn_g6 (oj hx (oj hn_g10 (oj hn_g11 hi2))))))))), ?_, by dsimp only; omega, fun e => by cases e⟩
      exact List.Sublist.refl _
    · have h2' : j = x.args.length := by have := of_decide_eq_false h2; omega
      subst h2'
      rw [List.take_length]
      refine aw_perm (h' := (g11, .cells 72 3 (ofL [.int .i64 x.kind, .int .i64 x.k, gs oa 1 x.args.length])) :: (gh oa 3 (x.args.length * 1) (isF (x.args.map (toR f))) ++ ((g6, .cells 3 (f.vars.toNat + f.nodes.length) (isF tl)) :: (g5, .cells 24 3 (ofL [.int .i64 f.vars, gs oN 3 (szTo f k), .int .i64 0])) :: (g2, .cells 24 3 (ofL [.int .i64 0, .nils, .int .i64 0])) :: (g1, .cells 24 3 (ofL (fmc false f))) :: gh oN 72 (szTo f k * 3) (fnsF (trTo f k))))) (by
        rw [Nat.mul_one]
        exact List.Perm.cons _ (List.perm_append_comm (l₁ := (g6, .cells 3 (f.vars.toNat + f.nodes.length) (isF tl)) :: (g5, .cells 24 3 (ofL [.int .i64 f.vars, gs oN 3 (szTo f k), .int .i64 0])) :: (g2, .cells 24 3 (ofL [.int .i64 0, .nils, .int .i64 0])) :: (g1, .cells 24 3 (ofL (fmc false f))) :: gh oN 72 (szTo f k * 3) (fnsF (trTo f k))))) ?_
      refine aw_frzG (j0 := 2) (og := oa) (s := 1) (n := x.args.length) (f' := ofL [.int .i64 x.kind, .int .i64 x.k, is true (x.args.map (toR f))]) rfl (by show CV.row true 1 (x.args.map (toR f)).length _ = _; rw [List.length_map]) (fun j hj hne => ?_) hoa (fun g e => ?_) ?_
      · match j, hj, hne with
        | 0, _, _ => rfl
        | 1, _, _ => rfl
        | 2, _, hne => exact absurd rfl hne
      · exact fun h => by have := (hC g).1 h; simp [Heap.keys] at this
      have hvk : f.vars + (k : Int) = ((i + k : Nat) : Int) := by omega
      have hlen := lenCV_gs (s := 3) hoN
      repeat first|apply wa1|apply wa2|apply wa3|apply wa4|apply wa5 rfl|apply wa6|apply wa7|(refine wb1 rfl fun R r=>?_;simp only[go_sem, z, hn_g1, hn_g2, hn_g5, hn_g6, hx, hn_g10, hn_g11, hvk, ↓hlen];with_reducible refine r _ _ ?_;clear r R)
      refine aw_store rfl rfl rfl rfl (by simp only[go_sem, z, hn_g1, hn_g2, hn_g5, hn_g6, hx, hn_g10, hn_g11, hvk, ↓hlen]<;>rfl) (by simp only[go_sem, z, hn_g1, hn_g2, hn_g5, hn_g6, hx, hn_g10, hn_g11, hvk, ↓hlen]<;>rfl) (by simp only[go_sem, z, hn_g1, hn_g2, hn_g5, hn_g6, hx, hn_g10, hn_g11, hvk, ↓hlen]<;>rfl) (by simp only[go_sem, z, hn_g1, hn_g2, hn_g5, hn_g6, hx, hn_g10, hn_g11, hvk, ↓hlen]<;>rfl) (fun _ e => by cases e) (by first | rfl | exact solid_gs3) (by rfl) (by first|omega|simp) rfl ?_
      (try simp only[go_sem, z, hn_g1, hn_g2, hn_g5, hn_g6, hx, hn_g10, hn_g11, hvk, ↓hlen])
      rw [updF_is (by omega)]
      repeat first|apply wa1|apply wa2|apply wa3|apply wa4|apply wa5 rfl|apply wa6|apply wa7|(refine wb1 rfl fun R r=>?_;simp only[go_sem, z, hn_g1, hn_g2, hn_g5, hn_g6, hx, hn_g10, hn_g11, hvk, ↓hlen];with_reducible refine r _ _ ?_;clear r R)
      refine aw_push (pre := [(g11, .cells 72 3 (ofL [.int .i64 x.kind, .int .i64 x.k, is true (x.args.map (toR f))])), (g6, .cells 3 (f.vars.toNat + f.nodes.length) (isF (tl.set (i + k) (f.vars + szTo f k)))), (g5, .cells 24 3 (ofL [.int .i64 f.vars, gs oN 3 (szTo f k), .int .i64 0])), (g2, .cells 24 3 (ofL [.int .i64 0, .nils, .int .i64 0])), (g1, .cells 24 3 (ofL (fmc false f)))]) rfl rfl rfl rfl rfl rfl rfl (by simp only[go_sem, z, hn_g1, hn_g2, hn_g5, hn_g6, hx, hn_g10, hn_g11, hvk, ↓hlen]<;>rfl) (by simp only[go_sem, z, hn_g1, hn_g2, hn_g5, hn_g6, hx, hn_g10, hn_g11, hvk, ↓hlen]<;>rfl) (by rfl) (by omega) (by omega) (by simp only[go_sem, z, hn_g1, hn_g2, hn_g5, hn_g6, hx, hn_g10, hn_g11, hvk, ↓hlen]<;>rfl) (by omega) (by exact hoN) (by simp only[go_sem, z, hn_g1, hn_g2, hn_g5, hn_g6, hx, hn_g10, hn_g11, hvk, ↓hlen]<;>rfl) (by rfl) (by rfl) (by first | rfl | simp only [Nat.mul_one, List.nil_append, List.cons_append] <;> rfl) (by unfold maxLen; omega) (by omega) (by exact lf_push (xs := trTo f k) (trTo_len f k) (⟨x.kind, x.k, x.args.map (toR f)⟩ : FN) (by omega)) fun g hn_g => ?_
      replace hn_g := Heap.ne_of hn_g
      first | dsimp only [Heap.ne, gh] at hn_g | dsimp only [Heap.ne] at hn_g | skip
      (try simp only[go_sem, z, hn_g1, hn_g2, hn_g5, hn_g6, hx, hn_g10, hn_g11, hvk, ↓hlen, hn_g])
      repeat first|apply wa1|apply wa2|apply wa3|apply wa4|apply wa5 rfl|apply wa6|apply wa7|(refine wb1 rfl fun R r=>?_;simp only[go_sem, z, hn_g1, hn_g2, hn_g5, hn_g6, hx, hn_g10, hn_g11, hvk, ↓hlen, hn_g];with_reducible refine r _ _ ?_;clear r R)
      refine aw_store rfl rfl rfl rfl (by simp only[go_sem, z, hn_g1, hn_g2, hn_g5, hn_g6, hx, hn_g10, hn_g11, hvk, ↓hlen, hn_g]<;>rfl) (by simp only[go_sem, z, hn_g1, hn_g2, hn_g5, hn_g6, hx, hn_g10, hn_g11, hvk, ↓hlen, hn_g]<;>rfl) (by simp only[go_sem, z, hn_g1, hn_g2, hn_g5, hn_g6, hx, hn_g10, hn_g11, hvk, ↓hlen, hn_g]<;>rfl) (by simp only[go_sem, z, hn_g1, hn_g2, hn_g5, hn_g6, hx, hn_g10, hn_g11, hvk, ↓hlen, hn_g]<;>rfl) (fun _ e => by cases e) (by first | rfl | exact solid_gs3) (by rfl) (by first|omega|simp) rfl ?_
      (try simp only[go_sem, z, hn_g1, hn_g2, hn_g5, hn_g6, hx, hn_g10, hn_g11, hvk, ↓hlen, hn_g])
      repeat first|apply wa1|apply wa2|apply wa3|apply wa4|apply wa5 rfl|apply wa6|apply wa7|(refine wb1 rfl fun R r=>?_;simp only[go_sem, z, hn_g1, hn_g2, hn_g5, hn_g6, hx, hn_g10, hn_g11, hvk, ↓hlen, hn_g];with_reducible refine r _ _ ?_;clear r R)
      refine aw_stop ⟨(k + 1, some g, tl.set (i + k) (f.vars + szTo f k)), by dsimp only; omega, (by simp only[go_sem, z, hn_g1, hn_g2, hn_g5, hn_g6, hx, hn_g10, hn_g11, hvk, ↓hlen, hn_g]<;>and_intros<;>first|exact True.intro|(with_reducible rfl)|exact c_int (by omega)|rfl), ?_, by dsimp only; omega, fun e => (by cases e), ?_⟩
      · dsimp only
        rw [hs1, hr1]
        exact List.Sublist.cons _ (List.Sublist.refl _)
      · have := toOk_set v0 h1' hto
        rwa [hVt] at this
  · have h1' : k = f.nodes.length := by have := of_decide_eq_false h1; omega
    subst h1'
    obtain ⟨tp, htp⟩ := Int.eq_ofNat_of_zero_le t0
    have htt := hto.at' f.top t0 t1 htop
    rw [htp, Int.toNat_natCast, ← htp] at htt
    refine yG (oj z (oj hn_g1 (oj hn_g2 (oj hn_g5 (oj hn_g6 htp))))) ?_
    refine yW (oj z (oj hn_g1 (oj hn_g2 (oj hn_g5 (oj hn_g6 htp))))) ?_
    refine yS (oj z (oj hn_g1 (oj hn_g2 (oj hn_g5 (oj hn_g6 htp))))) ?_
    rw [htt]
    refine aw_perm (h' := (g5, .cells 24 3 (ofL [.int .i64 f.vars, gs oN 3 (szTo f f.nodes.length), .int .i64 (toR f f.top)])) :: (gh oN 72 (szTo f f.nodes.length * 3) (fnsF (trTo f f.nodes.length)) ++ [(g6, .cells 3 (f.vars.toNat + f.nodes.length) (isF tl)), (g2, .cells 24 3 (ofL [.int .i64 0, .nils, .int .i64 0])), (g1, .cells 24 3 (ofL (fmc false f)))])) ((List.Perm.swap _ _ _).trans (List.Perm.cons _ (List.perm_append_comm (l₁ := ([(g6, .cells 3 (f.vars.toNat + f.nodes.length) (isF tl)), (g2, .cells 24 3 (ofL [.int .i64 0, .nils, .int .i64 0])), (g1, .cells 24 3 (ofL (fmc false f)))] : Heap))))) ?_
    refine aw_frzG (j0 := 1) (og := oN) (s := 3) (n := szTo f f.nodes.length) (f' := ofL (fmc true (trimF f))) rfl (by show CV.row true 3 (trTo f f.nodes.length).length _ = _; rw [trTo_len]; rfl) (fun j hj hne => ?_) hoN (fun g e => ?_) ?_
    · match j, hj, hne with
      | 0, _, _ => rfl
      | 1, _, hne => exact absurd rfl hne
      | 2, _, _ => rfl
    · exact fun h => by have := (hC g).1 h; simp [Heap.keys] at this
    refine yG (oj z (oj hn_g1 (oj hn_g2 (oj hn_g5 (oj hn_g6 htp))))) ?_
    refine yW (oj z (oj hn_g1 (oj hn_g2 (oj hn_g5 (oj hn_g6 htp))))) ?_
    refine yS (oj z (oj hn_g1 (oj hn_g2 (oj hn_g5 (oj hn_g6 htp))))) ?_
    refine yG (oj z (oj hn_g1 (oj hn_g2 (oj hn_g5 (oj hn_g6 htp))))) ?_
    refine aw_rethw (h' := []) rfl (List.nil_sublist _) (fun R hR => ?_)
    simp only [go_sem, z, hn_g1, hn_g2, hn_g5, hn_g6, htp]
    refine hR _ rfl ?_
    exact ⟨rfl, rfl⟩
end Go.Proofs.YtmfmnmkipjpjhaaGreatDoor
