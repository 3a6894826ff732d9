/- Blocks of one proof, laid one behind the other by a program (merge2.py). -/
import Derived.Test.YtcoflhkcpnoaaaaGreatM18
import Derived.Test.YtcoflhkcpnoaaaaGreatM19
set_option linter.unusedSimpArgs false
set_option linter.unusedVariables false
namespace Go.AI
section
variable {E : Env} {K : List It} {σ : Sl} {h : Heap}
theorem Sl.set_set (t : Nat) (u v : AV) : ∀ σ : Sl, (σ.set t u).set t v = σ.set t v
  | [] => by simp [Sl.set]
  | (t', x) :: σ => by
    simp only [Sl.set]
    by_cases e : t' = t
    · rw [if_pos e, if_pos e]; simp [Sl.set]
    · rw [if_neg e, if_neg e]; simp only [Sl.set, if_neg e]; rw [Sl.set_set t u v σ]
theorem aw_frzT {t g s off n m : Nat} {ty : TypeId} {f : Nat → CV} (f' : Nat → CV) {σ' : Sl} {h' : Heap} (ht : σ.get t = .c (.osl g s off n)) (hg : h.get g = some (.cells ty m f)) (hm : off + n * s ≤ m) (hn : ¬ E.C.own0 g) (hf : ∀ j, j < n * s → f (off + j) = f' j) (hσ : σ.set t (.c (.row true s n f')) = σ') (hh : h.del g = h')
    (k : aw E K σ' h') : aw E K σ h := by
  refine aw_frz ht hg hm hn rfl hh ?_
  refine aw_conv (t := t) (v := .c (.row true s n f')) (σ' := σ') (fun S w u hr => ?_) ?_ k
  · rw [Sl.get_set, if_pos rfl] at hr
    obtain ⟨A, c, hv, hc, hn⟩ := hr
    refine ⟨A, c, hv, hc, fun h0 => ?_⟩
    obtain ⟨ad, hA, hS, hj⟩ := hn h0
    refine ⟨ad, hA, hS, fun j hjl => ?_⟩
    obtain ⟨u, hu, hru⟩ := hj j hjl
    exact ⟨u, hu, by rw [← hf j hjl]; exact hru⟩
  · rw [← hσ, Sl.set_set]
theorem ler_gsd {pre : Heap} {og : Option Nat} {e n : Nat} {t : Bool} {vs : List DN} (hog : og = none → n = 0) (hn : ∀ g, og = some g → g ∉ pre.keys) (hl : vs.length = n) : LeR (pre ++ gh og e (n * 3) (dnsF vs)) (gs og 3 n) (dns t vs) := by
  subst hl
  exact ler_gs hog hn (lf_ler (by omega) fun x _ k hk => by match k, hk with | 0, _ => exact .int _ _ | 1, _ => exact .int _ _ | 2, _ => exact .int _ _)
end
end Go.AI
namespace Go.Proofs.YtcoflhkcpnoaaaaGreat
open Go.AI Go.PN
attribute [local irreducible] aw Fa Fh DrK
theorem add_ok (o : List Int) (tb : List Bool) (rt : Int) (ho : o.length ≤ 12) (hr : ∀ x ∈ o, 0 ≤ x ∧ x < o.length) (ht : tb.length = 2 ^ o.length) : ∀ k, AddOk o tb rt k
  | 0 => add_zero o tb rt ho hr ht
  | k + 1 => add_succ o tb rt ho hr ht k (add_ok o tb rt ho hr ht k)
set_option maxRecDepth 100000 in
set_option maxHeartbeats 1600000 in
theorem of15_fa (tb : List Bool) (o : List Int) (h0 : 0 < o.length) (ho : o.length ≤ 12) (hr : ∀ x ∈ o, 0 ≤ x ∧ x < o.length) (ht : tb.length = 2 ^ o.length) :
    Fa Tryz.prog 76 [.c (bs false tb), .c (is false o)] (.agg (dgc true ⟨o, (addF o tb o.length 0 0 []).1, (addF o tb o.length 0 0 []).2⟩)) := by
  have h2o : 2 ^ o.length ≤ 4096 := by
    have h3 : 2 ^ o.length ≤ 2 ^ 12 := Nat.pow_le_pow_right (by omega) (by omega)
    have h4 : (2 : Nat) ^ 12 = 4096 := by decide
    omega
  have hpos : 0 < 2 ^ o.length := Nat.pow_pos (by omega)
  refine fa_of_body Tryz.func76 rfl rfl (by simp [Tryz.ntmps76]) fun C hC => ?_
  simp only [initS, Nat.reduceAdd]
  refine xG ?_
  refine xA fun g4 hn_g4=>?_
  refine yG hn_g4 ?_
  refine yA hn_g4 fun g5 hn_g5=>?_
  refine yG (oj hn_g4 hn_g5) ?_
  refine yW (oj hn_g4 hn_g5) ?_
  refine yS (oj hn_g4 hn_g5) ?_
  refine yG (oj hn_g4 hn_g5) ?_
  refine aw_appendN (size := 1) (z := [.int .i64 0]) (cx := is false o) (k := o.length) (f2 := isF o) rfl rfl rfl (zE (oj hn_g4 hn_g5)) (zE (oj hn_g4 hn_g5)) rfl (by omega) (zE (oj hn_g4 hn_g5)) (zE (oj hn_g4 hn_g5)) .row h0 (by unfold maxLen; omega) (by omega) fun go hn_go => ?_
  replace hn_go := Heap.ne_of hn_go
  dsimp only [Heap.ne] at hn_go
  refine yS (oj hn_g4 (oj hn_g5 hn_go)) ?_
  refine aw_frzT (t := 10) (isF o) (zE (oj hn_g4 (oj hn_g5 hn_go))) (zE (oj hn_g4 (oj hn_g5 hn_go))) (by omega) (hC go) (fun j _ => by rw [Nat.zero_add]) rfl (zE (oj hn_g4 (oj hn_g5 hn_go))) ?_
  refine yS (oj hn_g4 (oj hn_g5 hn_go)) ?_
  refine yG (oj hn_g4 (oj hn_g5 hn_go)) ?_
  refine yW (oj hn_g4 (oj hn_g5 hn_go)) ?_
  refine yS (oj hn_g4 (oj hn_g5 hn_go)) ?_
  refine yG (oj hn_g4 (oj hn_g5 hn_go)) ?_
  have hcall := add_ok o tb 0 ho hr ht o.length 0 0 [] none 0 (by omega) hpos rfl (by omega) (fun _ => rfl)
  refine aw_callh (hr := [(g5, AObj.cells 25 3 (ofL [is true o, .nils, .int .i64 0])), (g4, AObj.cells 25 3 (ofL [.nils, .nils, .int .i64 0]))]) hcall rfl rfl rfl (List.Perm.refl _) (zL (oj hn_g4 (oj hn_g5 hn_go))) ?_
  generalize addF o tb o.length 0 0 [] = B at *
  rintro _ _ ⟨og, n, hn, hb, hog, rfl, rfl⟩ hk
  have hg : ∀ g, og = some g → ¬ g = g5 ∧ ¬ g = g4 := fun g e => by
    subst e
    have := hk g (by simp [gh, Heap.keys])
    simpa [Heap.keys] using this
  refine aw_perm (List.perm_append_comm (l₂ := [(g5, AObj.cells 25 3 (ofL [is true o, .nils, .int .i64 0])), (g4, AObj.cells 25 3 (ofL [.nils, .nils, .int .i64 0]))])) ?_
  refine yS (oj hn_g4 (oj hn_g5 hn_go)) ?_
  refine yG (oj hn_g4 (oj hn_g5 hn_go)) ?_
  refine yW (oj hn_g4 (oj hn_g5 hn_go)) ?_
  refine yS (oj hn_g4 (oj hn_g5 hn_go)) ?_
  refine yG (oj hn_g4 (oj hn_g5 hn_go)) ?_
  refine yW (oj hn_g4 (oj hn_g5 hn_go)) ?_
  refine yS (oj hn_g4 (oj hn_g5 hn_go)) ?_
  refine yG (oj hn_g4 (oj hn_g5 hn_go)) ?_
  refine yW (oj hn_g4 (oj hn_g5 hn_go)) ?_
  refine yS (oj hn_g4 (oj hn_g5 hn_go)) ?_
  refine yG (oj hn_g4 (oj hn_g5 hn_go)) ?_
  refine yT hC (oj hn_g4 (oj hn_g5 hn_go)) ?_
  refine .one (.agg ⟨ler_is, ?_, .int _ _, trivial⟩)
  exact ler_gsd (pre := [(g5, _), (g4, _)]) hog (fun g e => by have := hg g e; simp only [Heap.keys, List.map_cons, List.map_nil, List.mem_cons, List.not_mem_nil, or_false]; omega) hn
set_option maxHeartbeats 800000 in
theorem build15_fa (f : FM) (hf : FmOk f) (hv : f.vars ≤ 12) (o : List Int) (h0 : 0 < o.length) (ho : (o.length : Int) = f.vars) (hr : ∀ x ∈ o, 0 ≤ x ∧ x < o.length) :
    Fa Tryz.prog 41 [.agg (fmc false f), .c (is false o)] (.agg (dgc true ⟨o, (addF o (formTo f (2 ^ f.vars.toNat)) o.length 0 0 []).1, (addF o (formTo f (2 ^ f.vars.toNat)) o.length 0 0 []).2⟩)) := by
  have hl : f.vars.toNat = o.length := by omega
  refine fa_of_body Tryz.func41 rfl rfl (by simp [Tryz.ntmps41]) fun C hC => ?_
  simp only [initS, Nat.reduceAdd]
  refine xG ?_
  refine xB fun g2 hn_g2=>?_
  refine yG hn_g2 ?_
  refine yA hn_g2 fun g4 hn_g4=>?_
  refine yG (oj hn_g2 hn_g4) ?_
  refine yC (oj hn_g2 hn_g4) (formula_fa f hf ?_) ?_
  · omega
  refine yG (oj hn_g2 hn_g4) ?_
  refine yC (oj hn_g2 hn_g4) (of15_fa (formTo f (2 ^ f.vars.toNat)) o h0 ?_ hr ?_) ?_
  · omega
  · rw [formTo_len, hl]
  refine yG (oj hn_g2 hn_g4) ?_
  refine yW (oj hn_g2 hn_g4) ?_
  refine yS (oj hn_g2 hn_g4) ?_
  refine yG (oj hn_g2 hn_g4) ?_
  refine yT hC (oj hn_g2 hn_g4) ?_
  exact .one (.agg ⟨ler_is, ler_dns, .int _ _, trivial⟩)
end Go.Proofs.YtcoflhkcpnoaaaaGreat
namespace Go.PN
open Go.AI
theorem keysL {A B : Heap} (h : (A ++ B).keys.Nodup) : A.keys.Nodup := ((List.sublist_append_left A B).map _).nodup h
end Go.PN
namespace Go.PN
open Go.AI
def RS {α : Type} (R : α → Nat → α → Prop) : α → List Nat → α → Prop
  | x, [], y => x = y
  | x, s :: l, y => ∃ z, R x s z ∧ RS R z l y
theorem RS.app {α : Type} {R : α → Nat → α → Prop} : ∀ {l m : List Nat} {x y z : α}, RS R x l y → RS R y m z → RS R x (l ++ m) z
  | [], _, _, _, _, h, k => by
    have h : _ = _ := h
    subst h; exact k
  | _ :: _, _, _, _, _, ⟨w, h1, h2⟩, k => ⟨w, h1, h2.app k⟩
end Go.PN
namespace Go.Proofs.YtcoflhkcpnoaaaaGreat
open Go.AI Go.PN
attribute [local irreducible] aw Fa Fh DrK
@[go_sem] theorem ty_fi2_s : tSz Tryz.prog 128 = some (false, 1) := by kernel_rfl
@[go_sem] theorem ty_fi2_z : tZero Tryz.prog 128 = some [.raw .nilFunc] := by kernel_rfl
abbrev E3 (gF gA gW gT : Nat) (fc : FuncId) (gs' : List Nat) : Heap :=
  [(gF, .cells 83 1 (ofL [fnC fc gs'])), (gA, .cells 74 1 (ofL [.optr gT 0])), (gW, .cells 128 1 (ofL [fnC 87 [gF, gA, gW]]))]
set_option maxRecDepth 100000 in
set_option maxHeartbeats 6400000 in
theorem zeachw_fh {α : Type} (H : α → Heap) (F : α → Nat → Prop) (R : α → Nat → α → Prop) (fc : FuncId) (gs' : List Nat) (gF gA gW gT gU gM : Nat) {n : Nat} (h24 : n ≤ 24) {og : Option Nat} {ns : List DN} {mm : Mem3} (hs : ZS n og ns mm) (hn : ns.length ≤ 1000000000)
    (hcb : ∀ (x : α) (s m : Nat), F x (m + 1) → s < 2 ^ n → Fh Tryz.prog fc (H x) ([.c (.int .i64 s)] ++ gs'.map fun g => .c (.optr g 0)) (fun r h => ∃ y, R x s y ∧ F y m ∧ r = .tup [] ∧ h = H y)) : ∀ (k : Nat) (r : Int) (b m : Nat) (x : α), r.toNat < k → RefOk ns r → b < 2 ^ n → F x (m + (setsZ ns r b).length) →
    Fh Tryz.prog 87 (E3 gF gA gW gT fc gs' ++ (ZHp gT gU gM og ns mm ++ H x)) ([.c (.int .i64 r), .c (.int .i64 b)] ++ [gF, gA, gW].map fun g => .c (.optr g 0)) (fun z h => ∃ y, RS R x (setsZ ns r b) y ∧ F y m ∧ z = .tup [] ∧ h = E3 gF gA gW gT fc gs' ++ (ZHp gT gU gM og ns mm ++ H y)) := by
  intro k
  induction k with
  | zero => intro r b m x hk; omega
  | succ k ih =>
    intro r b m x hk hr hb hx
    simp only [List.cons_append, List.nil_append, List.map_cons, List.map_nil]
    refine fh_of_body Tryz.func87 rfl rfl (by simp [Tryz.ntmps87]) fun C hC => ?_
    simp only [initS, Nat.reduceAdd]
    refine aw_nd fun hnd0 => ?_
    have hnd := keysL (A := E3 gF gA gW gT fc gs' ++ ZHp gT gU gM og ns mm) (B := H x) (by rw [List.append_assoc]; exact hnd0)
    simp only [E3, ZHp, ZH, List.cons_append, List.nil_append, Heap.keys, List.map_cons] at hnd ⊢
    replace hnd := ndP_of hnd
    dsimp only [ndP, neA] at hnd
    refine yG hnd ?_
    refine yF hnd (fun h1=>?_) fun h1=>?_
    · have h1' := of_decide_eq_true h1
      refine yG hnd ?_
      refine yF hnd (fun h2=>?_) fun h2=>?_
      · have h2' : r = 1 := by simpa using h2
        refine yG hnd ?_
        refine aw_callhv (gs := gs') (hc := H x) (hr := E3 gF gA gW gT fc gs' ++ ZHp gT gU gM og ns mm) (hcb x b m (by rw [sets_leaf h1', if_pos h2'] at hx; exact hx) hb) rfl rfl rfl (zE hnd) (by
          show (E3 gF gA gW gT fc gs' ++ (ZHp gT gU gM og ns mm ++ H x)).Perm _
          rw [← List.append_assoc]
          exact List.perm_append_comm) (zL hnd) ?_
        rintro _ _ ⟨y, y1, y2, rfl, rfl⟩ _
        refine aw_perm List.perm_append_comm ?_
        rw [List.append_assoc]
        refine yS hnd ?_
        refine yG hnd ?_
        refine yU hnd ?_
        refine ⟨y, ?_, y2, rfl, rfl⟩
        rw [sets_leaf h1', if_pos h2']
        exact ⟨y, y1, rfl⟩
      · refine yG hnd ?_
        refine yU hnd ?_
        have h2' : ¬ r = 1 := by simpa using h2
        rw [sets_leaf h1', if_neg h2'] at hx
        refine ⟨x, ?_, hx, rfl, rfl⟩
        rw [sets_leaf h1', if_neg h2']
        rfl
    have h1' := of_decide_eq_false h1
    have hr2 : 2 ≤ r := by omega
    obtain ⟨g, rfl⟩ : ∃ g, og = some g := by
      cases og with
      | none => have := hs.og rfl; unfold RefOk at hr; omega
      | some g => exact ⟨g, rfl⟩
    simp only [gh, List.map_cons, List.map_nil, neA, ndP] at hnd
    simp only [gs, gh, List.cons_append, List.nil_append]
    have hi : (r - 2).toNat < ns.length := by unfold RefOk at hr; omega
    obtain ⟨w0, w1, w2, w3, w4, w5⟩ := (hs.tab _ hi).nk
    obtain ⟨kl, kh⟩ := hs.tab.kids hi
    have hst := sets_step hs.tab hr2 hr b
    generalize hx0 : ns.getD (r - 2).toNat dn0 = nd at *
    obtain ⟨v, hv⟩ : ∃ v : Nat, nd.v = v := ⟨nd.v.toNat, by omega⟩
    have hv24 : v < n := by omega
    have hp : 2 ^ v < 2 ^ n := Nat.pow_lt_pow_right (by omega) hv24
    have hp24 : 2 ^ n ≤ 2 ^ 24 := Nat.pow_le_pow_right (by omega) h24
    have hbv : b ||| 2 ^ v < 2 ^ n := Nat.or_lt_two_pow hb hp
    have hsh : shlZ .i64 1 nd.v = ((2 ^ v : Nat) : Int) := by rw [hv]; exact shl_one v (by omega)
    have hor : orZ .i64 (b : Int) ((2 ^ v : Nat) : Int) = ((b ||| 2 ^ v : Nat) : Int) := orZ_nat _ _ (by omega) (by omega)
    rw [hv, Int.toNat_natCast] at hst
    rw [hst, List.length_append, Nat.add_comm (setsZ ns nd.lo b).length, ← Nat.add_assoc] at hx
    refine yG (oj hnd (oj hnd (oj hx0 (oj hsh hor)))) ?_
    refine yA (oj hnd (oj hnd (oj hx0 (oj hsh hor)))) fun g7 hn_g7=>?_
    clear hn_g7
    refine aw_nd fun hnd2 => ?_
    have hnd3 := keysL (A := (g7, .cells 88 3 (ofL [.int .i64 0, .int .i64 0, .int .i64 0])) :: E3 gF gA gW gT fc gs' ++ ZHp gT gU gM (some g) ns mm) (B := H x) hnd2
    simp only [E3, ZHp, ZH, gh, List.cons_append, List.nil_append, Heap.keys, List.map_cons, List.map_nil] at hnd3
    replace hnd3 := ndP_of hnd3
    dsimp only [ndP, neA] at hnd3
    clear hnd
    refine yG (oj hnd3 (oj hx0 (oj hsh hor))) ?_
    refine yW (oj hnd3 (oj hx0 (oj hsh hor))) ?_
    refine yS (oj hnd3 (oj hx0 (oj hsh hor))) ?_
    refine yG (oj hnd3 (oj hx0 (oj hsh hor))) ?_
    refine aw_callhv (gs := [gF, gA, gW]) (hr := [(g7, .cells 88 3 (ofL [.int .i64 nd.v, .int .i64 nd.lo, .int .i64 nd.hi]))]) (ih nd.lo b _ x (by omega) kl hb hx) rfl rfl rfl (zE (oj hnd3 (oj hx0 (oj hsh hor)))) (List.perm_append_comm (l₁ := [(g7, _)])) (zL (oj hnd3 (oj hx0 (oj hsh hor)))) ?_
    rintro _ _ ⟨y, y1, y2, rfl, rfl⟩ _
    refine aw_perm List.perm_append_comm ?_
    simp only [E3, ZHp, ZH, gs, gh, List.cons_append, List.nil_append]
    refine yS (oj hnd3 (oj hx0 (oj hsh hor))) ?_
    refine yG (oj hnd3 (oj hx0 (oj hsh hor))) ?_
    refine aw_cw ([(gW, .cells 128 1 (ofL [fnC 87 [gF, gA, gW]])), (g7, .cells 88 3 (ofL [.int .i64 nd.v, .int .i64 nd.lo, .int .i64 nd.hi]))]) [(0,0),(1,0),(2,0),(3,0),(4,0),(5,0),(6,0),(7,0),(8,2)] ty_mixed (by kernel_rfl) eI ?_
    refine yG (oj hnd3 (oj hx0 (oj hsh hor))) ?_
    refine cw_callhv (FP' := []) (gs := [gF, gA, gW]) (hr := [(g7, .cells 88 3 (ofL [.int .i64 nd.v, .int .i64 nd.lo, .int .i64 nd.hi]))]) rfl (ih nd.hi (b ||| 2 ^ v) m y (by omega) kh hbv y2) rfl rfl rfl (zE (oj hnd3 (oj hx0 (oj hsh hor)))) (List.perm_append_comm (l₁ := [(g7, _)])) (zL (oj hnd3 (oj hx0 (oj hsh hor)))) (fun _ _ _ => has0_nil) ?_
    rintro _ _ ⟨z, z1, z2, rfl, rfl⟩ _
    refine yS (oj hnd3 (oj hx0 (oj hsh hor))) ?_
    refine yG (oj hnd3 (oj hx0 (oj hsh hor))) ?_
    refine aw_keep [] (E3 gF gA gW gT fc gs' ++ (ZHp gT gU gM (some g) ns mm ++ H z)) (zB (oj hnd3 (oj hx0 (oj hsh hor)))) (List.sublist_append_left _ _) ?_
    refine yV (oj hnd3 (oj hx0 (oj hsh hor))) ?_
    exact ⟨z, by rw [hst]; exact y1.app z1, z2, rfl, rfl⟩
theorem h3_comm {α : Type} (A B C : List α) : (A ++ (B ++ C)).Perm ((B ++ A) ++ C) := by
  rw [List.append_assoc]
  have := (List.perm_append_comm (l₁ := A) (l₂ := B)).append_right C
  rwa [List.append_assoc, List.append_assoc] at this
set_option maxRecDepth 100000 in
set_option maxHeartbeats 3200000 in
theorem zeach_fh {α : Type} (H : α → Heap) (F : α → Nat → Prop) (R : α → Nat → α → Prop) (fc : FuncId) (gs' : List Nat) (gT gU gM : Nat) {n : Nat} (h24 : n ≤ 24) {og : Option Nat} {ns : List DN} {mm : Mem3} (hs : ZS n og ns mm) (hn : ns.length ≤ 1000000000)
    (hcb : ∀ (x : α) (s m : Nat), F x (m + 1) → s < 2 ^ n → Fh Tryz.prog fc (H x) ([.c (.int .i64 s)] ++ gs'.map fun g => .c (.optr g 0)) (fun r h => ∃ y, R x s y ∧ F y m ∧ r = .tup [] ∧ h = H y)) {r : Int} (hr : RefOk ns r) (x : α) {m : Nat} (hx : F x (m + (setsZ ns r 0).length)) :
    Fh Tryz.prog 49 (ZHp gT gU gM og ns mm ++ H x) [.c (.optr gT 0), .c (.int .i64 r), .c (fnC fc gs')] (fun z h => ∃ y, RS R x (setsZ ns r 0) y ∧ F y m ∧ z = .tup [] ∧ h = ZHp gT gU gM og ns mm ++ H y) := by
  refine fh_of_body Tryz.func49 rfl rfl (by simp [Tryz.ntmps49]) fun C hC => ?_
  simp only [initS, Nat.reduceAdd]
  refine xG ?_
  refine xB fun gA hn_gA=>?_
  refine yG hn_gA ?_
  refine yB hn_gA fun gF hn_gF=>?_
  refine yG (oj hn_gA hn_gF) ?_
  refine yA (oj hn_gA hn_gF) fun gW hn_gW=>?_
  refine yG (oj hn_gA (oj hn_gF hn_gW)) ?_
  refine aw_makeFunc (gs := [gF, gA, gW]) rfl rfl rfl (zE (oj hn_gA (oj hn_gF hn_gW))) ?_
  refine yS (oj hn_gA (oj hn_gF hn_gW)) ?_
  refine yG (oj hn_gA (oj hn_gF hn_gW)) ?_
  refine yW (oj hn_gA (oj hn_gF hn_gW)) ?_
  refine yS (oj hn_gA (oj hn_gF hn_gW)) ?_
  refine yG (oj hn_gA (oj hn_gF hn_gW)) ?_
  refine aw_callhv (hr := []) (zeachw_fh H F R fc gs' gF gA gW gT gU gM h24 hs hn hcb (r.toNat + 1) r 0 m x (by omega) hr (Nat.pow_pos (by omega)) hx) rfl rfl rfl (zE (oj hn_gA (oj hn_gF hn_gW))) ?hp (zL (oj hn_gA (oj hn_gF hn_gW))) ?_
  · rw [List.append_nil]
    exact (permL [(gW, _), (gF, _), (gA, _)] [0, 1, 2] [1, 2, 0] (by decide)).append_right (ZHp gT gU gM og ns mm ++ H x)
  rintro _ _ ⟨y, y1, y2, rfl, rfl⟩ _
  rw [List.append_nil]
  refine yS (oj hn_gA (oj hn_gF hn_gW)) ?_
  refine yG (oj hn_gA (oj hn_gF hn_gW)) ?_
  refine aw_keep [] (ZHp gT gU gM og ns mm ++ H y) (zB (oj hn_gA (oj hn_gF hn_gW))) (List.sublist_append_right (E3 gF gA gW gT fc gs') _) ?_
  refine yV (oj hn_gA (oj hn_gF hn_gW)) ?_
  exact ⟨y, y1, y2, rfl, rfl⟩
end Go.Proofs.YtcoflhkcpnoaaaaGreat
namespace Go.Proofs.YtcoflhkcpnoaaaaGreat
open Go.AI Go.PN
attribute [local irreducible] aw Fa Fh DrK
abbrev CB (gA gB gT : Nat) (a : Int) : Heap := [(gB, .cells 3 1 (ofL [.int .i64 a])), (gA, .cells 74 1 (ofL [.optr gT 0]))]
def CountOk (n gT gU gM : Nat) (k : Nat) : Prop := ∀ (og : Option Nat) (ns : List DN) (mm : Mem3) (a : Int), ZS n og ns mm → ns.length ≤ 1000000000 → RefOk ns a → a.toNat < k →
    Fh Tryz.prog 95 (ZHp gT gU gM og ns mm) [.c (.optr gT 0), .c (.int .i64 a)]
      (fun x h => ∃ mm', ZP n ns mm (evZ n ns a) 0 og ns mm' ∧ x = .c (.int .i64 (cntZ ns a)) ∧ h = ZHp gT gU gM og ns mm')
set_option maxRecDepth 100000 in
set_option maxHeartbeats 6400000 in
theorem zcclo_fh (n gT gU gM : Nat) (h24 : n ≤ 24) (k : Nat) (ih : CountOk n gT gU gM k) (gA gB : Nat) (og : Option Nat) (ns : List DN) (mm : Mem3) (a : Int) (hs : ZS n og ns mm) (hn : ns.length ≤ 1000000000) (ha : RefOk ns a) (ha2 : 2 ≤ a) (hk : a.toNat < k + 1) :
    Fh Tryz.prog 133 (ZHp gT gU gM og ns mm ++ CB gA gB gT a) ([] ++ [gA, gB].map fun g => .c (.optr g 0))
      (fun x h => ∃ og' ns' mm' r, (ZP n ns mm (evZ n ns a + 1) 0 og' ns' mm' ∧ og' = og ∧ ns' = ns ∧ r = cntZ ns a) ∧ (og' = none → ns'.length = 0) ∧ ns'.length ≤ 1000000000 ∧ x = .c (.int .i64 r) ∧ h = ZHp gT gU gM og' ns' mm' ++ CB gA gB gT a) := by
  simp only [List.nil_append, List.map_cons, List.map_nil]
  refine fh_of_body Tryz.func133 rfl rfl (by simp [Tryz.ntmps133]) fun C hC => ?_
  simp only [initS, Nat.reduceAdd]
  obtain ⟨g, rfl⟩ : ∃ g, og = some g := by
    cases og with
    | none => have := hs.og rfl; unfold RefOk at ha; omega
    | some g => exact ⟨g, rfl⟩
  refine aw_nd fun hnd => ?_
  simp only [CB, ZHp, ZH, gs, gh, List.cons_append, List.nil_append, Heap.keys, List.map_cons, List.map_nil] at hnd ⊢
  replace hnd := ndP_of hnd
  dsimp only [ndP, neA] at hnd
  have hi : (a - 2).toNat < ns.length := by unfold RefOk at ha; omega
  obtain ⟨w0, w1, w2, w3, w4, w5⟩ := (hs.tab _ hi).nk
  obtain ⟨kl, kh⟩ := hs.tab.kids hi
  have ka := kz_node hs.tab ha ha2
  have q1 := ka.ea
  have q2 := ka.eb
  rw [← evZ_node (n := n) ha2] at q1 q2
  have hst := cnt_step hs.tab ha2 ha
  have b1 := cntZ_le hs.tab _ kl
  have b2 := cntZ_le hs.tab _ kh
  have hpow : ∀ m : Nat, (2 : Int) ^ (n - m) ≤ 16777216 := fun m => by
    have h1 : 2 ^ (n - m) ≤ 2 ^ 24 := Nat.pow_le_pow_right (by omega) (by omega)
    have e : ((2 : Int) ^ (n - m)) = ((2 ^ (n - m) : Nat) : Int) := by simp
    rw [e]
    have e24 : (2 : Nat) ^ 24 = 16777216 := rfl
    omega
  have c1 := Int.le_trans b1.2 (hpow _)
  have c2 := Int.le_trans b2.2 (hpow _)
  have b1' := b1.1
  have b2' := b2.1
  clear b1 b2
  generalize hx0 : ns.getD (a - 2).toNat dn0 = nd at *
  refine yG (oj hnd hx0) ?_
  refine aw_cw ([(gA, .cells 74 1 (ofL [.optr gT 0])), (gB, .cells 3 1 (ofL [.int .i64 a])), (gT, .cells 120 3 (ofL [.osl g 3 0 ns.length, .raw (.map (some gU)), .raw (.map (some gM))])), (g, .cells 88 (ns.length * 3) (dnsF ns))]) [(0,0),(1,0),(2,0),(3,0),(4,0),(5,0),(6,0),(7,0),(8,1),(9,2)] ty_mixed (by kernel_rfl) eI ?_
  refine yG (oj hnd hx0) ?_
  refine cw_alloc rfl rfl rfl rfl (zE (oj hnd hx0)) eI (fun g3 hn_g3 => ?_) (hm := .inr ⟨rfl, rfl⟩)
  replace hn_g3 := Heap.ne_of hn_g3
  dsimp only [Heap.ne] at hn_g3
  refine yS (oj hnd (oj hx0 hn_g3)) ?_
  refine yG (oj hnd (oj hx0 hn_g3)) ?_
  refine cw_store (FP' := []) rfl rfl rfl rfl rfl (zE (oj hnd (oj hx0 hn_g3))) (zE (oj hnd (oj hx0 hn_g3))) (zE (oj hnd (oj hx0 hn_g3))) (zE (oj hnd (oj hx0 hn_g3))) (fun _ e => by cases e) rfl rfl (Nat.le_refl 3) rfl has0_nil ?_
  refine yS (oj hnd (oj hx0 hn_g3)) ?_
  refine yG (oj hnd (oj hx0 hn_g3)) ?_
  refine aw_cw ([(gA, .cells 74 1 (ofL [.optr gT 0])), (g3, .cells 88 3 (ofL [.int .i64 nd.v, .int .i64 nd.lo, .int .i64 nd.hi]))]) [(0,0),(1,0),(2,0),(4,0),(5,0),(6,0),(3,1),(7,1),(8,0),(9,0)] ty_mixed (by kernel_rfl) eI ?_
  refine yG (oj hnd (oj hx0 hn_g3)) ?_
  have hpm : ∀ mm, ((g3, .cells 88 3 (ofL [.int .i64 nd.v, .int .i64 nd.lo, .int .i64 nd.hi])) :: (ZHp gT gU gM (some g) ns mm ++ CB gA gB gT a)).Perm (ZHp gT gU gM (some g) ns mm ++ ((g3, .cells 88 3 (ofL [.int .i64 nd.v, .int .i64 nd.lo, .int .i64 nd.hi])) :: CB gA gB gT a)) := fun mm => List.perm_middle.symm
  refine cw_callh (hc := ZHp gT gU gM (some g) ns mm) (hr := (g3, .cells 88 3 (ofL [.int .i64 nd.v, .int .i64 nd.lo, .int .i64 nd.hi])) :: CB gA gB gT a) rfl (ih (some g) ns mm nd.lo hs hn kl (by omega)) rfl rfl rfl (hpm mm) (zL (oj hnd (oj hx0 hn_g3))) (by rintro _ _ ⟨_, _, rfl, rfl⟩; exact has0_app2 eI) ?_ (hm := .inr ⟨rfl, rfl⟩)
  rintro _ _ ⟨mm1, p1, rfl, rfl⟩ _
  refine yS (oj hnd (oj hx0 hn_g3)) ?_
  refine yG (oj hnd (oj hx0 hn_g3)) ?_
  refine cw_callh (hc := ZHp gT gU gM (some g) ns mm1) (hr := (g3, .cells 88 3 (ofL [.int .i64 nd.v, .int .i64 nd.lo, .int .i64 nd.hi])) :: CB gA gB gT a) rfl (ih (some g) ns mm1 nd.hi p1.zs hn kh (by omega)) rfl rfl rfl (.refl _) (zL (oj hnd (oj hx0 hn_g3))) (by rintro _ _ ⟨_, _, rfl, rfl⟩; exact has0_app2 eI) ?_ (hm := .inr ⟨rfl, rfl⟩)
  rintro _ _ ⟨mm2, p2, rfl, rfl⟩ _
  refine yS (oj hnd (oj hx0 hn_g3)) ?_
  refine yG (oj hnd (oj hx0 hn_g3)) ?_
  refine aw_perm (hpm mm2).symm ?_
  refine aw_keep [(2, .c (.int .i64 (cntZ ns nd.lo + cntZ ns nd.hi)))] (ZHp gT gU gM (some g) ns mm2 ++ CB gA gB gT a) (zB (oj hnd (oj hx0 hn_g3))) (List.Sublist.cons _ (List.Sublist.refl _)) ?_
  refine yU (oj hnd (oj hx0 hn_g3)) ?_
  exact ⟨some g, ns, mm2, _, ⟨p1.trans p2 (Nat.le_refl _) (by omega) (by omega), rfl, rfl, rfl⟩, hs.og, hn, by rw [hst], rfl⟩
set_option maxRecDepth 100000 in
set_option maxHeartbeats 3200000 in
theorem zcount_ok (n gT gU gM : Nat) (h24 : n ≤ 24) : ∀ k, CountOk n gT gU gM k := by
  intro k
  induction k with
  | zero => intro og ns mm a _ _ _ hk; omega
  | succ k ih =>
    intro og ns mm a hs hn ha hk
    refine fh_of_body Tryz.func95 rfl rfl (by simp [Tryz.ntmps95]) fun C hC => ?_
    simp only [initS, Nat.reduceAdd]
    refine xG ?_
    refine xB fun gA hn_gA=>?_
    refine yG hn_gA ?_
    refine yB hn_gA fun gB hn_gB=>?_
    refine yG (oj hn_gA hn_gB) ?_
    refine yF (oj hn_gA hn_gB) (fun h1=>?_) fun h1=>?_
    · have h1' := of_decide_eq_true h1
      refine yG (oj hn_gA hn_gB) ?_
      refine aw_keep [(4, .c (.int .i64 a))] (ZHp gT gU gM og ns mm) (zB (oj hn_gA hn_gB)) (List.Sublist.cons _ (List.Sublist.cons _ (List.Sublist.refl _))) ?_
      refine yU (oj hn_gA hn_gB) ?_
      exact ⟨mm, hs.same _ _, by rw [cnt_leaf ha.1 h1'], rfl⟩
    have h1' := of_decide_eq_false h1
    refine yG (oj hn_gA hn_gB) ?_
    refine aw_makeFunc (f := 133) (gs := [gA, gB]) rfl rfl rfl (zE (oj hn_gA hn_gB)) ?_
    refine yS (oj hn_gA hn_gB) ?_
    have hm1 : memGet (99, a, 0) mm = none → Fh Tryz.prog 133 (ZHp gT gU gM og ns mm ++ CB gA gB gT a) ([] ++ [gA, gB].map fun g => .c (.optr g 0)) (fun x h => ∃ og' ns' mm' r, (ZP n ns mm (evZ n ns a + 1) 0 og' ns' mm' ∧ og' = og ∧ ns' = ns ∧ r = cntZ ns a) ∧ (og' = none → ns'.length = 0) ∧ ns'.length ≤ 1000000000 ∧ memGet (99, a, 0) mm' = none ∧ x = .c (.int .i64 r) ∧ h = ZHp gT gU gM og' ns' mm' ++ CB gA gB gT a) := fun hm => by
      refine (zcclo_fh n gT gU gM h24 k ih gA gB og ns mm a hs hn ha (by omega) hk).mono ?_
      rintro x h ⟨og', ns', mm', r, ⟨p, w⟩, e1, e2, e3, e4⟩
      refine ⟨og', ns', mm', r, ⟨p, w⟩, e1, e2, p.absent hm ?_, e3, e4⟩
      unfold lvE
      rw [if_neg (by simp), p.lat.ev ha]
      omega
    refine aw_callh (hc := ZHp gT gU gM og ns mm ++ CB gA gB gT a) (hr := []) (remember_fh gT gU gM (CB gA gB gT a) 133 [gA, gB] 99 a 0 hs.og (by omega) _ hm1) rfl rfl rfl (by rw [List.append_nil]; exact List.perm_append_comm (l₁ := CB gA gB gT a)) (zL (oj hn_gA hn_gB)) ?_
    rintro _ _ (⟨r, hm, rfl, rfl⟩ | ⟨hm, og', ns', mm', r, ⟨p, rfl, rfl, rfl⟩, rfl, rfl⟩) _
    · rw [List.append_nil]
      refine yS (oj hn_gA hn_gB) ?_
      refine yG (oj hn_gA hn_gB) ?_
      refine aw_keep [(4, .c (.int .i64 r))] (ZHp gT gU gM og ns mm) (zB (oj hn_gA hn_gB)) (List.sublist_append_left _ _) ?_
      refine yU (oj hn_gA hn_gB) ?_
      have me := hs.mem _ (mem_mem hm)
      rcases me with ⟨e1, _⟩ | ⟨e1, _⟩ | ⟨_, _, e2⟩
      · cases e1
      · cases e1
      · exact ⟨mm, hs.same _ _, by rw [← e2], rfl⟩
    · rw [List.append_nil]
      refine yS (oj hn_gA hn_gB) ?_
      refine yG (oj hn_gA hn_gB) ?_
      refine aw_keep [(4, .c (.int .i64 (cntZ ns' a)))] (ZHp gT gU gM og' ns' (mm' ++ [((99, a, 0), cntZ ns' a)])) (zB (oj hn_gA hn_gB)) (List.sublist_append_left _ _) ?_
      refine yU (oj hn_gA hn_gB) ?_
      refine ⟨_, p.note (.inr (.inr ⟨rfl, ha, rfl⟩)) (by omega) ?_, rfl, rfl⟩
      unfold lvE
      rw [if_neg (by simp)]
      exact Int.le_refl _
end Go.Proofs.YtcoflhkcpnoaaaaGreat
namespace Go.Proofs.YtcoflhkcpnoaaaaGreat
open Go.AI Go.PN
attribute [local irreducible] aw Fa Fh DrK
structure TrOk (d : DG) (ns : List DN) (rs : List Int) (k : Nat) : Prop where
  ref : ∀ r : Nat, r < k + 2 → RefOk ns (rs.getD r 0) ∧ ∀ s, evalD ns s (rs.getD r 0) = evalD d.nodes s r
theorem tr_step {d : DG} (ok : DgOk d) {o : List Int} {ns ns2 : List DN} (ht : TabOk o ns) {m : Nat} (hl2 : Later o ns ns2 m) {rs : List Int} {k : Nat} (hk : k < d.nodes.length) (hl : k + 2 < rs.length) (h : TrOk d ns rs k) {x : Int} (hx : RefOk ns2 x)
    (he : ∀ s, evalD ns2 s x = if s.testBit (d.nodes.getD k dn0).v.toNat then evalD ns s (rs.getD (d.nodes.getD k dn0).hi.toNat 0) else evalD ns s (rs.getD (d.nodes.getD k dn0).lo.toNat 0)) : TrOk d ns2 (rs.set (2 + k) x) (k + 1) := by
  obtain ⟨v0, v1, l0, l1, g0, g1⟩ := ok.ns k hk
  obtain ⟨r1, r3⟩ := h.ref (d.nodes.getD k dn0).lo.toNat (by omega)
  obtain ⟨q1, q3⟩ := h.ref (d.nodes.getD k dn0).hi.toNat (by omega)
  rw [show (((d.nodes.getD k dn0).lo.toNat : Nat) : Int) = (d.nodes.getD k dn0).lo from by omega] at r3
  rw [show (((d.nodes.getD k dn0).hi.toNat : Nat) : Int) = (d.nodes.getD k dn0).hi from by omega] at q3
  refine ⟨fun r hr => ?_⟩
  by_cases e : r = 2 + k
  · subst e
    rw [getZset (by omega)]
    refine ⟨hx, fun s => ?_⟩
    show evalD _ s _ = evalD d.nodes s ((2 + k : Nat) : Int)
    rw [show (((2 + k : Nat)) : Int) = 2 + (k : Int) from by omega, evalD_step ok.ns (by omega) (by omega)]
    unfold kid
    rw [show ((2 : Int) + (k : Int) - 2).toNat = k from by omega, he s, r3 s, q3 s]
    split <;> rfl
  · rw [getZset' e]
    obtain ⟨a1, a3⟩ := h.ref r (by omega)
    exact ⟨hl2.ref a1, fun s => by rw [hl2.eval ht a1, a3 s]⟩
theorem tr_zero {d : DG} {ns : List DN} {n : Nat} (hn : 0 < n) : TrOk d ns ((List.replicate (n + 1) 0).set 1 1) 0 := ⟨fun r hr => by
  obtain rfl | rfl : r = 0 ∨ r = 1 := by omega
  · rw [getZset' (by omega), show (List.replicate (n + 1) (0 : Int)).getD 0 0 = 0 from by simp]
    exact ⟨ref0, fun s => by show evalD ns s 0 = evalD d.nodes s 0; rw [ev0, ev0]⟩
  · rw [getZset (by rw [List.length_replicate]; omega)]
    exact ⟨ref1, fun s => by show evalD ns s 1 = evalD d.nodes s 1; rw [ev1, ev1]⟩⟩
set_option maxRecDepth 100000 in
set_option maxHeartbeats 3200000 in
theorem translate_fh (gT gU gM : Nat) (d : DG) (ok : DgOk d) {o pl : List Int} (ho : OdOk o pl) (hol : o.length = d.order.length) {og : Option Nat} {ns : List DN} {mm : Mem3} (hs : TS o og ns mm) (hn : ns.length + d.nodes.length * 2 ^ (o.length + 1) + 1 ≤ 1000000000) :
    Fh Tryz.prog 79 (THp gT gU gM og o pl ns mm) [.c (.optr gT 0), .agg (dgc false d)] (OpQ gT gU gM o pl ns (d.nodes.length * 2 ^ (o.length + 1)) fun s => evalD d.nodes s d.root) := by
  have k1 := ok.n4096
  have k2 := ok.r0
  have k3 := ok.r1
  have hB : 0 < 2 ^ (o.length + 1) := Nat.pow_pos (by omega)
  refine fh_of_body Tryz.func79 rfl rfl (by simp [Tryz.ntmps79]) fun C hC => ?_
  simp only [initS, Nat.reduceAdd]
  simp only [THp, TH, List.cons_append, List.nil_append]
  refine xG ?_
  refine xB fun g3 hn_g3=>?_
  refine yG hn_g3 ?_
  refine aw_make (n := d.nodes.length + 2) (c := d.nodes.length + 2) (size := 1) (bytes := 8) (z := [.int .i64 0]) rfl rfl rfl (zE hn_g3) (zE hn_g3) rfl (by omega) (zE hn_g3) (zE hn_g3) (by omega) (by omega) (by omega) (by omega) (by omega) fun g5 hn_g5 => ?_
  clear hn_g5 hn_g3
  simp only [Nat.mul_one]
  rw [make_is]
  refine aw_nd fun hnd => ?_
  simp only [Heap.keys, List.map_cons] at hnd
  replace hnd := ndP_of hnd
  dsimp only [ndP, neA] at hnd
  refine yS hnd ?_
  refine yG hnd ?_
  refine yW hnd ?_
  refine yS hnd ?_
  rw [updF_is (zs := List.replicate (d.nodes.length + 2) 0) (i := 1) (v := 1) (by rw [List.length_replicate]; omega)]
  refine yG hnd ?_
  refine aw_lp (fun x : Nat × Option Nat × List DN × Mem3 × List Int => [(0, .c (.optr gT 0)), (3, .c (.optr g3 0)), (5, .c (.osl g5 1 0 (d.nodes.length + 2))), (16, .c (dns false d.nodes)), (17, .c (.int .i64 d.nodes.length)), (18, .c (.int .i64 x.1))]) (fun x => [(g5, .cells 3 (d.nodes.length + 2) (isF x.2.2.2.2)), (g3, .cells 25 3 (ofL (dgc false d)))] ++ THp gT gU gM x.2.1 o pl x.2.2.1 x.2.2.2.1)
    (fun x => x.1 ≤ d.nodes.length ∧ TS o x.2.1 x.2.2.1 x.2.2.2.1 ∧ Later o ns x.2.2.1 (x.1 * 2 ^ (o.length + 1)) ∧ x.2.2.2.2.length = d.nodes.length + 2 ∧ TrOk d x.2.2.1 x.2.2.2.2 x.1) (fun x => d.nodes.length - x.1) (0, og, ns, mm, (List.replicate (d.nodes.length + 2) 0).set 1 1) (zB hnd) zZ ⟨Nat.zero_le _, hs, Later.refl hs.tab _, by simp, tr_zero (by omega)⟩ ?_
  clear hnd
  rintro ⟨k, og', ns', mm', rs⟩ ⟨hk, hs', hl', hrl, hi⟩
  dsimp only at hk hs' hl' hrl hi ⊢
  simp only [THp, TH, List.cons_append, List.nil_append]
  refine aw_nd fun hnd => ?_
  simp only [Heap.keys, List.map_cons] at hnd
  replace hnd := ndP_of hnd
  dsimp only [ndP, neA] at hnd
  have hln := hl'.len
  refine yG hnd ?_
  refine yF hnd (fun h1=>?_) fun h1=>?_
  · have h1' : k < d.nodes.length := by have := of_decide_eq_true h1; omega
    have hkb : k * 2 ^ (o.length + 1) + 2 ^ (o.length + 1) ≤ d.nodes.length * 2 ^ (o.length + 1) := by
      have := Nat.mul_le_mul_right (2 ^ (o.length + 1)) (show k + 1 ≤ d.nodes.length by omega)
      rwa [Nat.add_mul, Nat.one_mul] at this
    obtain ⟨v0, v1, l0, l1, q0, q1⟩ := ok.ns k h1'
    obtain ⟨r1, _⟩ := hi.ref (d.nodes.getD k dn0).lo.toNat (by omega)
    obtain ⟨r2, _⟩ := hi.ref (d.nodes.getD k dn0).hi.toNat (by omega)
    have hst : ∀ {ns2 : List DN} {m : Nat} {x : Int}, Later o ns' ns2 m → RefOk ns2 x → (∀ s, evalD ns2 s x = if s.testBit (d.nodes.getD k dn0).v.toNat then evalD ns' s (rs.getD (d.nodes.getD k dn0).hi.toNat 0) else evalD ns' s (rs.getD (d.nodes.getD k dn0).lo.toNat 0)) → TrOk d ns2 (rs.set (2 + k) x) (k + 1) := fun a b c => tr_step ok hs'.tab a h1' (by omega) hi b c
    refine yG hnd ?_
    refine yA hnd fun g7 hn_g7=>?_
    clear hn_g7
    refine aw_nd fun hnd2 => ?_
    simp only [Heap.keys, List.map_cons] at hnd2
    replace hnd2 := ndP_of hnd2
    dsimp only [ndP, neA] at hnd2
    clear hnd
    refine yG hnd2 ?_
    refine yW hnd2 ?_
    refine yS hnd2 ?_
    generalize hx0 : d.nodes.getD k dn0 = nd at *
    refine yG (oj hnd2 hx0) ?_
    refine aw_cw ([(g5, .cells 3 (d.nodes.length + 2) (isF rs)), (g7, .cells 88 3 (ofL [.int .i64 nd.v, .int .i64 nd.lo, .int .i64 nd.hi]))]) [(0,0),(1,0),(2,0),(3,0),(4,0),(5,0),(6,0),(8,0),(9,0),(10,0),(11,0),(12,0),(13,0),(14,0),(15,0),(16,0),(17,0),(7,1),(18,1),(19,0),(20,2)] ty_mixed (by kernel_rfl) eI ?_
    refine yG (oj hnd2 hx0) ?_
    refine cw_callh (hc := THp gT gU gM og' o pl ns' mm') (hr := [(g7, .cells 88 3 (ofL [.int .i64 nd.v, .int .i64 nd.lo, .int .i64 nd.hi])), (g5, .cells 3 (d.nodes.length + 2) (isF rs)), (g3, .cells 25 3 (ofL (dgc false d)))]) rfl (tevent_fh gT gU gM hs' (by omega) v0 (by omega)) rfl rfl rfl (List.perm_append_comm (l₁ := [(g7, _), (g5, _), (g3, _)])) (zL (oj hnd2 hx0)) (by
      rintro _ _ ⟨_, _, _, _, _, _, _, _, rfl, rfl⟩; exact has0_app2 eI) ?_ (hm := .inr ⟨rfl, rfl⟩)
    rintro _ _ ⟨og1, ns1, mm1, c1, e1, e2, e3, e4, rfl, rfl⟩ _
    have n1 := e2.len
    refine yS (oj hnd2 hx0) ?_
    refine yG (oj hnd2 hx0) ?_
    refine cw_callh (hc := THp gT gU gM og1 o pl ns1 mm1) (hr := [(g7, .cells 88 3 (ofL [.int .i64 nd.v, .int .i64 nd.lo, .int .i64 nd.hi])), (g5, .cells 3 (d.nodes.length + 2) (isF rs)), (g3, .cells 25 3 (ofL (dgc false d)))]) rfl (choose_fh gT gU gM ho e1 (by omega) e3 (e2.ref r2) (e2.ref r1)) rfl rfl rfl (.refl _) (zL (oj hnd2 hx0)) (by
      rintro _ _ ⟨_, _, _, _, _, _, _, _, rfl, rfl⟩; exact has0_app2 eI) ?_ (hm := .inr ⟨rfl, rfl⟩)
    rintro _ _ ⟨og2, ns2, mm2, x, f1, f2, f3, f4, rfl, rfl⟩ _
    have n2 := f2.len
    refine yS (oj hnd2 hx0) ?_
    refine cw_perm List.perm_append_comm ?_
    simp only [List.cons_append, List.nil_append]
    refine yS (oj hnd2 hx0) ?_
    refine yG (oj hnd2 hx0) ?_
    refine cw_store (FP' := []) rfl rfl rfl rfl rfl (zE (oj hnd2 hx0)) (zE (oj hnd2 hx0)) (zE (oj hnd2 hx0)) (zE (oj hnd2 hx0)) (fun _ e => by cases e) rfl rfl (by show (2 + (k : Int)).toNat + 1 ≤ _; omega) rfl has0_nil ?_
    simp only [AV.cells]
    rw [show ((2 : Int) + (k : Int)).toNat = 2 + k from by omega, updF_is (by omega)]
    refine yS (oj hnd2 hx0) ?_
    refine yG (oj hnd2 hx0) ?_
    have l02 := e2.trans f2 (Nat.le_refl _)
    have hk1 : (k + 1) * 2 ^ (o.length + 1) = k * 2 ^ (o.length + 1) + 2 ^ (o.length + 1) := by rw [Nat.add_mul, Nat.one_mul]
    refine aw_stop ⟨(k + 1, og2, ns2, mm2, rs.set (2 + k) x), by dsimp only; omega, (zB (oj hnd2 hx0)), List.Sublist.cons _ (List.Sublist.refl _), by dsimp only; omega, f1, hl'.trans l02 (by dsimp only; omega), by dsimp only; rw [List.length_set]; exact hrl, ?_⟩
    refine hst l02 f3 fun s => ?_
    rw [f4 s]
    dsimp only
    rw [e4 s, e2.eval hs'.tab r1, e2.eval hs'.tab r2]
  · have h1' : k = d.nodes.length := by have := of_decide_eq_false h1; omega
    subst h1'
    have hrt : ((d.root.toNat : Nat) : Int) = d.root := by omega
    obtain ⟨r1, r3⟩ := hi.ref d.root.toNat (by omega)
    rw [hrt] at r3
    refine yG hnd ?_
    refine aw_keep [(4, .c (.int .i64 (rs.getD d.root.toNat 0)))] (THp gT gU gM og' o pl ns' mm') (zB hnd) (List.Sublist.cons _ (List.Sublist.cons _ (List.Sublist.refl _))) ?_
    refine yU hnd ?_
    exact ⟨og', ns', mm', _, hs', hl', r1, r3, rfl, rfl⟩
theorem ints_ext {xs ys : List Int} (hl : xs.length = ys.length) (h : ∀ j, j < xs.length → xs.getD j 0 = ys.getD j 0) : xs = ys := by
  apply List.ext_getElem hl
  intro i h1 h2
  have := h i h1
  rw [List.getD_eq_getElem?_getD, List.getD_eq_getElem?_getD, List.getElem?_eq_getElem h1, List.getElem?_eq_getElem h2] at this
  exact this
set_option maxHeartbeats 800000 in
theorem ints_fa (xs ys : List Int) (hl : xs.length ≤ 68719476736) : Fa Tryz.prog 21 [.c (is false xs), .c (is false ys)] (.c (.bool (decide (xs = ys)))) := by
  refine fa_of_body Tryz.func21 rfl rfl (by simp [Tryz.ntmps21]) fun C hC => ?_
  simp only [initS, Nat.reduceAdd]
  refine xG ?_
  refine xF (fun hb=>?_) fun hb=>?_
  · refine xG ?_
    refine xT hC ?_
    refine .one (.c (ler_bool ?_))
    have : xs ≠ ys := fun e => by rw [e] at hb; simp at hb
    simp [this]
  · have hlen : xs.length = ys.length := by
      have : ((xs.length : Int) == (ys.length : Int)) = true := by simpa [bne] using hb
      have := eq_of_beq this; omega
    refine xG ?_
    refine aw_lp (fun i : Nat => [(0, .c (is false xs)), (1, .c (is false ys)), (12, .c (.int .i64 xs.length)), (13, .c (.int .i64 i))]) (fun _ => []) (fun i => i ≤ xs.length ∧ ∀ j, j < i → xs.getD j 0 = ys.getD j 0) (fun i => xs.length - i) 0 eB zZ ⟨Nat.zero_le _, fun j hj => by omega⟩ ?_
    rintro i ⟨hi, hs⟩
    refine xG ?_
    refine xF (fun hb=>?_) fun hb=>?_
    · have hin : i < xs.length := by have := of_decide_eq_true hb; omega
      refine xG ?_
      refine aw_dr 9 ty_mixed (by kernel_rfl) ?_
      refine xG ?_
      refine xF (fun hc=>?_) fun hc=>?_
      · refine xG ?_
        refine xT hC ?_
        refine .one (.c (ler_bool ?_))
        have : xs ≠ ys := fun e => by rw [e] at hc; simp at hc
        simp [this]
      · have he : xs.getD i 0 = ys.getD i 0 := by
          have : ((xs.getD i 0 : Int) == (ys.getD i 0 : Int)) = true := by simpa [bne] using hc
          exact eq_of_beq this
        refine xG ?_
        refine aw_stop ⟨i + 1, by omega, eB, zZ, by omega, fun j hj => ?_⟩
        by_cases hji : j = i
        · rw [hji]; exact he
        · exact hs j (by omega)
    · have hin : i = xs.length := by have := of_decide_eq_false hb; omega
      subst hin
      refine xG ?_
      refine xT hC ?_
      refine .one (.c (ler_bool ?_))
      have : xs = ys := ints_ext hlen hs
      simp [this]
end Go.Proofs.YtcoflhkcpnoaaaaGreat
namespace Go.AI
def dgZ : DG := ⟨[], [], 0⟩
def dgsF (ds : List DG) : Nat → CV := lf 3 (fun d : DG => [is false d.order, dns false d.nodes, CV.int .i64 d.root]) dgZ ds
@[go_sem] theorem dgsF_0 (ps : List DG) (i : Nat) : dgsF ps (i * 3) = is false (ps.getD i dgZ).order := by
  have := lf_at (s := 3) (c := fun d : DG => [is false d.order, dns false d.nodes, CV.int .i64 d.root]) (d := dgZ) (xs := ps) (i := i) (k := 0) (by omega)
  exact this
@[go_sem] theorem dgsF_1 (ps : List DG) (i : Nat) : dgsF ps (i * 3 + 1) = dns false (ps.getD i dgZ).nodes := by
  have := lf_at (s := 3) (c := fun d : DG => [is false d.order, dns false d.nodes, CV.int .i64 d.root]) (d := dgZ) (xs := ps) (i := i) (k := 1) (by omega)
  exact this
@[go_sem] theorem dgsF_2 (ps : List DG) (i : Nat) : dgsF ps (i * 3 + 2) = .int .i64 (ps.getD i dgZ).root := by
  have := lf_at (s := 3) (c := fun d : DG => [is false d.order, dns false d.nodes, CV.int .i64 d.root]) (d := dgZ) (xs := ps) (i := i) (k := 2) (by omega)
  exact this
@[go_sem] theorem dgsF_00 (ps : List DG) : dgsF ps 0 = is false (ps.getD 0 dgZ).order := dgsF_0 ps 0
end Go.AI
namespace Go.PN
open Go.AI
instance c16dec (ds : List DG) : Decidable (∀ j, j < ds.length → (ds.getD j dgZ).order = (ds.getD 0 dgZ).order) := Nat.decidableBallLT _ _
theorem perm_mid {α : Type} (a : α) (T R : List α) : (a :: (T ++ R)).Perm (T ++ (a :: R)) := List.perm_middle.symm
structure OpS (ds : List DG) (k : Nat) (ns : List DN) (rl : List Int) : Prop where
  len : rl.length = k
  ref : ∀ j, j < k → RefOk ns (rl.getD j 0) ∧ ∀ s, evalD ns s (rl.getD j 0) = evalD (ds.getD j dgZ).nodes s (ds.getD j dgZ).root
theorem OpS.push {ds : List DG} {k : Nat} {o : List Int} {ns ns' : List DN} {m : Nat} {rl : List Int} {x : Int} (h : OpS ds k ns rl) (ht : TabOk o ns) (hl : Later o ns ns' m) (hx : RefOk ns' x) (he : ∀ s, evalD ns' s x = evalD (ds.getD k dgZ).nodes s (ds.getD k dgZ).root) : OpS ds (k + 1) ns' (rl ++ [x]) := by
  have hlen := h.len
  refine ⟨by simp [h.len], fun j hj => ?_⟩
  by_cases e : j = k
  · have e1 : (rl ++ [x]).getD j 0 = x := by
      rw [List.getD_eq_getElem?_getD, List.getElem?_append_right (by omega), show j - rl.length = 0 from by omega]; rfl
    rw [e1, e]
    exact ⟨hx, he⟩
  · obtain ⟨a, b⟩ := h.ref j (by omega)
    have e1 : (rl ++ [x]).getD j 0 = rl.getD j 0 := by
      rw [List.getD_eq_getElem?_getD, List.getElem?_append_left (by omega), ← List.getD_eq_getElem?_getD]
    rw [e1]
    exact ⟨hl.ref a, fun s => by rw [hl.eval ht a]; exact b s⟩
end Go.PN

namespace Go.PN
open Go.AI
structure DOut (o : List Int) (f : Nat → Bool) (D : DG) : Prop where
  order : D.order = o
  code : dcode D = 0
  ev : ∀ s, evalD D.nodes s D.root = f s
theorem dout_of {o : List Int} {ns : List DN} {rs : List Int} {os : List DN} {r x : Int} (ho : ocode o o.length = 0) (h12 : o.length ≤ 12) (hm : ∀ v : Int, 0 ≤ v → v < o.length → v ∈ o) (ht : TabOk o ns) (hr : RefOk ns r) (h : Ex o ns [] [] rs os r x) : DOut o (fun s => evalD ns s r) ⟨o, os, x⟩ := by
  refine ⟨rfl, ex_code ho ht hr h ?_, fun s => h.ok.eval ht s x.toNat r x (Nat.le_refl _) hr.1 hr.2 h.ref⟩
  have h0 := lv3_nonneg hm ht hr
  have hl := h.len
  have hp : 2 ^ ((o.length : Int) - lvZ o ns r).toNat ≤ 2 ^ 12 := Nat.pow_le_pow_right (by omega) (by omega)
  rw [h.ok.len]
  simp only [List.length_nil] at hl
  omega
end Go.PN

namespace Go.PN
open Go.AI
theorem lv_eq_node {o : List Int} {ns : List DN} {r : Int} (h2 : 2 ≤ r) : lvZ o ns r = placeZ o (ns.getD (r - 2).toNat dn0).v := by unfold lvZ; rw [if_neg (by omega)]
theorem place_inj {o : List Int} {a b : Int} (ha : a ∈ o) (hb : b ∈ o) (h : placeZ o a = placeZ o b) : a = b := by
  have h0 := place_nonneg ha
  have e1 := place_at (o := o) (v := a) rfl h0 ha
  have e2 := place_at (o := o) (v := b) (L := placeZ o a) h.symm h0 hb
  rw [← e1, ← e2]
theorem node_told {o : List Int} {ns : List DN} (ht : TabOk o ns) {r : Int} (h2 : 2 ≤ r) (hr : r < ns.length + 2) (s : Nat) (b : Bool) :
    evalD ns (setB s (ns.getD (r - 2).toNat dn0).v.toNat b) r = evalD ns s (if b then (ns.getD (r - 2).toNat dn0).hi else (ns.getD (r - 2).toNat dn0).lo) := by
  have hi' : (r - 2).toNat < ns.length := by omega
  have nd := ht _ hi'
  obtain ⟨v0, v1, _, _, _, _⟩ := nd.nk
  obtain ⟨r1, r2⟩ := kids_ref ht hi'
  have hv : (((ns.getD (r - 2).toNat dn0).v.toNat : Nat) : Int) = (ns.getD (r - 2).toNat dn0).v := by omega
  rw [evalD_step ht.ns h2 hr]
  unfold kid
  rw [setB_bit, if_pos rfl]
  cases b with
  | true => exact setB_indep ht r2 (by rw [hv]; exact nd.bh) s true
  | false => exact setB_indep ht r1 (by rw [hv]; exact nd.bl) s false
theorem tab_canon {o : List Int} {ns : List DN} (hm : ∀ v : Int, 0 ≤ v → v < o.length → v ∈ o) (ht : TabOk o ns) : ∀ (k : Nat) (a b : Int), RefOk ns a → RefOk ns b → (o.length - lvZ o ns a).toNat ≤ k → (o.length - lvZ o ns b).toNat ≤ k → (∀ s, evalD ns s a = evalD ns s b) → a = b := by
  intro k
  induction k with
  | zero =>
    intro a b ha hb la lb h
    have leaf : ∀ r : Int, RefOk ns r → (o.length - lvZ o ns r).toNat ≤ 0 → r < 2 := fun r hr hl => by
      refine Classical.byContradiction fun hc => ?_
      have := lv_lt ht hr (by omega)
      omega
    have a2 := leaf a ha la
    have b2 := leaf b hb lb
    have := h 0
    rw [evalD_leaf (by omega), evalD_leaf (by omega)] at this
    unfold RefOk at ha hb
    have e : decide (a = 1) = decide (b = 1) := by simpa using this
    rw [decide_eq_decide] at e
    omega
  | succ k ih =>
    have below : ∀ a b : Int, RefOk ns a → RefOk ns b → (o.length - lvZ o ns a).toNat ≤ k + 1 → 2 ≤ a → lvZ o ns a < lvZ o ns b → (∀ s, evalD ns s a = evalD ns s b) → False := by
      intro a b ha hb la a2 hlt h
      have hi' : (a - 2).toNat < ns.length := by unfold RefOk at ha; omega
      have nd := ht _ hi'
      obtain ⟨v0, v1, _, _, _, _⟩ := nd.nk
      obtain ⟨r1, r2⟩ := kids_ref ht hi'
      have hv : (((ns.getD (a - 2).toNat dn0).v.toNat : Nat) : Int) = (ns.getD (a - 2).toNat dn0).v := by omega
      have hla := lv_eq_node (o := o) (ns := ns) a2
      have b1 := nd.bl
      have b2 := nd.bh
      refine nd.ne (ih _ _ r1 r2 (by omega) (by omega) fun s => ?_)
      have t := node_told ht a2 ha.2 s true
      have f := node_told ht a2 ha.2 s false
      rw [if_pos rfl] at t
      rw [if_neg (by simp)] at f
      rw [← f, ← t, h, h, setB_indep ht hb (by rw [hv, ← hla]; exact hlt), setB_indep ht hb (by rw [hv, ← hla]; exact hlt)]
    intro a b ha hb la lb h
    by_cases hl : lvZ o ns a = lvZ o ns b
    · by_cases a2 : 2 ≤ a
      · have b2 : 2 ≤ b := by
          refine Classical.byContradiction fun hc => ?_
          have h1 := lv_lt ht ha a2
          have h3 : lvZ o ns b = o.length := by unfold lvZ; rw [if_pos (by omega)]
          omega
        have hia : (a - 2).toNat < ns.length := by unfold RefOk at ha; omega
        have hib : (b - 2).toNat < ns.length := by unfold RefOk at hb; omega
        have na := ht _ hia
        have nb := ht _ hib
        obtain ⟨v0, v1, _, _, _, _⟩ := na.nk
        obtain ⟨u0, u1, _, _, _, _⟩ := nb.nk
        obtain ⟨ra, sa⟩ := kids_ref ht hia
        obtain ⟨rb, sb⟩ := kids_ref ht hib
        have hla := lv_eq_node (o := o) (ns := ns) a2
        have hlb := lv_eq_node (o := o) (ns := ns) b2
        have ev : (ns.getD (a - 2).toNat dn0).v = (ns.getD (b - 2).toNat dn0).v := place_inj (hm _ v0 v1) (hm _ u0 u1) (by omega)
        have q1 := na.bl
        have q2 := na.bh
        have q3 := nb.bl
        have q4 := nb.bh
        have el : (ns.getD (a - 2).toNat dn0).lo = (ns.getD (b - 2).toNat dn0).lo := ih _ _ ra rb (by omega) (by omega) fun s => by
          have f := node_told ht a2 ha.2 s false
          have g := node_told ht b2 hb.2 s false
          rw [if_neg (by simp)] at f g
          rw [← f, ← g, ev, h]
        have eh : (ns.getD (a - 2).toNat dn0).hi = (ns.getD (b - 2).toNat dn0).hi := ih _ _ sa sb (by omega) (by omega) fun s => by
          have f := node_told ht a2 ha.2 s true
          have g := node_told ht b2 hb.2 s true
          rw [if_pos rfl] at f g
          rw [← f, ← g, ev, h]
        have same : ns.getD (a - 2).toNat dn0 = ns.getD (b - 2).toNat dn0 := by
          cases hA : ns.getD (a - 2).toNat dn0
          cases hB : ns.getD (b - 2).toNat dn0
          rw [hA, hB] at ev el eh
          dsimp only at ev el eh
          rw [ev, el, eh]
        refine Classical.byContradiction fun hne => ?_
        rcases Nat.lt_or_gt_of_ne (show (a - 2).toNat ≠ (b - 2).toNat from fun e => hne (by omega)) with hlt | hlt
        · refine nb.new ?_
          rw [← same]
          exact take_memN.2 ⟨_, hlt, hia, rfl⟩
        · refine na.new ?_
          rw [same]
          exact take_memN.2 ⟨_, hlt, hib, rfl⟩
      · have b2 : b < 2 := by
          refine Classical.byContradiction fun hc => ?_
          have h1 := lv_lt ht hb (by omega)
          have h3 : lvZ o ns a = o.length := by unfold lvZ; rw [if_pos (by omega)]
          omega
        have := h 0
        rw [evalD_leaf (by omega), evalD_leaf (by omega)] at this
        unfold RefOk at ha hb
        have e : decide (a = 1) = decide (b = 1) := by simpa using this
        rw [decide_eq_decide] at e
        omega
    · exfalso
      rcases Int.lt_or_gt_of_ne hl with hlt | hlt
      · refine below a b ha hb la ?_ hlt h
        refine Classical.byContradiction fun hc => ?_
        have h3 : lvZ o ns a = o.length := by unfold lvZ; rw [if_pos (by omega)]
        have := lv_le (o := o) (ns := ns) (r := b)
        omega
      · refine below b a hb ha lb ?_ hlt fun s => (h s).symm
        refine Classical.byContradiction fun hc => ?_
        have h3 : lvZ o ns b = o.length := by unfold lvZ; rw [if_pos (by omega)]
        have := lv_le (o := o) (ns := ns) (r := a)
        omega
end Go.PN
namespace Go.Proofs.YtcoflhkcpnoaaaaGreat
open Go.AI Go.PN
theorem Small.set {d : DG} {p : List RD} (hs : Small d p) (h : dpcode d p = 0) {i : Nat} {q : RD} (hq : q.wf 4) : Small d (p.set i q) :=
  ⟨fun r hr => by
    rcases List.mem_or_eq_of_mem_set hr with hr | rfl
    · exact hs.w r hr
    · exact hq, by rw [List.length_set]; exact hs.l, hs.o, hs.n, fun _ => hs.o6 h⟩
end Go.Proofs.YtcoflhkcpnoaaaaGreat
namespace Go.PN
open Go.AI
def MonoF (n : Nat) (f : Nat → Bool) : Prop := ∀ i : Nat, i < n → ∀ s, f (setB s i false) = true → f (setB s i true) = true
end Go.PN

namespace Go.PN
open Go.AI
def natL (n : Nat) : List Int := (List.range n).map fun (i : Nat) => (i : Int)
theorem natL_len (n : Nat) : (natL n).length = n := by simp [natL]
theorem natL_perm (n : Nat) : Perm0 (natL n) := by
  refine ⟨fun x hx => ?_, ?_⟩
  · unfold natL at hx
    obtain ⟨i, hi, rfl⟩ := List.mem_map.1 hx
    rw [List.mem_range] at hi
    rw [natL_len]
    omega
  · exact List.Pairwise.map _ (fun a b h e => h (by omega)) List.nodup_range
theorem ints_extZ {xs ys : List Int} (hl : xs.length = ys.length) (h : ∀ j, j < xs.length → xs.getD j 0 = ys.getD j 0) : xs = ys := by
  apply List.ext_getElem hl
  intro i h1 h2
  have := h i h1
  rw [List.getD_eq_getElem?_getD, List.getD_eq_getElem?_getD, List.getElem?_eq_getElem h1, List.getElem?_eq_getElem h2] at this
  exact this
theorem natL_end {zs : List Int} {n : Nat} (hl : zs.length = n) (h : ∀ j, j < n → zs.getD j 0 = j) : zs = natL n := by
  refine ints_extZ (by rw [hl, natL_len]) fun j hj => ?_
  rw [h j (by omega)]
  unfold natL
  rw [List.getD_eq_getElem?_getD, List.getElem?_map, List.getElem?_range (by omega)]; rfl
end Go.PN
namespace Go.Proofs.YtcoflhkcpnoaaaaGreat
open Go.AI Go.PN
attribute [local irreducible] aw Fa Fh DrK
theorem canon1 {o : List Int} {ns : List DN} (hm : ∀ v : Int, 0 ≤ v → v < o.length → v ∈ o) (ht : TabOk o ns) {r : Int} (hr : RefOk ns r) : r = 1 ↔ ∀ s, evalD ns s r = true := by
  constructor
  · rintro rfl s; exact ev1
  · intro h
    have h1 : RefOk ns 1 := ref1
    exact tab_canon hm ht o.length r 1 hr h1 (by have := lv3_nonneg hm ht hr; omega) (by have := lv3_nonneg hm ht h1; omega) fun s => by rw [h s, ev1]
set_option maxHeartbeats 800000 in
theorem natural_fa (n : Nat) (hn : n ≤ 24) : Fa Tryz.prog 121 [.c (.int .i64 n)] (.c (is true (natL n))) := by
  refine fa_of_body Tryz.func121 rfl rfl (by simp [Tryz.ntmps121]) fun C hC => ?_
  simp only [initS, Nat.reduceAdd]
  refine xG ?_
  refine aw_make (n := n) (c := n) (size := 1) (z := [.int .i64 0]) rfl rfl rfl eE eE rfl (by omega) eE eE rfl rfl (by omega) (by omega) (by omega) fun g hg => ?_
  rw [make_is n]
  refine xS ?_
  refine xG ?_
  refine aw_lp (fun x : Nat × List Int => [(3, .c (.osl g 1 0 n)), (8, .c (.int .i64 n)), (9, .c (.int .i64 x.1))]) (fun x => [(g, .cells 3 n (isF x.2))])
    (fun x => x.1 ≤ n ∧ x.2.length = n ∧ ∀ k, k < x.1 → x.2.getD k 0 = k) (fun x => n - x.1) (0, List.replicate n 0) eB zZ ⟨Nat.zero_le _, by simp, fun k hk => by omega⟩ ?_
  rintro ⟨i, zs⟩ ⟨hi, hzl, hz⟩
  dsimp only at hi hzl hz ⊢
  refine xG ?_
  refine xF (fun hb1=>?_) fun hb1=>?_
  · have hin : i < n := by have := of_decide_eq_true hb1; omega
    refine xG ?_
    refine xW ?_
    refine xS ?_
    rw [updF_is (by omega)]
    refine xG ?_
    refine aw_stop ⟨(i + 1, zs.set i i), by dsimp only; omega, eB, zZ, by dsimp only; omega, by simpa using hzl, fun k hk => ?_⟩
    dsimp only at hk ⊢
    by_cases hki : k = i
    · subst hki; exact getZset (by omega)
    · rw [getZset' hki]; exact hz k (by omega)
  · have hin : i = n := by have := of_decide_eq_false hb1; omega
    subst hin
    refine xG ?_
    refine xT hC ?_
    rw [← natL_end hzl hz]
    exact .one (.c (ler_oslis eE hzl.symm))
set_option maxHeartbeats 800000 in
theorem Natural_fa (n : Nat) (hn : n ≤ 24) : Fa Tryz.prog 78 [.c (.int .i64 n)] (.tup [.c (is true (natL n)), .c .nilI]) := by
  have z1 : decide ((n : Int) < 0) = false := decide_eq_false (by omega)
  have z2 : decide ((n : Int) > 24) = false := decide_eq_false (by omega)
  refine fa_of_body Tryz.func78 rfl rfl (by simp [Tryz.ntmps78]) fun C hC => ?_
  simp only [initS, Nat.reduceAdd]
  refine yG (oj z1 z2) ?_
  refine yN (oj z1 z2) ?_
  refine yG (oj z1 z2) ?_
  refine yC (oj z1 z2) (natural_fa n hn) ?_
  refine yG (oj z1 z2) ?_
  refine yT hC (oj z1 z2) ?_
  exact .tup ⟨.c ler_is, .c .nilI, trivial⟩
set_option maxRecDepth 100000 in
set_option maxHeartbeats 3200000 in
theorem cnatural_fh (d : DG) (h0 : dcode d = 0) (h12 : d.order.length ≤ 12) : Fh Tryz.prog 42 [] [.agg (dgc false d)] (fun x h => ∃ gT gU gM og ns mm r, TS (natL d.order.length) og ns mm ∧ RefOk ns r ∧ (∀ s, evalD ns s r = evalD d.nodes s d.root) ∧ ns.length ≤ 4096 * 2 ^ (d.order.length + 1) ∧ x = .tup [.c (.optr gT 0), .c (.int .i64 r), .c .nilI] ∧ h = THp gT gU gM og (natL d.order.length) (placesL (natL d.order.length)) ns mm) := by
  have ok := dg_ok h0
  have k1 := ok.n4096
  have hod : OdOk (natL d.order.length) (placesL (natL d.order.length)) := ⟨natL_perm _, pl_ok (natL_perm _), by rw [natL_len]; omega⟩
  have hol := natL_len d.order.length
  have hp : 2 ^ (d.order.length + 1) ≤ 2 ^ 13 := Nat.pow_le_pow_right (by omega) (by omega)
  have hm := Nat.mul_le_mul k1 hp
  have hm2 := Nat.mul_le_mul_right (2 ^ (d.order.length + 1)) k1
  have z0 := ieq_t h0
  have ts0 : TS (natL d.order.length) none [] [] := ⟨fun _ => rfl, fun i hi => absurd hi (Nat.not_lt_zero _), fun e he => absurd he List.not_mem_nil⟩
  refine fh_of_body Tryz.func42 rfl rfl (by simp [Tryz.ntmps42]) fun C hC => ?_
  simp only [initS, Nat.reduceAdd]
  refine yG z0 ?_
  refine yB z0 fun g1 hn_g1=>?_
  refine yG (oj z0 hn_g1) ?_
  refine aw_callq (dcheck_fa d (by omega) (by omega)) rfl rfl rfl (zL (oj z0 hn_g1)) ?_
  refine yS (oj z0 hn_g1) ?_
  refine yG (oj z0 hn_g1) ?_
  refine yN (oj z0 hn_g1) ?_
  refine yG (oj z0 hn_g1) ?_
  refine aw_callq (Natural_fa d.order.length (by omega)) rfl rfl rfl (zL (oj z0 hn_g1)) ?_
  refine yS (oj z0 hn_g1) ?_
  refine yG (oj z0 hn_g1) ?_
  refine yN (oj z0 hn_g1) ?_
  refine yG (oj z0 hn_g1) ?_
  generalize natL d.order.length = o at *
  refine aw_callh (hc := []) (hr := [(g1, .cells 25 3 (ofL (dgc false d)))]) (new_fh o hod.perm hod.l24) rfl rfl rfl (.refl _) (zL (oj z0 hn_g1)) ?_
  rintro _ _ ⟨gT, gU, gM, rfl, rfl⟩ hfr
  refine yS (oj z0 hn_g1) ?_
  refine aw_perm List.perm_append_comm ?_
  refine yS (oj z0 hn_g1) ?_
  refine yG (oj z0 hn_g1) ?_
  refine aw_perm (h' := THp gT gU gM none o (placesL o) [] [] ++ [(g1, .cells 25 3 (ofL (dgc false d)))]) (List.perm_append_comm (l₁ := [(g1, _)])) ?_
  refine aw_callh (translate_fh gT gU gM d ok hod hol ts0 (by rw [hol]; simp only [List.length_nil]; omega)) rfl rfl rfl (.refl _) (zL (oj z0 hn_g1)) ?_
  rintro _ _ ⟨og1, ns1, mm1, r1, s1, l1, p1, f1, rfl, rfl⟩ _
  have n1 := l1.len
  rw [hol] at n1
  simp only [List.length_nil] at n1
  refine yS (oj z0 hn_g1) ?_
  refine yG (oj z0 hn_g1) ?_
  refine aw_rethw (h' := THp gT gU gM og1 o (placesL o) ns1 mm1) rfl (List.sublist_append_left _ _) (fun R hR => ?_)
  simp only [go_sem, z0, hn_g1]
  refine hR _ rfl ?_
  clear hR R
  exact ⟨gT, gU, gM, og1, ns1, mm1, r1, s1, p1, f1, by omega, rfl, rfl⟩
def monoN (n : Nat) : Nat := 2 * (2 ^ n * 2 ^ (n + 1)) + 2 ^ (n + 1)
set_option maxRecDepth 100000 in
set_option maxHeartbeats 3200000 in
theorem monotone_fh (gT gU gM : Nat) {o pl : List Int} (ho : OdOk o pl) {og : Option Nat} {ns : List DN} {mm : Mem3} (hs : TS o og ns mm) (hn : ns.length + o.length * monoN o.length ≤ 1000000000) {r : Int} (hr : RefOk ns r) :
    Fh Tryz.prog 43 (THp gT gU gM og o pl ns mm) [.c (.optr gT 0), .c (.int .i64 r), .c (.int .i64 o.length)] (fun x h => ∃ b og' ns' mm', (b = true ↔ MonoF o.length fun s => evalD ns s r) ∧ TS o og' ns' mm' ∧ Later o ns ns' (o.length * monoN o.length) ∧ x = .c (.bool b) ∧ h = THp gT gU gM og' o pl ns' mm') := by
  have l24 := ho.l24
  have hB : 0 < 2 ^ (o.length + 1) := Nat.pow_pos (by omega)
  refine fh_of_body Tryz.func43 rfl rfl (by simp [Tryz.ntmps43]) fun C hC => ?_
  simp only [initS, Nat.reduceAdd]
  refine xG ?_
  refine aw_lp (fun x : Nat × Option Nat × List DN × Mem3 => [(0, .c (.optr gT 0)), (1, .c (.int .i64 r)), (8, .c (.int .i64 o.length)), (9, .c (.int .i64 x.1))]) (fun x => THp gT gU gM x.2.1 o pl x.2.2.1 x.2.2.2)
    (fun x => x.1 ≤ o.length ∧ TS o x.2.1 x.2.2.1 x.2.2.2 ∧ Later o ns x.2.2.1 (x.1 * monoN o.length) ∧ ∀ j, j < x.1 → ∀ s, evalD ns (setB s j false) r = true → evalD ns (setB s j true) r = true) (fun x => o.length - x.1) (0, og, ns, mm) eB zZ ⟨Nat.zero_le _, hs, Later.refl hs.tab _, fun j hj => by omega⟩ ?_
  rintro ⟨i, og0, ns0, mm0⟩ ⟨hi, hs0, hl0, hm0⟩
  dsimp only at hi hs0 hl0 hm0 ⊢
  have hln := hl0.len
  refine xG ?_
  refine xF (fun hb1=>?_) fun hb1=>?_
  · have hin : i < o.length := by have := of_decide_eq_true hb1; omega
    have hst : (i + 1) * monoN o.length = i * monoN o.length + monoN o.length := by rw [Nat.add_mul, Nat.one_mul]
    have hle : (i + 1) * monoN o.length ≤ o.length * monoN o.length := Nat.mul_le_mul_right _ hin
    have hmn : monoN o.length = 2 * (2 ^ o.length * 2 ^ (o.length + 1)) + 2 ^ (o.length + 1) := rfl
    have hr0 := hl0.ref hr
    refine xG ?_
    refine aw_callh (hr := []) (restrict_fh gT gU gM ho hin hs0 (by omega) hr0 false) rfl rfl rfl (by rw [List.append_nil]) eL ?_
    rintro _ _ ⟨og1, ns1, mm1, r1, s1, l1, q1, f1, rfl, rfl⟩ _
    rw [List.append_nil]
    have n1 := l1.len
    refine xS ?_
    refine xG ?_
    refine aw_callh (hr := []) (restrict_fh gT gU gM ho hin s1 (by omega) (l1.ref hr0) true) rfl rfl rfl (by rw [List.append_nil]) eL ?_
    rintro _ _ ⟨og2, ns2, mm2, r2, s2, l2, q2, f2, rfl, rfl⟩ _
    rw [List.append_nil]
    have n2 := l2.len
    refine xS ?_
    refine xG ?_
    refine aw_callh (hr := []) (choose_fh gT gU gM ho s2 (by omega) (l2.ref q1) q2 ref1) rfl rfl rfl (by rw [List.append_nil]) eL ?_
    rintro _ _ ⟨og3, ns3, mm3, r3, s3, l3, q3, f3, rfl, rfl⟩ _
    rw [List.append_nil]
    have n3 := l3.len
    have lat : Later o ns ns3 ((i + 1) * monoN o.length) := ((hl0.trans l1 (Nat.le_refl _)).trans l2 (Nat.le_refl _)).trans l3 (by omega)
    have hsem : ∀ s, evalD ns3 s r3 = if evalD ns (setB s i false) r then evalD ns (setB s i true) r else true := fun s => by
      have a1 : evalD ns2 s r1 = evalD ns (setB s i false) r := by rw [l2.eval s1.tab q1, f1 s]; dsimp only; rw [hl0.eval hs.tab hr]
      have a2 : evalD ns2 s r2 = evalD ns (setB s i true) r := by rw [f2 s]; dsimp only; rw [l1.eval hs0.tab hr0, hl0.eval hs.tab hr]
      rw [f3 s]
      dsimp only
      rw [a1, a2, ev1]
    have hc := canon1 ho.mem s3.tab q3
    refine xS ?_
    refine xG ?_
    refine xF (fun hb2=>?_) fun hb2=>?_
    · have hne : ¬ r3 = 1 := by simpa using hb2
      refine xG ?_
      refine xU ?_
      refine ⟨false, og3, ns3, mm3, ⟨fun h => (Bool.false_ne_true h).elim, fun hmono => ?_⟩, s3, ⟨lat.tab, lat.pre, by have := lat.len; omega⟩, rfl, rfl⟩
      refine absurd (hc.2 fun s => ?_) hne
      rw [hsem s]
      split
      · rename_i h; exact hmono i hin s h
      · rfl
    · have heq : r3 = 1 := by simpa using hb2
      have hall := hc.1 heq
      refine xG ?_
      refine aw_stop ⟨(i + 1, og3, ns3, mm3), by dsimp only; omega, eB, zZ, by dsimp only; omega, s3, lat, fun j hj s h => ?_⟩
      by_cases hji : j = i
      · subst hji
        have := hall s
        rw [hsem s, if_pos h] at this
        exact this
      · exact hm0 j (by dsimp only at hj; omega) s h
  · have hin : i = o.length := by have := of_decide_eq_false hb1; omega
    subst hin
    refine xG ?_
    refine xU ?_
    exact ⟨true, og0, ns0, mm0, ⟨fun _ => hm0, fun _ => rfl⟩, hs0, hl0, rfl, rfl⟩
end Go.Proofs.YtcoflhkcpnoaaaaGreat
