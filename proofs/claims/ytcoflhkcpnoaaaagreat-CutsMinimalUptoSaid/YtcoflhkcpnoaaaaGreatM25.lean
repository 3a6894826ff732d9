/- Blocks of one proof, laid one behind the other by a program (merge2.py). -/
import Derived.Test.YtcoflhkcpnoaaaaGreatM24
set_option linter.unusedSimpArgs false
set_option linter.unusedVariables false
namespace Go.PN
open Go.AI
theorem popF_le : ∀ (k s : Nat), popF k s ≤ k
  | 0, _ => Nat.le_refl _
  | k + 1, s => by
    have := popF_le k (s / 2)
    unfold popF
    omega
theorem pop_le {k s : Nat} (h : s < 2 ^ k) : popN s ≤ k := by rw [pop_eq h]; exact popF_le k s
theorem RS_list : ∀ {l x y : List Nat}, RS (fun (a : List Nat) (s : Nat) (b : List Nat) => b = a ++ [s]) x l y → y = x ++ l
  | [], x, y, h => by
    have h : x = y := h
    rw [h, List.append_nil]
  | s :: l, x, y, ⟨z, h1, h2⟩ => by
    rw [RS_list h2, h1, List.append_assoc]
    rfl
theorem prof_perm {l m : List Nat} (h : l.Perm m) (n : Nat) : profN l n = profN m n := by
  unfold profN cntJ
  exact List.map_congr_left fun j _ => by rw [h.countP_eq]
theorem prof_nil (n : Nat) : profN [] n = List.replicate (n + 1) 0 := by
  unfold profN cntJ
  simp [List.map_const']
end Go.PN
namespace Go.Proofs.YtcoflhkcpnoaaaaGreat
open Go.AI Go.PN
theorem prof_snoc {l : List Nat} {n x : Nat} (hx : popN x ≤ n) : (profN l n).set (popN x) ((cntJ l (popN x) : Int) + 1) = profN (l ++ [x]) n := by
  refine prof_end (by simp [profN_len]) fun j hj => ?_
  by_cases e : j = popN x
  · subst e
    rw [getZset (by rw [profN_len]; omega), cntJ_snoc, if_pos rfl]; omega
  · rw [getZset' e, profN_get hj, cntJ_snoc, if_neg (fun h => e h.symm)]; omega
attribute [local irreducible] aw Fa Fh DrK
abbrev PrH (g8 g n : Nat) (l : List Nat) : Heap := [(g8, .cells 22 1 (ofL [.osl g 1 0 (n + 1)])), (g, .cells 3 (n + 1) (isF (profN l n)))]
set_option maxRecDepth 100000 in
set_option maxHeartbeats 3200000 in
theorem profile1_fh (g8 g n : Nat) (l : List Nat) (s : Nat) (hs : s < 2 ^ n) (h24 : n ≤ 24) (hl : l.length ≤ 1000000000) :
    Fh Tryz.prog 50 (PrH g8 g n l) [.c (.int .i64 s), .c (.optr g8 0)] (fun r h => r = .tup [] ∧ h = PrH g8 g n (l ++ [s])) := by
  have hp := pop_le hs
  have hs24 : s < 16777216 := Nat.lt_of_lt_of_le hs (Nat.pow_le_pow_right (n := 2) (by omega) h24)
  have w1 : wrapZ .u64 (s : Int) = (s : Int) := by rw [wrapZ_eq, IntKind.wrap_u64]; omega
  have e2 := profN_get (l := l) (n := n) (j := popN s) (by omega)
  have hc := cntJ_le l (popN s)
  refine fh_of_body Tryz.func50 rfl rfl (by simp [Tryz.ntmps50]) fun C hC => ?_
  simp only [initS, Nat.reduceAdd]
  refine aw_nd fun hnd => ?_
  simp only [Heap.keys, List.map_cons, List.map_nil] at hnd
  replace hnd := ndP_of hnd
  dsimp only [ndP, neA] at hnd
  refine aw_cw ([(g8, .cells 22 1 (ofL [.osl g 1 0 (n + 1)])), (g, .cells 3 (n + 1) (isF (profN l n)))]) [(0,0),(1,0),(2,0),(3,0),(4,0),(5,0),(6,0),(7,0),(8,2)] ty_mixed (by kernel_rfl) eI ?_
  refine yG (oj hnd (oj w1 e2)) ?_
  refine cw_callq rfl (ones_fa s hs24) rfl rfl rfl (fun _ _ => (zL (oj hnd (oj w1 e2)))) ?_
  refine yS (oj hnd (oj w1 e2)) ?_
  refine yG (oj hnd (oj w1 e2)) ?_
  refine cw_store (FP' := []) rfl rfl rfl rfl rfl (zE (oj hnd (oj w1 e2))) (zE (oj hnd (oj w1 e2))) (zE (oj hnd (oj w1 e2))) (zE (oj hnd (oj w1 e2))) (fun _ e => by cases e) rfl rfl (by show popN s + 1 ≤ _; omega) rfl has0_nil ?_
  simp only [AV.cells]
  rw [updF_is (by rw [profN_len]; omega), prof_snoc hp]
  refine yS (oj hnd (oj w1 e2)) ?_
  refine yG (oj hnd (oj w1 e2)) ?_
  refine yV (oj hnd (oj w1 e2)) ?_
  exact ⟨rfl, rfl⟩
set_option maxRecDepth 100000 in
set_option maxHeartbeats 3200000 in
theorem Profile_fh (d : DG) (h0 : dcode d = 0) (h10 : d.order.length ≤ 10) : Fh Tryz.prog 14 [] [.agg (dgc false d)] (fun x h => h = [] ∧ ((¬ MonoF d.order.length (fun s => evalD d.nodes s d.root) ∧ x = .tup [.c .nils, .c (errA 7)]) ∨
    (MonoF d.order.length (fun s => evalD d.nodes s d.root) ∧ ∃ l, CutL (fun s => evalD d.nodes s d.root) l ∧ l.length ≤ 1024 ∧ (∀ s ∈ l, s < 2 ^ d.order.length) ∧ x = .tup [.c (is true (profN l d.order.length)), .c .nilI]))) := by
  refine fh_of_body Tryz.func14 rfl rfl (by simp [Tryz.ntmps14]) fun C hC => ?_
  simp only [initS, Nat.reduceAdd]
  refine xG ?_
  refine xB fun g1 hn_g1=>?_
  refine yG hn_g1 ?_
  refine aw_callh (hc := []) (hr := [(g1, .cells 25 3 (ofL (dgc false d)))]) (csol_fh d h0 h10) rfl rfl rfl (.refl _) (zL hn_g1) ?_
  rintro _ _ ⟨rfl, ⟨hnm, rfl⟩ | ⟨hm, z, ⟨F, hz, hF, hzn⟩, rfl⟩⟩ _
  · refine yS hn_g1 ?_
    refine yG hn_g1 ?_
    refine yA hn_g1 fun g4 hn_g4=>?_
    refine yG (oj hn_g1 hn_g4) ?_
    refine yW (oj hn_g1 hn_g4) ?_
    refine yS (oj hn_g1 hn_g4) ?_
    refine yG (oj hn_g1 hn_g4) ?_
    refine yP (oj hn_g1 hn_g4) ?_
    refine yG (oj hn_g1 hn_g4) ?_
    refine aw_rethw (h' := []) rfl (List.nil_sublist _) (fun R hR => ?_)
    simp only [go_sem, hn_g1, hn_g4]
    refine hR _ rfl ?_
    clear hR R
    exact ⟨rfl, .inl ⟨hnm, rfl⟩⟩
  have hct := sol_cnt hz h10
  unfold cntZ at hct
  have hb0 : ∀ j : Nat, evZ d.order.length z.nodes z.root ≤ j → (0 : Nat).testBit j = false := fun j _ => Nat.zero_testBit j
  have hnd := sets_nodup hz.tab z.root hz.ref 0 hb0
  have hlt : ∀ s ∈ setsZ z.nodes z.root 0, s < 2 ^ d.order.length := fun s hs => by
    obtain ⟨t, ht, rfl⟩ := (sets_mem hz.tab z.root hz.ref 0 hb0 s).1 hs
    rw [Nat.zero_or]
    have := mem_bits hz.tab z.root hz.ref t ht
    refine Nat.lt_pow_two_of_testBit _ fun j hj => ?_
    cases hb : t.testBit j with
    | false => rfl
    | true => have := (this j hb).2; omega
  refine yS hn_g1 ?_
  refine yG hn_g1 ?_
  refine yA hn_g1 fun g4 hn_g4=>?_
  refine yG (oj hn_g1 hn_g4) ?_
  refine yW (oj hn_g1 hn_g4) ?_
  refine yS (oj hn_g1 hn_g4) ?_
  refine yG (oj hn_g1 hn_g4) ?_
  refine yN (oj hn_g1 hn_g4) ?_
  refine yG (oj hn_g1 hn_g4) ?_
  refine aw_callh (hc := []) (hr := [(g4, .cells 33 2 (ofL (zdc true z))), (g1, .cells 25 3 (ofL (dgc false d)))]) newSets_fh rfl rfl rfl (.refl _) (zL (oj hn_g1 hn_g4)) ?_
  rintro _ _ ⟨gT, gU, gM, rfl, rfl⟩ _
  refine aw_perm (List.perm_append_comm (l₂ := [(g4, AObj.cells 33 2 (ofL (zdc true z))), (g1, AObj.cells 25 3 (ofL (dgc false d)))])) ?_
  simp only [List.cons_append, List.nil_append]
  refine yS (oj hn_g1 hn_g4) ?_
  refine yG (oj hn_g1 hn_g4) ?_
  refine aw_callh (hc := ZHp gT gU gM none [] []) (hr := [(g4, .cells 33 2 (ofL (zdc true z))), (g1, .cells 25 3 (ofL (dgc false d)))]) (zimport_fh gT gU gM z hz.tab hz.ref (by omega)) rfl rfl rfl (List.perm_append_comm (l₁ := [(g4, _), (g1, _)])) (zL (oj hn_g1 hn_g4)) ?_
  rintro _ _ ⟨og, hog, rfl, rfl⟩ _
  have hs : ZS d.order.length og z.nodes [] := ⟨hog, hz.tab, fun e he => absurd he List.not_mem_nil⟩
  refine aw_perm (List.perm_append_comm (l₂ := [(g4, AObj.cells 33 2 (ofL (zdc true z))), (g1, AObj.cells 25 3 (ofL (dgc false d)))])) ?_
  simp only [List.cons_append, List.nil_append]
  refine yS (oj hn_g1 hn_g4) ?_
  refine yG (oj hn_g1 hn_g4) ?_
  refine aw_make (n := d.order.length + 1) (c := d.order.length + 1) (size := 1) (z := [.int .i64 0]) rfl rfl rfl (zE (oj hn_g1 hn_g4)) (zE (oj hn_g1 hn_g4)) rfl (by omega) (zE (oj hn_g1 hn_g4)) (zE (oj hn_g1 hn_g4)) (by omega) (by omega) (by omega) (by omega) (by omega) fun g hn_g => ?_
  rw [make_is (d.order.length + 1), ← prof_nil]
  replace hn_g := Heap.ne_of hn_g
  dsimp only [Heap.ne] at hn_g
  refine yS (oj hn_g1 (oj hn_g4 hn_g)) ?_
  refine yG (oj hn_g1 (oj hn_g4 hn_g)) ?_
  refine yA (oj hn_g1 (oj hn_g4 hn_g)) fun g8 hn_g8=>?_
  refine yG (oj hn_g1 (oj hn_g4 (oj hn_g hn_g8))) ?_
  refine yW (oj hn_g1 (oj hn_g4 (oj hn_g hn_g8))) ?_
  refine yS (oj hn_g1 (oj hn_g4 (oj hn_g hn_g8))) ?_
  refine yG (oj hn_g1 (oj hn_g4 (oj hn_g hn_g8))) ?_
  refine aw_makeFunc (gs := [g8]) rfl rfl rfl (zE (oj hn_g1 (oj hn_g4 (oj hn_g hn_g8)))) ?_
  refine yS (oj hn_g1 (oj hn_g4 (oj hn_g hn_g8))) ?_
  refine yG (oj hn_g1 (oj hn_g4 (oj hn_g hn_g8))) ?_
  refine aw_callh (hc := ZHp gT gU gM og z.nodes [] ++ PrH g8 g d.order.length []) (hr := [(g4, .cells 33 2 (ofL (zdc true z))), (g1, .cells 25 3 (ofL (dgc false d)))]) (zeach_fh (PrH g8 g d.order.length) (fun x m => x.length + m ≤ 1024) (fun a s b => b = a ++ [s]) 50 [g8] gT gU gM (by omega) hs (by omega) (fun x s m hx hs2 => (profile1_fh g8 g d.order.length x s hs2 (by omega) (by omega)).mono fun r h ⟨h1, h2⟩ => ⟨x ++ [s], rfl, by rw [List.length_append, List.length_singleton]; omega, h1, h2⟩) hz.ref [] (m := 0) (by simp only [List.length_nil]; omega)) rfl rfl rfl ((List.Perm.append_left (PrH g8 g d.order.length []) (List.perm_append_comm (l₁ := [(g4, _), (g1, _)]))).trans (h3_comm _ _ _)) (zL (oj hn_g1 (oj hn_g4 (oj hn_g hn_g8)))) ?_
  rintro _ _ ⟨l7, hrs, hf7, rfl, rfl⟩ _
  obtain rfl : l7 = setsZ z.nodes z.root 0 := by have := RS_list hrs; simpa using this
  have hpf := prof_perm (sort_perm hnd) d.order.length
  have hcut := out_cut hz hF
  have hsl := sort_len hnd
  have hlt2 : ∀ s ∈ sortN (setsZ z.nodes z.root 0), s < 2 ^ d.order.length := fun s hs => hlt s (sort_mem.1 hs)
  refine aw_keep [(8, .c (.optr g8 0))] (PrH g8 g d.order.length (setsZ z.nodes z.root 0)) (zB (oj hn_g1 (oj hn_g4 (oj hn_g hn_g8)))) ((List.sublist_append_right _ _).trans (List.sublist_append_left _ _)) ?_
  have hpe : PrH g8 g d.order.length (setsZ z.nodes z.root 0) = PrH g8 g d.order.length (sortN (setsZ z.nodes z.root 0)) := by simp only [PrH, hpf]
  rw [hpe]
  generalize sortN (setsZ z.nodes z.root 0) = l at *
  refine yS (oj hn_g1 (oj hn_g4 (oj hn_g hn_g8))) ?_
  refine yG (oj hn_g1 (oj hn_g4 (oj hn_g hn_g8))) ?_
  refine aw_keep [(2, .c (.osl g 1 0 (d.order.length + 1))), (3, .c .nilI)] [(g, .cells 3 (d.order.length + 1) (isF (profN l d.order.length)))] (zB (oj hn_g1 (oj hn_g4 (oj hn_g hn_g8)))) (List.Sublist.cons _ (List.Sublist.refl _)) ?_
  refine aw_frzT (t := 2) (isF (profN l d.order.length)) (zE (oj hn_g1 (oj hn_g4 (oj hn_g hn_g8)))) (zE (oj hn_g1 (oj hn_g4 (oj hn_g hn_g8)))) (by omega) (fun h => by have := (hC g).1 h; simp [Heap.keys] at this) (fun q hq => by rw [Nat.zero_add]) rfl (zE (oj hn_g1 (oj hn_g4 (oj hn_g hn_g8)))) ?_
  refine yS (oj hn_g1 (oj hn_g4 (oj hn_g hn_g8))) ?_
  refine yU (oj hn_g1 (oj hn_g4 (oj hn_g hn_g8))) ?_
  refine ⟨rfl, .inr ⟨hm, l, hcut, by omega, hlt2, ?_⟩⟩
  show AV.tup [.c (.row true 1 (d.order.length + 1) _), _] = AV.tup [.c (.row true 1 (profN l d.order.length).length _), _]
  rw [profN_len]
end Go.Proofs.YtcoflhkcpnoaaaaGreat
namespace Go.PN
open Go.AI
def badT (tb : List Bool) (s u : Nat) : Bool := subT s u && (tb.getD s false && !tb.getD u false)
def monT (tb : List Bool) : Bool := (List.range tb.length).all fun s => (List.range tb.length).all fun u => !badT tb s u
theorem monT_t {tb : List Bool} (h : ∀ s, s < tb.length → ∀ u, u < tb.length → badT tb s u = false) : monT tb = true := by
  unfold monT
  rw [List.all_eq_true]
  intro s hs
  rw [List.all_eq_true]
  intro u hu
  rw [h s (List.mem_range.1 hs) u (List.mem_range.1 hu)]
  rfl
theorem monT_f {tb : List Bool} {s u : Nat} (hs : s < tb.length) (hu : u < tb.length) (h : badT tb s u = true) : monT tb = false := by
  unfold monT
  rw [List.all_eq_false]
  refine ⟨s, List.mem_range.2 hs, ?_⟩
  rw [Bool.not_eq_true, List.all_eq_false]
  exact ⟨u, List.mem_range.2 hu, by rw [h]; simp⟩
def leastT (tb : List Bool) (s k : Nat) : Bool := tb.getD s false && (List.range k).all fun u => !subT u s || !tb.getD u false
def solN (tb : List Bool) (k : Nat) : List Nat := (List.range k).filter fun s => leastT tb s s
end Go.PN

namespace Go.PN
open Go.AI
theorem tab_get (f : Nat → Bool) (n s : Nat) (h : s < n) : ((List.range n).map f).getD s false = f s := by
  rw [List.getD_eq_getElem?_getD, List.getElem?_map, List.getElem?_range h]; rfl
theorem least_min {f : Nat → Bool} {n s : Nat} (h : s < n) : leastT ((List.range n).map f) s s = true ↔ MinT f s := by
  unfold leastT
  rw [Bool.and_eq_true, tab_get f n s h, List.all_eq_true]
  constructor
  · rintro ⟨h1, h2⟩
    refine ⟨h1, fun t ht hf => ?_⟩
    have hle := sub_le ht
    rcases Nat.lt_or_ge t s with hlt | hge
    · have := h2 t (List.mem_range.2 hlt)
      rw [tab_get f n t (by omega), hf, subT_iff.2 ht] at this
      cases this
    · omega
  · rintro ⟨h1, h2⟩
    refine ⟨h1, fun u hu => ?_⟩
    have hlt := List.mem_range.1 hu
    rw [tab_get f n u (by omega)]
    cases hs : subT u s
    · rfl
    · cases hf : f u
      · rfl
      · have := h2 u (subT_iff.1 hs) hf; omega
theorem sol_is {f : Nat → Bool} {n : Nat} {l : List Nat} (hc : CutL f l) (hl : ∀ s ∈ l, s < n) : sortN (solN ((List.range n).map f) n) = l :=
  srt_ext (sort_srt _) hc.1 fun s => by
    rw [sort_mem, hc.2]
    unfold solN
    rw [List.mem_filter, List.mem_range]
    constructor
    · rintro ⟨h1, h2⟩
      exact (least_min h1).1 h2
    · intro h
      have h1 := hl s ((hc.2 s).2 h)
      exact ⟨h1, (least_min h1).2 h⟩
theorem bad_iff {f : Nat → Bool} {n s u : Nat} (hs : s < n) (hu : u < n) : badT ((List.range n).map f) s u = true ↔ SubN s u ∧ f s = true ∧ f u = false := by
  unfold badT
  rw [tab_get f n s hs, tab_get f n u hu, Bool.and_eq_true, Bool.and_eq_true, subT_iff, Bool.not_eq_true']
theorem mon_tab {f : Nat → Bool} {n : Nat} (hi : ∀ s t : Nat, (∀ j : Nat, j < n → s.testBit j = t.testBit j) → f s = f t) : monT ((List.range (2 ^ n)).map f) = true ↔ MonoF n f := by
  constructor
  · intro h i hin s hs
    cases hf : f (setB s i true) with
    | true => rfl
    | false =>
      have hA : f (setB s i false) = f (setB s i false % 2 ^ n) := hi _ _ fun j hj => by rw [Nat.testBit_mod_two_pow, decide_eq_true hj, Bool.true_and]
      have hB : f (setB s i true) = f (setB s i true % 2 ^ n) := hi _ _ fun j hj => by rw [Nat.testBit_mod_two_pow, decide_eq_true hj, Bool.true_and]
      have hp : 0 < 2 ^ n := Nat.two_pow_pos n
      have hl : ((List.range (2 ^ n)).map f).length = 2 ^ n := by simp
      have l1 := Nat.mod_lt (setB s i false) hp
      have l2 := Nat.mod_lt (setB s i true) hp
      rw [monT_f (by rw [hl]; exact l1) (by rw [hl]; exact l2) ((bad_iff l1 l2).2 ⟨fun j hj => by
        rw [Nat.testBit_mod_two_pow] at hj ⊢
        rw [Bool.and_eq_true] at hj ⊢
        refine ⟨hj.1, ?_⟩
        have := hj.2
        rw [setB_bit] at this ⊢
        split
        · rfl
        · rename_i e; rwa [if_neg e] at this, by rw [← hA]; exact hs, by rw [← hB]; exact hf⟩)] at h
      cases h
  · intro h
    have hm := monS_of h hi
    have hl : ((List.range (2 ^ n)).map f).length = 2 ^ n := by simp
    refine monT_t fun s hs u hu => ?_
    rw [hl] at hs hu
    cases hb : badT ((List.range (2 ^ n)).map f) s u with
    | false => rfl
    | true =>
      obtain ⟨h1, h2, h3⟩ := (bad_iff hs hu).1 hb
      rw [hm s u h1 h2] at h3; cases h3
end Go.PN
namespace Go.PN
open Go.AI
theorem form_list (f : FM) : ∀ n, formTo f n = (List.range n).map fun s => valF f s f.top
  | 0 => rfl
  | n + 1 => by rw [formTo, form_list f n, List.range_succ, List.map_append]; rfl
end Go.PN

namespace Go.PN
open Go.AI Go.Proofs.YtcoflhkcpnoaaaaGreat
theorem ler_fns {h : Heap} {t : Bool} {ps : List FN} : LeR h (fns true ps) (fns t ps) :=
  .row (lf_ler (by omega) fun x _ k hk => by match k, hk with | 0, _ => exact .int _ _ | 1, _ => exact .int _ _ | 2, _ => exact ler_is)
theorem eval_bits {d : DG} (ok : DgOk d) {s t : Nat} (h : ∀ j : Nat, j < d.order.length → s.testBit j = t.testBit j) : evalD d.nodes s d.root = evalD d.nodes t d.root := by
  refine evalD_indep ok (P := -1) (fun j hj _ => h j hj) d.root.toNat d.root (Nat.le_refl _) ok.r0 ok.r1 fun h2 => ?_
  have h1 := ok.r1
  obtain ⟨v0, v1, _⟩ := ok.ns (d.root - 2).toNat (by omega)
  have hm := ok.perm.all (j := (d.nodes.getD (d.root - 2).toNat dn0).v.toNat) (by omega)
  rw [show (((d.nodes.getD (d.root - 2).toNat dn0).v.toNat : Nat) : Int) = (d.nodes.getD (d.root - 2).toNat dn0).v from by omega] at hm
  have := place_nonneg hm
  omega
theorem exF_argsOk : ArgsOk exF := fun x hx => by
  simp at hx
  subst hx
  decide
theorem exF_k33 : K33 exF [0, 1, 2] := ⟨by decide +kernel, by decide +kernel, by decide +kernel⟩
theorem exF_cuts {l : List Nat} (h : CutL (fun s => valF exF s exF.top) l) (hl : ∀ s ∈ l, s < 8) : l = [3, 5, 6] := by
  have h1 := sol_is h hl
  have h2 : (List.range 8).map (fun s => valF exF s exF.top) = exT := by rw [← form_list]; exact exT_eq
  rw [h2] at h1
  rw [← h1]
  decide +kernel
theorem exD_cuts {l : List Nat} (h : CutL (fun s => evalD exD.nodes s exD.root) l) (hl : ∀ s ∈ l, s < 8) : l = [3, 5, 6] := by
  have h1 := sol_is h hl
  have h2 : (List.range 8).map (fun s => evalD exD.nodes s exD.root) = exT := by decide +kernel
  rw [h2] at h1
  rw [← h1]
  decide +kernel
theorem exD_mono : MonoF 3 (fun s => evalD exD.nodes s exD.root) := by
  have h2 : (List.range (2 ^ 3)).map (fun s => evalD exD.nodes s exD.root) = exT := by decide +kernel
  refine (mon_tab (n := 3) fun s t h => eval_bits (dg_ok exD_code) h).1 ?_
  rw [h2]
  decide +kernel
end Go.PN
namespace Go.Proofs.YtcoflhkcpnoaaaaGreat
open Go.AI Go.PN
attribute [local irreducible] aw Fa Fh DrK
set_option maxRecDepth 100000 in
set_option maxHeartbeats 1600000 in
theorem example33_fa : Fa Tryz.prog 40 [] (.agg (fmc true exF)) := by
  refine fa_of_body Tryz.func40 rfl rfl (by simp [Tryz.ntmps40]) fun C hC => ?_
  simp only [initS, Nat.reduceAdd]
  refine xG ?_
  refine xA fun g0 hn_g0=>?_
  refine yG hn_g0 ?_
  refine aw_buildSlice (xs := [.const (.int .i64 0), .const (.int .i64 1), .const (.int .i64 2)]) (cells := [.int .i64 0, .int .i64 1, .int .i64 2]) rfl rfl rfl (zE hn_g0) (by refine yS hn_g0 ?_; rfl) rfl (by omega) (by omega) (by intro x hx; simp only [List.mem_cons, List.not_mem_nil, or_false] at hx; rcases hx with rfl | rfl | rfl <;> exact ⟨rfl, rfl, rfl⟩) rfl fun g3 hn_g3 => ?_
  replace hn_g3 := Heap.ne_of hn_g3
  dsimp only [Heap.ne] at hn_g3
  refine yS (oj hn_g0 hn_g3) ?_
  refine aw_frzT (t := 1) (isF [0, 1, 2]) (zE (oj hn_g0 hn_g3)) (zE (oj hn_g0 hn_g3)) (by omega) (hC g3) (fun j hj => by match j, hj with | 0, _ => rfl | 1, _ => rfl | 2, _ => rfl) rfl (zE (oj hn_g0 hn_g3)) ?_
  refine yS (oj hn_g0 hn_g3) ?_
  refine yG (oj hn_g0 hn_g3) ?_
  refine aw_buildSlice (xs := [.tmp 2]) (cells := [.int .i64 4, .int .i64 2, is true [0, 1, 2]]) rfl rfl rfl (zE (oj hn_g0 hn_g3)) (by refine yS (oj hn_g0 hn_g3) ?_; rfl) rfl (by omega) (by omega) (by intro x hx; simp only [List.mem_singleton] at hx; subst hx; exact ⟨rfl, rfl, rfl⟩) rfl fun g5 hn_g5 => ?_
  replace hn_g5 := Heap.ne_of hn_g5
  dsimp only [Heap.ne] at hn_g5
  refine yS (oj hn_g0 (oj hn_g3 hn_g5)) ?_
  refine aw_frzT (t := 3) (fnsF exF.nodes) (zE (oj hn_g0 (oj hn_g3 hn_g5))) (zE (oj hn_g0 (oj hn_g3 hn_g5))) (by omega) (hC g5) (fun j hj => by match j, hj with | 0, _ => rfl | 1, _ => rfl | 2, _ => rfl) rfl (zE (oj hn_g0 (oj hn_g3 hn_g5))) ?_
  refine yS (oj hn_g0 (oj hn_g3 hn_g5)) ?_
  refine yG (oj hn_g0 (oj hn_g3 hn_g5)) ?_
  refine yW (oj hn_g0 (oj hn_g3 hn_g5)) ?_
  refine yS (oj hn_g0 (oj hn_g3 hn_g5)) ?_
  refine yG (oj hn_g0 (oj hn_g3 hn_g5)) ?_
  refine yT hC (oj hn_g0 (oj hn_g3 hn_g5)) ?_
  exact .one (.agg ⟨.int _ _, ler_fns (t := true) (ps := [⟨4, 2, [0, 1, 2]⟩]), .int _ _, trivial⟩)
set_option maxRecDepth 100000 in
set_option maxHeartbeats 3200000 in
theorem awake33_fa : Fa Tryz.prog 10 [] (.c (.bool true)) := by
  have hbd := build15_fa exF exF_ok (by decide) [0, 1, 2] (by decide) rfl (by simp)
  rw [exT_eq] at hbd
  rw [show ([0, 1, 2] : List Int).length = 3 from rfl, exD_eq] at hbd
  refine fa_of_body Tryz.func10 rfl rfl (by simp [Tryz.ntmps10]) fun C hC => ?_
  simp only [initS, Nat.reduceAdd]
  refine xG ?_
  refine xC (example33_fa) ?_
  refine xG ?_
  refine aw_buildSlice (xs := [.const (.int .i64 0), .const (.int .i64 1), .const (.int .i64 2)]) (cells := [.int .i64 0, .int .i64 1, .int .i64 2]) rfl rfl rfl eE (by refine xS ?_; rfl) rfl (by omega) (by omega) (by intro x hx; simp only [List.mem_cons, List.not_mem_nil, or_false] at hx; rcases hx with rfl | rfl | rfl <;> exact ⟨rfl, rfl, rfl⟩) rfl fun g7 hn_g7 => ?_
  replace hn_g7 := Heap.ne_of hn_g7
  dsimp only [Heap.ne] at hn_g7
  refine yS hn_g7 ?_
  refine aw_frzT (t := 7) (isF [0, 1, 2]) (zE hn_g7) (zE hn_g7) (by omega) (hC g7) (fun j hj => by match j, hj with | 0, _ => rfl | 1, _ => rfl | 2, _ => rfl) rfl (zE hn_g7) ?_
  refine yS hn_g7 ?_
  refine yG hn_g7 ?_
  refine aw_callh (hc := []) (hr := []) (Cuts_fh exF [0, 1, 2] exF_k33 (by decide) (by decide) exF_argsOk) rfl rfl rfl (.refl _) (by refine yS hn_g7 ?_; exact ⟨.agg ⟨.refl _, le_any_row (by simp), .refl _, trivial⟩, .c (le_any_row (by simp))⟩) ?_
  rintro _ _ ⟨rfl, l, hl, _, hlt, rfl⟩ _
  obtain rfl := exF_cuts hl hlt
  refine yS hn_g7 ?_
  refine yG hn_g7 ?_
  refine yC hn_g7 (example33_fa) ?_
  refine yG hn_g7 ?_
  refine aw_buildSlice (xs := [.const (.int .i64 0), .const (.int .i64 1), .const (.int .i64 2)]) (cells := [.int .i64 0, .int .i64 1, .int .i64 2]) rfl rfl rfl (zE hn_g7) (by refine yS hn_g7 ?_; rfl) rfl (by omega) (by omega) (by intro x hx; simp only [List.mem_cons, List.not_mem_nil, or_false] at hx; rcases hx with rfl | rfl | rfl <;> exact ⟨rfl, rfl, rfl⟩) rfl fun g13 hn_g13 => ?_
  replace hn_g13 := Heap.ne_of hn_g13
  dsimp only [Heap.ne] at hn_g13
  refine yS (oj hn_g7 hn_g13) ?_
  refine aw_frzT (t := 13) (isF [0, 1, 2]) (zE (oj hn_g7 hn_g13)) (zE (oj hn_g7 hn_g13)) (by omega) (hC g13) (fun j hj => by match j, hj with | 0, _ => rfl | 1, _ => rfl | 2, _ => rfl) rfl (zE (oj hn_g7 hn_g13)) ?_
  refine yS (oj hn_g7 hn_g13) ?_
  refine yG (oj hn_g7 hn_g13) ?_
  refine aw_callq hbd rfl rfl rfl (by refine yS (oj hn_g7 hn_g13) ?_; exact ⟨.agg ⟨.refl _, le_any_row (by simp), .refl _, trivial⟩, .c (le_any_row (by simp))⟩) ?_
  refine yS (oj hn_g7 hn_g13) ?_
  refine yG (oj hn_g7 hn_g13) ?_
  refine aw_callh (hc := []) (hr := []) (Profile_fh exD exD_code (by decide)) rfl rfl rfl (.refl _) (zL (oj hn_g7 hn_g13)) ?_
  rintro _ _ ⟨rfl, ⟨hnm, rfl⟩ | ⟨_, m, hm, _, hmt, rfl⟩⟩ _
  · exact absurd exD_mono hnm
  obtain rfl := exD_cuts hm hmt
  rw [show profN [3, 5, 6] exD.order.length = [0, 0, 3, 0] from by decide +kernel, show zL [3, 5, 6] = [3, 5, 6] from rfl]
  refine yS (oj hn_g7 hn_g13) ?_
  refine yG (oj hn_g7 hn_g13) ?_
  refine aw_buildSlice (xs := [.const (.int .i64 3), .const (.int .i64 5), .const (.int .i64 6)]) (cells := [.int .i64 3, .int .i64 5, .int .i64 6]) rfl (zE (oj hn_g7 hn_g13)) rfl (zE (oj hn_g7 hn_g13)) (by refine yS (oj hn_g7 hn_g13) ?_; rfl) rfl (by omega) (by omega) (by intro x hx; simp only [List.mem_cons, List.not_mem_nil, or_false] at hx; rcases hx with rfl | rfl | rfl <;> exact ⟨rfl, rfl, rfl⟩) rfl fun g26 hn_g26 => ?_
  replace hn_g26 := Heap.ne_of hn_g26
  dsimp only [Heap.ne] at hn_g26
  refine yS (oj hn_g7 (oj hn_g13 hn_g26)) ?_
  refine aw_frzT (t := 26) (isF [3, 5, 6]) (zE (oj hn_g7 (oj hn_g13 hn_g26))) (zE (oj hn_g7 (oj hn_g13 hn_g26))) (by omega) (hC g26) (fun j hj => by match j, hj with | 0, _ => rfl | 1, _ => rfl | 2, _ => rfl) rfl (zE (oj hn_g7 (oj hn_g13 hn_g26))) ?_
  refine yS (oj hn_g7 (oj hn_g13 hn_g26)) ?_
  refine yG (oj hn_g7 (oj hn_g13 hn_g26)) ?_
  refine aw_callq (ints_fa [3, 5, 6] [3, 5, 6] (by decide)) rfl (zE (oj hn_g7 (oj hn_g13 hn_g26))) rfl (zL (oj hn_g7 (oj hn_g13 hn_g26))) ?_
  rw [decide_eq_true (rfl : ([3, 5, 6] : List Int) = [3, 5, 6])]
  refine yS (oj hn_g7 (oj hn_g13 hn_g26)) ?_
  refine yG (oj hn_g7 (oj hn_g13 hn_g26)) ?_
  refine aw_buildSlice (xs := [.const (.int .i64 0), .const (.int .i64 0), .const (.int .i64 3), .const (.int .i64 0)]) (cells := [.int .i64 0, .int .i64 0, .int .i64 3, .int .i64 0]) rfl (zE (oj hn_g7 (oj hn_g13 hn_g26))) rfl (zE (oj hn_g7 (oj hn_g13 hn_g26))) (by refine yS (oj hn_g7 (oj hn_g13 hn_g26)) ?_; rfl) rfl (by omega) (by omega) (by intro x hx; simp only [List.mem_cons, List.not_mem_nil, or_false] at hx; rcases hx with rfl | rfl | rfl | rfl <;> exact ⟨rfl, rfl, rfl⟩) rfl fun g31 hn_g31 => ?_
  replace hn_g31 := Heap.ne_of hn_g31
  dsimp only [Heap.ne] at hn_g31
  refine yS (oj hn_g7 (oj hn_g13 (oj hn_g26 hn_g31))) ?_
  refine aw_frzT (t := 31) (isF [0, 0, 3, 0]) (zE (oj hn_g7 (oj hn_g13 (oj hn_g26 hn_g31)))) (zE (oj hn_g7 (oj hn_g13 (oj hn_g26 hn_g31)))) (by omega) (hC g31) (fun j hj => by match j, hj with | 0, _ => rfl | 1, _ => rfl | 2, _ => rfl | 3, _ => rfl) rfl (zE (oj hn_g7 (oj hn_g13 (oj hn_g26 hn_g31)))) ?_
  refine yS (oj hn_g7 (oj hn_g13 (oj hn_g26 hn_g31))) ?_
  refine yG (oj hn_g7 (oj hn_g13 (oj hn_g26 hn_g31))) ?_
  refine aw_callq (ints_fa [0, 0, 3, 0] [0, 0, 3, 0] (by decide)) rfl (zE (oj hn_g7 (oj hn_g13 (oj hn_g26 hn_g31)))) rfl (zL (oj hn_g7 (oj hn_g13 (oj hn_g26 hn_g31)))) ?_
  rw [decide_eq_true (rfl : ([0, 0, 3, 0] : List Int) = [0, 0, 3, 0])]
  refine yS (oj hn_g7 (oj hn_g13 (oj hn_g26 hn_g31))) ?_
  refine yG (oj hn_g7 (oj hn_g13 (oj hn_g26 hn_g31))) ?_
  refine yT hC (oj hn_g7 (oj hn_g13 (oj hn_g26 hn_g31))) ?_
  exact .one (.c (.bool _))
end Go.Proofs.YtcoflhkcpnoaaaaGreat
