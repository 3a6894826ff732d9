/- Texts of one proof, laid one behind the other by a program (merge.py): Dia2, Dia3, Shan3, AiMap, AiFun, Shan4. -/
import Derived.Test.YtlpejaefobdajaaGreatM16
import Derived.Test.YtlpejaefobdajaaGreatM15
import Derived.Test.YtlpejaefobdajaaGreatM08
import Derived.MapKept
import Derived.Carry
import Derived.Laws.Cover3
set_option linter.unusedSimpArgs false
set_option linter.unusedVariables false
/- faultlineref15: number, Check. -/
namespace Go.PN
open Go.AI
/-- The nodes below a reference, kids first, those of b left out. -/
def numF (ns : List DN) : Nat → Int → List Int → List Int
  | 0, _, b => b
  | k + 1, r, b => if r < 2 ∨ r ∈ b then b else numF ns k (ns.getD (r - 2).toNat dn0).hi (numF ns k (ns.getD (r - 2).toNat dn0).lo b) ++ [r]
theorem nodup_range {n : Nat} {b : List Int} (h : b.Nodup) (hb : ∀ x ∈ b, 2 ≤ x ∧ x < n + 2) : b.length ≤ n := by
  have := nodup_le (m := (List.range n).map fun (i : Nat) => (i : Int) + 2) h (fun x hx => by
    have h1 := hb x hx
    refine List.mem_map.2 ⟨(x - 2).toNat, List.mem_range.2 (by omega), by omega⟩)
  simpa using this
theorem numF_mono {ns : List DN} : ∀ (k : Nat) (r : Int) (b : List Int) (x : Int), x ∈ b → x ∈ numF ns k r b
  | 0, _, b, x, h => h
  | k + 1, r, b, x, h => by
    rw [numF]
    split
    · exact h
    · exact List.mem_append_left _ (numF_mono k _ _ x (numF_mono k _ _ x h))
theorem numF_bd {m : Nat} {ns : List DN} (hn : NsOk m ns) : ∀ (k : Nat) (r : Int) (b : List Int), r < ns.length + 2 → b.Nodup → (∀ x ∈ b, 2 ≤ x ∧ x < ns.length + 2) →
    (numF ns k r b).Nodup ∧ (∀ x ∈ numF ns k r b, 2 ≤ x ∧ x < ns.length + 2) ∧ (∀ x ∈ numF ns k r b, x ∈ b ∨ x ≤ r)
  | 0, r, b, _, h1, h2 => ⟨h1, h2, fun x hx => .inl hx⟩
  | k + 1, r, b, hr, h1, h2 => by
    rw [numF]
    split
    · exact ⟨h1, h2, fun x hx => .inl hx⟩
    · rename_i hc
      obtain ⟨v0, v1, l0, l1, g0, g1⟩ := hn (r - 2).toNat (by omega)
      obtain ⟨a1, a2, a3⟩ := numF_bd hn k (ns.getD (r - 2).toNat dn0).lo b (by omega) h1 h2
      obtain ⟨b1, b2, b3⟩ := numF_bd hn k (ns.getD (r - 2).toNat dn0).hi _ (by omega) a1 a2
      refine ⟨?_, fun x hx => ?_, fun x hx => ?_⟩
      · rw [List.nodup_append]
        refine ⟨b1, by simp, fun x hx y hy e => ?_⟩
        simp only [List.mem_singleton] at hy
        subst hy
        rcases b3 x hx with h | h
        · rcases a3 x h with h | h
          · exact hc (.inr (e ▸ h))
          · omega
        · omega
      · rcases List.mem_append.1 hx with hx | hx
        · exact b2 x hx
        · simp only [List.mem_singleton] at hx; omega
      · rcases List.mem_append.1 hx with hx | hx
        · rcases b3 x hx with h | h
          · rcases a3 x h with h | h
            · exact .inl h
            · exact .inr (by omega)
          · exact .inr (by omega)
        · simp only [List.mem_singleton] at hx; exact .inr (by omega)
theorem place_ge {l : List Int} {n : Int} : decide (placeZ l n ≥ 0) = decide (n ∈ l) := by
  unfold placeZ
  by_cases h : n ∈ l <;> simp [h]
theorem le_gsi {pre : Heap} {og : Option Nat} {e n : Nat} {zs : List Int} (hog : og = none → n = 0) (hn : ∀ g, og = some g → g ∉ pre.keys) (hl : zs.length = n) : LeC (pre ++ gh og e n (isF zs)) (gs og 1 n) (is false zs) := by
  subst hl
  have := le_gs (pre := pre) (og := og) (e := e) (s := 1) (n := zs.length) (f := isF zs) (f' := isF zs) hog hn (fun j _ => .refl _)
  simpa only [Nat.mul_one] using this
theorem gh_nd {o : AObj} {g3 : Nat} {og : Option Nat} {e n : Nat} {f : Nat → CV} (h : Heap.keys ((g3, o) :: gh og e n f) |>.Nodup) : ∀ g, og = some g → ¬ g = g3 := by
  rintro g rfl rfl
  simp [Heap.keys, gh] at h
end Go.PN
namespace Go.Proofs.YtlpejaefobdajaaGreat
open Go.AI Go.PN
attribute [local irreducible] aw Fa Fh DrK
set_option maxRecDepth 100000 in
set_option maxHeartbeats 1600000 in
theorem number_fh (d : DG) (hns : NsOk d.order.length d.nodes) (hnl : d.nodes.length ≤ 1000000) : ∀ (k : Nat) (r : Int) (b : List Int) (og : Option Nat) (n : Nat), r.toNat ≤ k → 0 ≤ r → r < d.nodes.length + 2 → b.Nodup → (∀ x ∈ b, 2 ≤ x ∧ x < d.nodes.length + 2) → b.length = n → (og = none → n = 0) →
    Fh Tryz.prog 75 (gh og 3 n (isF b)) [.agg (dgc false d), .c (.int .i64 r), .c (gs og 1 n)]
      (fun res h => ∃ og' n', (numF d.nodes k r b).length = n' ∧ (og' = none → n' = 0) ∧ res = .c (gs og' 1 n') ∧ h = gh og' 3 n' (isF (numF d.nodes k r b))) := by
  intro k
  induction k with
  | zero =>
    intro r b og n hk h0 hr hbn hbr hbl hog
    have hr0 : r = 0 := by omega
    subst hr0
    refine fh_of_body Tryz.func75 rfl rfl (by simp [Tryz.ntmps75]) fun C hC => ?_
    simp only [initS, Nat.reduceAdd]
    refine xG ?_
    refine xB fun g3 hn_g3=>?_
    refine yG hn_g3 ?_
    refine aw_split 10 (zE hn_g3) (fun hb => ?_) (fun hb => ?_) <;> refine yS hn_g3 ?_
    · refine yG hn_g3 ?_
      refine yP hn_g3 ?_
      refine yG hn_g3 ?_
      refine aw_keep [(6, .c (gs og 1 n))] (gh og 3 n (isF b)) (zB hn_g3) (List.Sublist.cons _ (List.Sublist.refl _)) ?_
      refine yU hn_g3 ?_
      exact ⟨og, n, hbl, hog, rfl, rfl⟩
    · exact absurd hb (by decide)
  | succ k ih =>
    intro r b og n hk h0 hr hbn hbr hbl hog
    have hnb := nodup_range hbn hbr
    refine fh_of_body Tryz.func75 rfl rfl (by simp [Tryz.ntmps75]) fun C hC => ?_
    simp only [initS, Nat.reduceAdd]
    refine xG ?_
    refine xB fun g3 hn_g3=>?_
    refine yG hn_g3 ?_
    refine aw_split 10 (zE hn_g3) (fun hb => ?_) (fun hb => ?_) <;> refine yS hn_g3 ?_
    · have hb' := of_decide_eq_true hb
      refine yG hn_g3 ?_
      refine yP hn_g3 ?_
      refine yG hn_g3 ?_
      refine aw_keep [(6, .c (gs og 1 n))] (gh og 3 n (isF b)) (zB hn_g3) (List.Sublist.cons _ (List.Sublist.refl _)) ?_
      refine yU hn_g3 ?_
      rw [numF, if_pos (.inl hb')]
      exact ⟨og, n, hbl, hog, rfl, rfl⟩
    · have hb' := of_decide_eq_false hb
      refine aw_nd fun hnd => ?_
      replace hnd := gh_nd hnd
      have hp3 : ∀ g, og = some g → g ∉ Heap.keys [(g3, AObj.cells 25 3 (ofL (dgc false d)))] := fun g e => by simp only [Heap.keys, List.map_cons, List.map_nil, List.mem_singleton]; exact hnd g e
      refine yG hn_g3 ?_
      refine aw_callq (place_fa b r (by omega)) rfl rfl rfl (by refine yS hn_g3 ?_; exact ⟨.c (le_gsi (pre := [(g3, _)]) hog hp3 hbl), .c (.refl _)⟩) ?_
      refine yS hn_g3 ?_
      refine yG hn_g3 ?_
      refine yF hn_g3 (fun hm=>?_) fun hm=>?_
      · rw [place_ge] at hm
        have hm' := of_decide_eq_true hm
        refine yG hn_g3 ?_
        refine aw_keep [(6, .c (gs og 1 n))] (gh og 3 n (isF b)) (zB hn_g3) (List.Sublist.cons _ (List.Sublist.refl _)) ?_
        refine yU hn_g3 ?_
        rw [numF, if_pos (.inr hm')]
        exact ⟨og, n, hbl, hog, rfl, rfl⟩
      · rw [place_ge] at hm
        have hm' := of_decide_eq_false hm
        have hc : ¬ (r < 2 ∨ r ∈ b) := by rintro (h | h); exact hb' h; exact hm' h
        rw [numF, if_neg hc]
        obtain ⟨v0, v1, l0, l1, q0, q1⟩ := hns (r - 2).toNat (by omega)
        obtain ⟨a1, a2, a3⟩ := numF_bd hns k (d.nodes.getD (r - 2).toNat dn0).lo b (by omega) hbn hbr
        obtain ⟨b1, b2, b3⟩ := numF_bd hns k (d.nodes.getD (r - 2).toNat dn0).hi _ (by omega) a1 a2
        have hnc := nodup_range b1 b2
        refine yG hn_g3 ?_
        refine yA hn_g3 fun g7 hn_g7=>?_
        refine yG (oj hn_g3 hn_g7) ?_
        refine yW (oj hn_g3 hn_g7) ?_
        refine yS (oj hn_g3 hn_g7) ?_
        generalize d.nodes.getD (r - 2).toNat dn0 = x at *
        refine yG (oj hn_g3 hn_g7) ?_
        refine aw_callh (hr := [(g7, AObj.cells 139 3 (ofL (dnc x))), (g3, AObj.cells 25 3 (ofL (dgc false d)))]) (ih x.lo b og n (by omega) l0 (by omega) hbn hbr hbl hog) rfl rfl rfl (List.perm_append_comm (l₁ := [(g7, AObj.cells 139 3 (ofL (dnc x))), (g3, AObj.cells 25 3 (ofL (dgc false d)))])) (zL (oj hn_g3 hn_g7)) ?_
        rintro _ _ ⟨og2, n2, hn2, hog2, rfl, rfl⟩ hk2
        refine yS (oj hn_g3 hn_g7) ?_
        refine aw_perm (List.perm_append_comm (l₂ := [(g7, AObj.cells 139 3 (ofL (dnc x))), (g3, AObj.cells 25 3 (ofL (dgc false d)))])) ?_
        refine yG (oj hn_g3 hn_g7) ?_
        refine aw_callh (hr := [(g7, AObj.cells 139 3 (ofL (dnc x))), (g3, AObj.cells 25 3 (ofL (dgc false d)))]) (ih x.hi _ og2 n2 (by omega) q0 (by omega) a1 a2 hn2 hog2) rfl rfl rfl (List.perm_append_comm (l₁ := [(g7, AObj.cells 139 3 (ofL (dnc x))), (g3, AObj.cells 25 3 (ofL (dgc false d)))])) (zL (oj hn_g3 hn_g7)) ?_
        rintro _ _ ⟨og3, n3, hn3, hog3, rfl, rfl⟩ hk3
        refine yS (oj hn_g3 hn_g7) ?_
        refine aw_perm (List.perm_append_comm (l₂ := [(g7, AObj.cells 139 3 (ofL (dnc x))), (g3, AObj.cells 25 3 (ofL (dgc false d)))])) ?_
        refine yG (oj hn_g3 hn_g7) ?_
        refine aw_push (pre := [(g7, AObj.cells 139 3 (ofL (dnc x))), (g3, AObj.cells 25 3 (ofL (dgc false d)))]) rfl rfl rfl rfl rfl rfl rfl (zE (oj hn_g3 hn_g7)) (zE (oj hn_g3 hn_g7)) (by rfl) (by omega) (by omega) (zE (oj hn_g3 hn_g7)) (by omega) (by exact hog3) (zE (oj hn_g3 hn_g7)) (by rfl) (by rfl) (by first | rfl | simp only [Nat.mul_one, List.nil_append, List.cons_append] <;> rfl) (by unfold maxLen; omega) (by omega) (by exact is_push hn3 _) fun g1 hn_g1 => ?_
        replace hn_g1 := Heap.ne_of hn_g1
        first | dsimp only [Heap.ne, gh] at hn_g1 | dsimp only [Heap.ne] at hn_g1 | skip
        refine yS (oj hn_g3 (oj hn_g7 hn_g1)) ?_
        refine yG (oj hn_g3 (oj hn_g7 hn_g1)) ?_
        refine aw_keep [(6, .c (gs (some g1) 1 (n3 + 1)))] (gh (some g1) 3 (n3 + 1) (isF (numF d.nodes k x.hi (numF d.nodes k x.lo b) ++ [r]))) (zB (oj hn_g3 (oj hn_g7 hn_g1))) (List.Sublist.cons _ (List.Sublist.cons _ (List.Sublist.refl _))) ?_
        refine yU (oj hn_g3 (oj hn_g7 hn_g1)) ?_
        exact ⟨some g1, n3 + 1, by simp [hn3], fun e => (by cases e), rfl, rfl⟩
end Go.Proofs.YtlpejaefobdajaaGreat

/- faultlineref15.Check. -/
namespace Go.PN
open Go.AI
def nfirst (d : DG) : Nat → Nat → Int
  | _, 0 => 0
  | i, k + 1 => if ncode d i ≠ 0 then ncode d i else nfirst d (i + 1) k
def numsL (n : Nat) : List Int := (List.range n).map fun (i : Nat) => (i : Int) + 2
/-- The number of the first error of a diagram. -/
def dcode (d : DG) : Int :=
  if ocode d.order d.order.length ≠ 0 then ocode d.order d.order.length else if 4096 < d.nodes.length then 4
  else if nfirst d 0 d.nodes.length ≠ 0 then nfirst d 0 d.nodes.length else if d.root < 0 ∨ 1 + (d.nodes.length : Int) < d.root then 10
  else if numF d.nodes d.root.toNat d.root [] = numsL d.nodes.length then 0 else 2
theorem nfirst_step {d : DG} {i n : Nat} (h : i < n) (h0 : ncode d i = 0) : nfirst d i (n - i) = nfirst d (i + 1) (n - (i + 1)) := by
  obtain ⟨k, hk⟩ : ∃ k, n - i = k + 1 := ⟨n - i - 1, by omega⟩
  rw [hk, nfirst, if_neg (by simp [h0]), show n - (i + 1) = k from by omega]
theorem nfirst_at {d : DG} {i n : Nat} (h : i < n) (h0 : ncode d i ≠ 0) : nfirst d i (n - i) = ncode d i := by
  obtain ⟨k, hk⟩ : ∃ k, n - i = k + 1 := ⟨n - i - 1, by omega⟩
  rw [hk, nfirst, if_pos h0]
theorem nok_all {d : DG} (h : ∀ j, j < d.nodes.length → ncode d j = 0) : NsOk d.order.length d.nodes := fun i hi => by
  refine nok_of (d := d) (i := i) fun hr => ?_
  have := h i hi
  unfold ncode at this
  rw [if_pos hr] at this
  cases this
theorem numsL_len (n : Nat) : (numsL n).length = n := by simp [numsL]
theorem numsL_at {n i : Nat} (h : i < n) : (numsL n).getD i 0 = i + 2 := by
  rw [List.getD_eq_getElem?_getD]
  simp [numsL, h]
theorem listZ_ext {xs ys : List Int} (hl : xs.length = ys.length) (h : ∀ j, j < xs.length → xs.getD j 0 = ys.getD j 0) : xs = ys := by
  refine List.ext_getElem hl fun j h1 h2 => ?_
  have := h j h1
  rw [getDZ h1, getDZ h2] at this
  exact this
end Go.PN
namespace Go.AI
section
variable {E : Env} {K : List It} {σ σ' : Sl} {h : Heap}
/-- A slice that has grown is given up. -/
theorem aw_frzg {t s n e : Nat} {og : Option Nat} {f : Nat → CV} {pre : Heap} (ht : σ.get t = .c (gs og s n)) (hog : og = none → n = 0) (hh : h = pre ++ gh og e (n * s) f) (hp : ∀ g, og = some g → g ∉ pre.keys) (hn : ∀ g, ¬ E.C.own0 g) (hσ : σ.set t (.c (.row true s n f)) = σ') (k : aw E K σ' pre) : aw E K σ h := by
  subst hσ hh
  cases og with
  | none =>
    have hn0 := hog rfl
    subst hn0
    refine aw_conv (t := t) (v := .c (.row true s 0 f)) (fun S w u hr => ?_) rfl (by simpa [gh] using k)
    rw [ht] at hr
    obtain ⟨A, hv⟩ := hr
    exact ⟨A, 0, hv, by omega, fun h0 => absurd h0 (by omega)⟩
  | some g =>
    refine aw_frz (ty := e) (m := n * s) (f := f) ht (Heap.get_app (hp g rfl)) (by omega) (hn g) rfl (Heap.del_app (hp g rfl)) ?_
    simpa only [Nat.zero_add] using k
end
end Go.AI
namespace Go.Proofs.YtlpejaefobdajaaGreat
open Go.AI Go.PN
attribute [local irreducible] aw Fa Fh DrK
set_option maxRecDepth 100000 in
set_option maxHeartbeats 1600000 in
theorem dcheckR_fa (d : DG) (hl : d.order.length ≤ 1099511627776) (hl2 : d.nodes.length ≤ 1099511627776) : Fa Tryz.prog 19 [.agg (dgc false d)] (.c (.int .i64 (dcode d))) := by
  unfold dcode
  refine fa_of_body Tryz.func19 rfl rfl (by simp [Tryz.ntmps19]) fun C hC => ?_
  simp only [initS, Nat.reduceAdd]
  refine xG ?_
  refine xB fun g1 hn_g1=>?_
  refine yG hn_g1 ?_
  refine yC hn_g1 (ocheckR_fa d.order d.order.length hl) ?_
  refine yG hn_g1 ?_
  refine yF hn_g1 (fun hb=>?_) fun hb=>?_
  · have hb' : ocode d.order d.order.length ≠ 0 := by simpa using hb
    refine yG hn_g1 ?_
    refine yT hC hn_g1 ?_
    exact .one (.c (ler_int (by rw [if_pos hb'])))
  · have hb' : ¬ ocode d.order d.order.length ≠ 0 := by simpa using hb
    rw [if_neg hb']
    refine yG hn_g1 ?_
    refine yF hn_g1 (fun hc=>?_) fun hc=>?_
    · have hc' := of_decide_eq_true hc
      refine yG hn_g1 ?_
      refine yT hC hn_g1 ?_
      exact .one (.c (ler_int (by rw [if_pos (by omega)])))
    · have hc' := of_decide_eq_false hc
      rw [if_neg (by omega)]
      refine yG hn_g1 ?_
      refine aw_lp (fun x : Nat => [(1, .c (.optr g1 0)), (4, .c (.int .i64 x))]) (fun x => [(g1, .cells 25 3 (ofL (dgc false d)))]) (fun x => x ≤ d.nodes.length ∧ (∀ j, j < x → ncode d j = 0) ∧ nfirst d x (d.nodes.length - x) = nfirst d 0 d.nodes.length) (fun x => d.nodes.length - x) 0 (zB hn_g1) zZ ⟨Nat.zero_le _, by omega, rfl⟩ ?_
      rintro i ⟨hi, hz, hf⟩
      refine yG hn_g1 ?_
      refine yF hn_g1 (fun h1=>?_) fun h1=>?_
      · have h1' : i < d.nodes.length := by have := of_decide_eq_true h1; omega
        refine yG hn_g1 ?_
        refine yC hn_g1 (nodeR_fa d i h1' hl hl2) ?_
        refine yG hn_g1 ?_
        refine yF hn_g1 (fun h2=>?_) fun h2=>?_
        · have h2' : ncode d i ≠ 0 := by simpa using h2
          refine yG hn_g1 ?_
          refine yT hC hn_g1 ?_
          rw [nfirst_at h1' h2'] at hf
          exact .one (.c (ler_int (by rw [← hf, if_pos h2'])))
        · have h2' : ncode d i = 0 := by simpa using h2
          refine yG hn_g1 ?_
          rw [nfirst_step h1' h2'] at hf
          refine aw_stop ⟨i + 1, by omega, (zB hn_g1), zZ, by omega, fun j hj => ?_, hf⟩
          rcases Nat.lt_succ_iff_lt_or_eq.1 hj with h | h
          · exact hz j h
          · rw [h]; exact h2'
      · have h1' : i = d.nodes.length := by have := of_decide_eq_false h1; omega
        subst h1'
        have hns := nok_all hz
        rw [Nat.sub_self, nfirst] at hf
        rw [← hf, if_neg (by simp)]
        refine yG hn_g1 ?_
        refine aw_split 37 (zE hn_g1) (fun h3 => ?_) (fun h3 => ?_) <;> refine yS hn_g1 ?_
        · have h3' := of_decide_eq_true h3
          refine yG hn_g1 ?_
          refine yP hn_g1 ?_
          refine yG hn_g1 ?_
          refine yT hC hn_g1 ?_
          exact .one (.c (ler_int (by rw [if_pos (.inl h3')])))
        · have h3' := of_decide_eq_false h3
          refine yG hn_g1 ?_
          refine yF hn_g1 (fun h4=>?_) fun h4=>?_
          · have h4' := of_decide_eq_true h4
            refine yG hn_g1 ?_
            refine yT hC hn_g1 ?_
            exact .one (.c (ler_int (by rw [if_pos (.inr h4')])))
          · have h4' := of_decide_eq_false h4
            rw [if_neg (by omega)]
            refine yG hn_g1 ?_
            refine aw_callh (hr := [(g1, AObj.cells 25 3 (ofL (dgc false d)))]) (number_fh d hns (by omega) d.root.toNat d.root [] none 0 (Nat.le_refl _) (by omega) (by omega) (by simp) (by simp) rfl (fun _ => rfl)) rfl rfl rfl (List.Perm.refl _) (zL hn_g1) ?_
            obtain ⟨a1, a2, a3⟩ := numF_bd hns d.root.toNat d.root [] (by omega) (by simp) (by simp)
            have hnl := nodup_range a1 a2
            generalize numF d.nodes d.root.toNat d.root [] = nl at *
            rintro _ _ ⟨og, n, hn, hog, rfl, rfl⟩ hk2
            subst hn
            refine yS hn_g1 ?_
            refine yH hn_g1 ?_
            refine aw_perm (List.perm_append_comm (l₂ := [(g1, AObj.cells 25 3 (ofL (dgc false d)))])) ?_
            refine aw_frzg (t := 6) (n := nl.length) (s := 1) (e := 3) (f := isF nl) (pre := [(g1, AObj.cells 25 3 (ofL (dgc false d)))]) (zE hn_g1) hog (by simp only [Nat.mul_one]) (fun g e hm => ?_) hC rfl ?_
            · subst e
              exact hk2 g (by simp [Heap.keys, gh]) hm
            refine yS hn_g1 ?_
            refine yG hn_g1 ?_
            refine yF hn_g1 (fun h5=>?_) fun h5=>?_
            · have h5' : ¬ nl.length = d.nodes.length := by have h5 := h5; simp at h5; omega
              refine yG hn_g1 ?_
              refine yT hC hn_g1 ?_
              exact .one (.c (ler_int (by rw [if_neg (fun e => h5' (by rw [e, numsL_len]))])))
            · have h5' : nl.length = d.nodes.length := by have h5 := h5; simp at h5; omega
              refine yG hn_g1 ?_
              refine aw_lp (fun x : Nat => [(6, .c (is true nl)), (7, .c (.int .i64 x))]) (fun x => []) (fun x => x ≤ nl.length ∧ (∀ j, j < x → nl.getD j 0 = j + 2)) (fun x => nl.length - x) 0 (zB hn_g1) (List.nil_sublist _) ⟨Nat.zero_le _, by omega⟩ ?_
              rintro i ⟨hi, hs⟩
              refine yG hn_g1 ?_
              refine yF hn_g1 (fun h6=>?_) fun h6=>?_
              · have h6' : i < nl.length := by have := of_decide_eq_true h6; omega
                refine yG hn_g1 ?_
                refine yF hn_g1 (fun h7=>?_) fun h7=>?_
                · have h7' : ¬ nl.getD i 0 = 2 + (i : Int) := by simpa using h7
                  refine yG hn_g1 ?_
                  refine yT hC hn_g1 ?_
                  exact .one (.c (ler_int (by rw [if_neg (fun e => h7' (by rw [e, numsL_at (by omega)]; omega))])))
                · have h7' : nl.getD i 0 = 2 + (i : Int) := by simpa using h7
                  refine yG hn_g1 ?_
                  refine aw_stop ⟨i + 1, by omega, (zB hn_g1), zZ, by omega, fun j hj => ?_⟩
                  rcases Nat.lt_succ_iff_lt_or_eq.1 hj with h | h
                  · exact hs j h
                  · rw [h, h7']; omega
              · have h6' : i = nl.length := by have := of_decide_eq_false h6; omega
                subst h6'
                refine yG hn_g1 ?_
                refine yT hC hn_g1 ?_
                refine .one (.c (ler_int ?_))
                rw [if_pos (listZ_ext (by rw [numsL_len, h5']) fun j hj => by rw [hs j hj, numsL_at (by omega)])]
end Go.Proofs.YtlpejaefobdajaaGreat

/- faultlineref37: Check, CheckDiagram, CheckGiven, Given. -/
namespace Go.PN
open Go.AI
/-- The number of the first error of probabilities. -/
def pcode (p : List RD) (vars : Int) : Int := if (p.length : Int) ≠ vars then 11 else if p.all RD.prob then 0 else 3
/-- Of a diagram and probabilities. -/
def dpcode (d : DG) (p : List RD) : Int := if dcode d ≠ 0 then dcode d else pcode p d.order.length
/-- Of a condition. -/
noncomputable def gcode (p : List RD) (y n : Int) : Int := if ccode y n ≠ 0 then ccode y n else if (y.toNat ||| n.toNat) / 2 ^ p.length ≠ 0 then 10 else if wtTo y.toNat n.toNat p p.length = 0 then 8 else 0
def condR (y n i : Nat) (r : RD) : RD := if y.testBit i then rd 1 else if n.testBit i then rd0 else r
/-- The probabilities under a condition. -/
def condL (y n : Nat) (ps : List RD) : Nat → List RD
  | 0 => []
  | k + 1 => condL y n ps k ++ [condR y n k (ps.getD k rd0)]
theorem condL_len (y n : Nat) (ps : List RD) : ∀ k, (condL y n ps k).length = k
  | 0 => rfl
  | k + 1 => by simp [condL, condL_len y n ps k]
theorem rd0_wf {L : Nat} : rd0.wf L := ⟨by simp [rd0], by simp [rd0], by simp [rd0], by simp [rd0]⟩
theorem rd1_wf {L : Nat} (h : 1 ≤ L) : (rd 1).wf L := rd_wf (fits_mono fits_one h)
theorem condL_wf {y n : Nat} {ps : List RD} {L : Nat} (hL : 1 ≤ L) (h : ∀ r ∈ ps, r.wf L) : ∀ k, ∀ r ∈ condL y n ps k, r.wf L
  | 0, r, hr => by simp [condL] at hr
  | k + 1, r, hr => by
    rcases List.mem_append.1 hr with hr | hr
    · exact condL_wf hL h k r hr
    · simp only [List.mem_singleton] at hr
      subst hr
      unfold condR
      split
      · exact rd1_wf hL
      · split
        · exact rd0_wf
        · exact getD_wf h k
theorem ccode_nat {y n : Int} (h : ccode y n = 0) : ∃ a b : Nat, y = a ∧ n = b ∧ a < 16777216 ∧ b < 16777216 := by
  unfold ccode at h
  split at h
  · cases h
  · rename_i h1
    simp [maskB] at h1
    exact ⟨y.toNat, n.toNat, by omega, by omega, by omega, by omega⟩
theorem sgn0 {q : Rat} : (signQ q == 0) = decide (q = 0) := by
  rw [Bool.eq_iff_iff]
  simp only [beq_iff_eq, decide_eq_true_eq]
  unfold signQ
  constructor
  · intro h
    grind
  · rintro rfl; simp
end Go.PN
namespace Go.AI
open Go.PN
theorem zero_agg : ∀ (S : Bool → Nat → Prop) (w : World) (u : Value), Rep S w (.agg [.bool false, .nils, .nils]) u → Rep S w (.agg [.bool rd0.neg, ws true rd0.num, ws true rd0.den]) u := by
  rintro S w u ⟨us, rfl, h⟩
  refine ⟨us, rfl, ?_⟩
  match us, h with
  | [a, b, c], ⟨h1, h2, h3, _⟩ => exact ⟨h1, repC_nil h2, repC_nil h3, trivial⟩
theorem le_gsr' {pre : Heap} {og : Option Nat} {e n : Nat} {ps : List RD} (hog : og = none → n = 0) (hn : ∀ g, og = some g → g ∉ pre.keys) (hl : ps.length = n) : LeC (pre ++ gh og e (n * 3) (ratsF ps)) (gs og 3 n) (rats false ps) := le_gsr hog hn hl
end Go.AI
namespace Go.Proofs.YtlpejaefobdajaaGreat
open Go.AI Go.PN
attribute [local irreducible] aw Fa Fh DrK
set_option maxHeartbeats 800000 in
theorem check37_fa (p : List RD) (vars : Int) (hw : ∀ r ∈ p, r.wf 500000000) (hl : p.length ≤ 1099511627776) : Fa Tryz.prog 45 [.c (rats false p), .c (.int .i64 vars)] (.c (.int .i64 (pcode p vars))) := by
  unfold pcode
  refine fa_of_body Tryz.func45 rfl rfl (by simp [Tryz.ntmps45]) fun C hC => ?_
  simp only [initS, Nat.reduceAdd]
  refine xG ?_
  refine xF (fun hb=>?_) fun hb=>?_
  · have hb' : (p.length : Int) ≠ vars := by simpa using hb
    refine xG ?_
    refine xT hC ?_
    exact .one (.c (ler_int (by rw [if_pos hb'])))
  · have hb' : (p.length : Int) = vars := by simpa using hb
    rw [if_neg (by omega)]
    refine xG ?_
    refine aw_lp (fun x : Nat => [(0, .c (rats false p)), (5, .c (.int .i64 x))]) (fun x => []) (fun x => x ≤ p.length ∧ ∀ j, j < x → (p.getD j rd0).prob = true) (fun x => p.length - x) 0 eB zZ ⟨Nat.zero_le _, by omega⟩ ?_
    rintro i ⟨hi, hs⟩
    refine xG ?_
    refine xF (fun h1=>?_) fun h1=>?_
    · have h1' : i < p.length := by have := of_decide_eq_true h1; omega
      have hmem : p.getD i rd0 ∈ p := by rw [List.getD_eq_getElem?_getD, List.getElem?_eq_getElem h1']; exact List.getElem_mem h1'
      refine xG ?_
      refine xC (sprob_fa (p.getD i rd0) (getD_wf hw i)) ?_
      refine xG ?_
      refine xF (fun h2=>?_) fun h2=>?_
      · have h2' : (p.getD i rd0).prob = false := by simpa using h2
        refine xG ?_
        refine xT hC ?_
        exact .one (.c (ler_int (by rw [if_neg (fun h => by rw [List.all_eq_true.1 h _ hmem] at h2'; cases h2')])))
      · have h2' : (p.getD i rd0).prob = true := by simpa using h2
        refine xG ?_
        refine aw_stop ⟨i + 1, by omega, eB, zZ, by omega, fun j hj => ?_⟩
        rcases Nat.lt_succ_iff_lt_or_eq.1 hj with h | h
        · exact hs j h
        · rw [h, h2']
    · have h1' : i = p.length := by have := of_decide_eq_false h1; omega
      subst h1'
      refine xG ?_
      refine xT hC ?_
      refine .one (.c (ler_int ?_))
      rw [if_pos]
      refine List.all_eq_true.2 fun x hx => ?_
      obtain ⟨j, hj, e⟩ := List.mem_iff_getElem.1 hx
      have := hs j hj
      rw [List.getD_eq_getElem?_getD, List.getElem?_eq_getElem hj, Option.getD_some, e] at this
      exact this
set_option maxHeartbeats 800000 in
theorem checkDiagram_fa (d : DG) (p : List RD) (hw : ∀ r ∈ p, r.wf 500000000) (hl : p.length ≤ 1099511627776) (hl1 : d.order.length ≤ 1099511627776) (hl2 : d.nodes.length ≤ 1099511627776) : Fa Tryz.prog 18 [.agg (dgc false d), .c (rats false p)] (.c (.int .i64 (dpcode d p))) := by
  unfold dpcode
  refine fa_of_body Tryz.func18 rfl rfl (by simp [Tryz.ntmps18]) fun C hC => ?_
  simp only [initS, Nat.reduceAdd]
  refine xG ?_
  refine xB fun g2 hn_g2=>?_
  refine yG hn_g2 ?_
  refine yC hn_g2 (dcheckR_fa d hl1 hl2) ?_
  refine yG hn_g2 ?_
  refine yF hn_g2 (fun hb=>?_) fun hb=>?_
  · have hb' : dcode d ≠ 0 := by simpa using hb
    refine yG hn_g2 ?_
    refine yT hC hn_g2 ?_
    exact .one (.c (ler_int (by rw [if_pos hb'])))
  · have hb' : dcode d = 0 := by simpa using hb
    refine yG hn_g2 ?_
    refine yC hn_g2 (check37_fa p d.order.length hw hl) ?_
    refine yG hn_g2 ?_
    refine yT hC hn_g2 ?_
    exact .one (.c (ler_int (by rw [if_neg (by simp [hb'])])))
theorem condR_cast {y n i : Nat} {r : RD} : condR y n i r = if y.testBit i then rd ((1 : Int) : Rat) else if n.testBit i then rd0 else r := rfl
end Go.Proofs.YtlpejaefobdajaaGreat

/- Maps of the call's own: made, asked, added to. -/
namespace Go.AI

/-- What is found for a key. -/
def fAsk {α : Type} [DecidableEq α] (a : α) : List α → List MapEntry → Nat → Option (Nat × Value)
  | k :: ks, e :: es, i => if a = k then some (i, e.val) else fAsk a ks es (i + 1)
  | _, _, _ => none
/-- Keys of type kt, told by K. -/
structure KeyOk (P : Program) (kt : TypeId) {α : Type} [DecidableEq α] (K : α → Value) : Prop where
  check : ∀ b a w, (Instr.checkKey b 10000 kt (K a)).run P w = .ok () w
  find : ∀ (a : α) (ks : List α) (es : List MapEntry) w, es.map (·.key) = ks.map K → (Instr.findKey kt (K a) es).run P w = .ok (fAsk a ks es 0) w

section
variable {P : Program}
theorem run_findAsking {α : Type} [DecidableEq α] {K : α → Value} {kt : TypeId} (heq : ∀ a b w, (Op.equal kt (K a) (K b)).run P w = .ok (decide (a = b)) w) (a : α) : ∀ (ks : List α) (es : List MapEntry) (i : Nat) (w : World), es.map (·.key) = ks.map K → (Instr.findAsking kt (K a) es i).run P w = .ok (fAsk a ks es i) w
  | [], [], i, w, _ => by simp [Instr.findAsking, fAsk]
  | k :: ks, e :: es, i, w, h => by
    simp only [List.map_cons, List.cons.injEq] at h
    simp only [Instr.findAsking, fAsk, Sem.run_bind, h.1, heq, Result.andThen_ok]
    by_cases hk : a = k
    · simp [hk]
    · simp only [hk, decide_false, Bool.false_eq_true, if_false]
      exact run_findAsking heq a ks es (i + 1) w h.2
  | [], e :: es, i, w, h => by simp at h
  | k :: ks, [], i, w, h => by simp at h

/-- Keys that are structs of ints. -/
def keyZ (ns : List Int) : Value := .agg (ns.map (Value.int .i64)).toArray
theorem run_checkFields {n : Nat} {ns : List Int} (w : World) (b : Bool) : ∀ (fs : List Field) (k : Nat), (fs.zipIdx k).all (fun p => p.1.name != "_" && p.1.offset == p.2 && (tInt P p.1.type).isSome) = true → k + fs.length ≤ ns.length →
    (forIn fs PUnit.unit (fun f (_ : PUnit) => (do
      if f.name ≠ "_" then
        let __do_lift ← part f.type (ns.map (Value.int .i64)).toArray f.offset
        Instr.checkKey b (n + 1) f.type __do_lift
      pure (ForInStep.yield PUnit.unit) : Sem (ForInStep PUnit)))).run P w = .ok PUnit.unit w
  | [], k, _, _ => by simp
  | f :: fs, k, hf, hk => by
    simp only [List.zipIdx_cons, List.all_cons, Bool.and_eq_true, bne_iff_ne, ne_eq, beq_iff_eq] at hf
    obtain ⟨⟨⟨hn, ho⟩, hi⟩, hr⟩ := hf
    simp only [List.length_cons] at hk
    have hka : k < ns.length := by omega
    obtain ⟨kk, hkk⟩ := Option.isSome_iff_exists.1 hi
    have hu := tInt_spec hkk
    have hag : (isAgg f.type).run P w = .ok false w := by simp [isAgg, run_underlying hu]
    have e1 : (ns.map (Value.int .i64)).toArray[k]? = some (Value.int .i64 (ns[k])) := by simp [hka]
    have p1 : (part f.type (ns.map (Value.int .i64)).toArray f.offset).run P w = .ok (.int .i64 (ns[k])) w := by
      unfold part
      simp only [Sem.run_bind, hag, Result.andThen_ok, Bool.false_eq_true, if_false, ho, e1, Sem.run_pure]
    have p2 : (Instr.checkKey b (n + 1) f.type (.int .i64 (ns[k]))).run P w = .ok () w := by
      simp [Instr.checkKey, run_underlying hu]
    have ih := run_checkFields (n := n) (ns := ns) w b fs (k + 1) (by simpa using hr) (by omega)
    rw [List.forIn_cons]
    simp only [hn, not_false_eq_true, if_true, Sem.run_bind, p1, p2, Result.andThen_ok, Sem.run_pure, ne_eq]
    exact ih
theorem keyZ_ok {kt n : Nat} (ht : tEqS P kt = some n) : KeyOk P kt (fun ns : { l : List Int // l.length = n } => keyZ ns.1) := by
  have hstr : P.underlying kt = some (.struct (P.fieldsOf kt)) ∧ (P.fieldsOf kt).toList.zipIdx.all (fun p => p.1.name != "_" && p.1.offset == p.2 && (tInt P p.1.type).isSome) = true ∧ (P.fieldsOf kt).size = n := by
    unfold tEqS at ht
    split at ht
    · rename_i hc
      simp only [Bool.and_eq_true, Bool.not_eq_true'] at hc
      obtain ⟨⟨⟨h1, h2⟩, h3⟩, h4⟩ := hc
      injection ht with ht
      exact ⟨isStr_spec h4, h3, ht⟩
    · cases ht
  obtain ⟨hu, hf, hs⟩ := hstr
  have heq : ∀ (a b : { l : List Int // l.length = n }) (w : World), (Op.equal kt (keyZ a.1) (keyZ b.1)).run P w = .ok (decide (a = b)) w := fun a b w => by
    have := (tEqS_run ht a.2 b.2 w).1
    unfold Op.equal Op.maxDepth keyZ
    rw [this, eqZ_eq]
    congr 1
    rw [Bool.eq_iff_iff]; simp [Subtype.ext_iff]
  refine ⟨fun b a w => ?_, fun a ks es w h => ?_⟩
  · unfold keyZ
    rw [show (10000 : Nat) = 9999 + 1 from rfl, Instr.checkKey]
    simp only [Sem.run_bind, run_underlying hu, Result.andThen_ok]
    rw [← Array.forIn_toList]
    have := run_checkFields (P := P) (n := 9998) (ns := a.1) w b (P.fieldsOf kt).toList 0 hf (by simp [hs, a.2])
    rw [this]
    rfl
  · unfold Instr.findKey
    simp only [Sem.run_bind, run_underlying hu, Result.andThen_ok]
    cases es with
    | nil =>
      cases ks with
      | nil => simp [Instr.findNow, fAsk]
      | cons k ks => simp at h
    | cons e es =>
      have hn : Instr.findNow (.struct (P.fieldsOf kt)) (keyZ a.1) (e :: es) 0 = none := by
        simp [Instr.findNow, Instr.sameNow]
      rw [hn]
      exact run_findAsking heq a ks (e :: es) 0 w h

/-- A map's entries. -/
def MapI {α : Type} (K : α → Value) (kv : List (α × Value)) (o : Obj) : Prop := ∃ es c, o = .map es c ∧ es.toList.map (fun e => (e.key, e.val)) = kv.map (fun p => (K p.1, p.2))
def kvGet {α : Type} [DecidableEq α] (a : α) : List (α × Value) → Option Value
  | [] => none
  | p :: kv => if a = p.1 then some p.2 else kvGet a kv
theorem fAsk_get {α : Type} [DecidableEq α] {K : α → Value} (a : α) : ∀ (kv : List (α × Value)) (es : List MapEntry) (i : Nat), es.map (fun e => (e.key, e.val)) = kv.map (fun p => (K p.1, p.2)) → (fAsk a (kv.map (·.1)) es i).map (·.2) = kvGet a kv
  | [], [], i, _ => rfl
  | p :: kv, e :: es, i, h => by
    simp only [List.map_cons, List.cons.injEq, Prod.mk.injEq] at h
    simp only [List.map_cons, fAsk, kvGet]
    split
    · simp [h.1.2]
    · exact fAsk_get a kv es (i + 1) h.2
  | [], e :: es, i, h => by simp at h
  | p :: kv, [], i, h => by simp at h
def tMap (P : Program) (t : TypeId) : Option (TypeId × TypeId) := match P.underlying t with
  | some (.map k e) => some (k, e)
  | _ => none
theorem tMap_spec {t k e : TypeId} (h : tMap P t = some (k, e)) : P.underlying t = some (.map k e) := by
  unfold tMap at h
  split at h
  · rename_i hu; simp only [Option.some.injEq, Prod.mk.injEq] at h; rw [hu, h.1, h.2]
  · cases h
/-- The zero of a type of one cell. -/
def tZ1 (P : Program) (t : TypeId) : Option Value := match (P.info? t).bind (·.zero) with
  | some (.int k n) => some (.int k n)
  | some (.bool b) => some (.bool b)
  | _ => none
theorem tZ1_run {t : TypeId} {z : Value} (h : tZ1 P t = some z) (w : World) : (zeroValue t).run P w = .ok z w := by
  unfold tZ1 at h
  cases hi : P.info? t with
  | none => simp [hi] at h
  | some i =>
    cases hz : i.zero with
    | none => simp [hi, hz] at h
    | some v =>
      simp only [hi, hz, Option.bind_some] at h
      split at h
      · rename_i he; injection he with he; injection h with h; subst h; simp [zeroValue, typeInfo, hi, hz, he]
      · rename_i he; injection he with he; injection h with h; subst h; simp [zeroValue, typeInfo, hi, hz, he]
      · cases h

theorem runGet {w : World} {r : Nat} {es : Array MapEntry} {c : Nat} (hb : w.heap[r]? = some (.map es c)) : (getObj r).run P w = .ok (.map es c) w := by simp [getObj, Sem.run, hb]
theorem runSet {w : World} {r : Nat} {es : Array MapEntry} {c : Nat} (o' : Obj) (hb : w.heap[r]? = some (.map es c)) : (setObj r o').run P w = .ok () { w with heap := w.heap.setIfInBounds r o' } := by simp [setObj, Sem.run, hb]
variable {E : Env} {K : List It} {σ σ' : Sl} {h : Heap} {all rest : List Oper} {o : Oper}
theorem aw_makeMap {α : Type} {Kf : α → Value} {t : TypeId} (hop : o.op = .makeMap t none) (hw : wantA all σ o = some true) (hd : dstOk E.N o.dst = true)
    (k : ∀ g, g ∉ h.keys → aw E (.ops all rest :: K) (σ.setO o.dst (.c (.raw (.map (some g))))) ((g, .gen (MapI Kf [])) :: h)) : aw E (.ops all (o :: rest) :: K) σ h := by
  refine aw_new (r := fun g => .c (.raw (.map (some g)))) (ob := .gen (MapI Kf [])) hw hd (fun a w s => ?_) k
  refine ⟨.map (some w.heap.size), w.alloc (.map #[] 0), ?_, Fr.alloc _ _ _, by simp, ⟨_, heap_alloc_new w _, _, _, rfl, rfl⟩, rfl⟩
  simp only [execOp, hop]
  rfl
/-- m[k] -/
theorem aw_lookup {α : Type} [DecidableEq α] {Kf : α → Value} {t kt et g : TypeId} {kv : List (α × Value)} {x ky : Operand} {ck : AV} {a : α} {z : Value} (hop : o.op = .lookup t x ky false) (hw : wantA all σ o = some true) (hd : dstOk E.N o.dst = true)
    (ht : tMap E.P t = some (kt, et)) (hK : KeyOk E.P kt Kf) (hz : tZ1 E.P et = some z) (hx : ev σ x = .c (.raw (.map (some g)))) (hg : h.get g = some (.gen (MapI Kf kv))) (hk : ev σ ky = ck) (hka : ∀ S w v, Rep S w ck v → v = Kf a)
    (k : aw E (.ops all rest :: K) (σ.setO o.dst (.c (cstC ((kvGet a kv).getD z)))) h) : aw E (.ops all (o :: rest) :: K) σ h := by
  refine aw_step hw (fun ac w s => ?_) k
  have h1 := ev_rep s x
  rw [hx] at h1
  have h1' : ac.eval x = .map (some g) := h1
  have h2 := ev_rep s ky
  rw [hk] at h2
  have h2' := hka _ _ _ h2
  obtain ⟨ob, hb, es, c, rfl, hes⟩ := s.heap g _ (Heap.get_mem hg)
  have hkeys : es.toList.map (·.key) = (kv.map (·.1)).map Kf := by
    have := congrArg (List.map Prod.fst) hes
    rw [List.map_map, List.map_map] at this
    rw [List.map_map]
    exact this
  have hfind := hK.find a (kv.map (·.1)) es.toList w hkeys
  have hget := fAsk_get (K := Kf) a kv es.toList 0 hes
  refine ⟨(kvGet a kv).getD z, w, .inl ?_, s.put hd (cstC_rep _ _ _)⟩
  have hlk : (Instr.lookup t (ac.eval x) (ac.eval ky) false).run E.P w = .ok ((kvGet a kv).getD z) w := by
    rw [h1', h2']
    unfold Instr.lookup
    simp only [Sem.run_bind, run_underlying (tMap_spec ht), Result.andThen_ok, runGet hb, Sem.run_pure, hK.check, hfind]
    rw [← hget]
    cases hf : fAsk a (kv.map (·.1)) es.toList 0 with
    | none => simp [tZ1_run hz]
    | some p => obtain ⟨i, v⟩ := p; simp
  simp only [execOp, hop, Sem.run_bind, hlk, Result.andThen_ok]
  rfl
/-- m[k] = v, a new key. -/
theorem aw_mapNew {α : Type} [DecidableEq α] {Kf : α → Value} {t kt et g : TypeId} {kv : List (α × Value)} {x ky vl : Operand} {ck cv : AV} {a : α} {v : Value} (hop : o.op = .mapUpdate t x ky vl) (hdn : o.dst = none) (hw : wantA all σ o = some true)
    (ht : tMap E.P t = some (kt, et)) (hK : KeyOk E.P kt Kf) (hx : ev σ x = .c (.raw (.map (some g)))) (hg : h.get g = some (.gen (MapI Kf kv))) (hk : ev σ ky = ck) (hka : ∀ S w u, Rep S w ck u → u = Kf a) (hv : ev σ vl = cv) (hva : ∀ S w u, Rep S w cv u → u = v)
    (hnew : kvGet a kv = none) {h' : Heap} (hh : h.set g (.gen (MapI Kf (kv ++ [(a, v)]))) = h') (k : aw E (.ops all rest :: K) σ h') : aw E (.ops all (o :: rest) :: K) σ h := by
  subst hh
  refine aw_step hw (fun ac w s => ?_) k
  have h1 := ev_rep s x
  rw [hx] at h1
  have h1' : ac.eval x = .map (some g) := h1
  have h2 := ev_rep s ky
  rw [hk] at h2
  have h2' := hka _ _ _ h2
  have h3 := ev_rep s vl
  rw [hv] at h3
  have h3' := hva _ _ _ h3
  obtain ⟨ob, hb, es, c, rfl, hes⟩ := s.heap g _ (Heap.get_mem hg)
  have hkeys : es.toList.map (·.key) = (kv.map (·.1)).map Kf := by
    have := congrArg (List.map Prod.fst) hes
    rw [List.map_map, List.map_map] at this
    rw [List.map_map]
    exact this
  have hfind := hK.find a (kv.map (·.1)) es.toList w hkeys
  have hget := fAsk_get (K := Kf) a kv es.toList 0 hes
  have hnone : fAsk a (kv.map (·.1)) es.toList 0 = none := by
    cases hf : fAsk a (kv.map (·.1)) es.toList 0 with
    | none => rfl
    | some p => rw [hf, hnew] at hget; cases hget
  have hgl : g < w.heap.size := (Array.getElem?_eq_some_iff.1 hb).1
  let w' : World := { w with heap := w.heap.setIfInBounds g (.map (es.push { key := Kf a, val := v, born := c }) (c + 1)) }
  have hrun : (Instr.mapUpdate t (ac.eval x) (ac.eval ky) (ac.eval vl)).run E.P w = .ok () w' := by
    rw [h1', h2', h3']
    unfold Instr.mapUpdate
    simp only [Sem.run_bind, run_underlying (tMap_spec ht), Result.andThen_ok, runGet hb, hK.check, hfind, hnone, runSet _ hb]
    rfl
  refine ⟨undef, w', .inr ⟨?_, rfl⟩, ?_⟩
  · simp only [execOp, hop, Sem.run_bind, hrun, Result.andThen_ok]
    rfl
  · rw [hdn]
    have hfr : Fr (fun b => b = g) w w' := by
      refine ⟨rfl, rfl, rfl, by simp [w'], fun b _ hne => ?_, fun g' m hh => ?_⟩
      · simp only [w']; rw [Array.getElem?_setIfInBounds_ne (fun e => hne e.symm)]
      · obtain ⟨cs, ty, hc, hs⟩ := hh
        refine ⟨cs, ty, ?_, hs⟩
        have hne : g' ≠ g := fun e => by rw [e, hb] at hc; cases hc
        simp only [w']
        rw [Array.getElem?_setIfInBounds_ne (fun e => hne e.symm)]; exact hc
    refine s.setObj hg hfr ⟨_, by simp only [w']; rw [Array.getElem?_setIfInBounds_self_of_lt hgl], _, _, rfl, ?_⟩
    simp only [Array.toList_push, List.map_append, List.map_cons, List.map_nil, hes]
end
end Go.AI

/- Function values, and slices against nil. -/
namespace Go.AI
section
variable {E : Env} {K : List It} {σ σ' : Sl} {h : Heap} {all rest : List Oper} {o : Oper}

/-- s == nil -/
theorem aw_eqnil {t e : TypeId} {t2 : TypeId} {x : Operand} {tg : Bool} {s n : Nat} {f : Nat → CV} (hop : o.op = .binOp .eql t x (.const (.slice none 0 0)) t2) (hw : wantA all σ o = some true) (hd : dstOk E.N o.dst = true) (ht : E.P.underlying t = some (.slice e)) (hx : ev σ x = .c (.row tg s n f)) (hs : 0 < s)
    (k : ∀ b : Bool, (b = true → n = 0) → aw E (.ops all rest :: K) (σ.setO o.dst (.c (.bool b))) h) : aw E (.ops all (o :: rest) :: K) σ h := fun a w st => by
  have h1 := ev_rep st x
  rw [hx] at h1
  obtain ⟨A, c, hv, hc, hn⟩ := h1
  show wpList _ _ _ _ _ _
  unfold wpList
  rw [if_pos (st.wanted hw)]
  refine .inl ?_
  unfold Oper.wp
  have hrun : (execOp a.eval o).run E.P w = .ok (.value (.bool A.isNone)) w := by
    have e2 : a.eval (.const (.slice none 0 0)) = .slice none 0 0 := rfl
    have h3 : (eqGuard .eql t x (.const (.slice none 0 0)) (.slice A n c) (.slice none 0 0)).run E.P w = .ok () w := by
      simp [eqGuard]
    have h4 : (binOp .eql t (.slice A n c) (.slice none 0 0)).run E.P w = .ok (.bool A.isNone) w := by
      unfold binOp
      simp [run_equal_slice_nil w t e A n c ht]
    simp only [execOp, hop, hv, e2, Sem.run_bind, h3, h4, Result.andThen_ok]
    rfl
  rw [hrun]
  refine k A.isNone (fun hb => ?_) _ _ (st.put hd rfl)
  cases A with
  | none =>
    rcases Nat.eq_zero_or_pos n with h0 | h0
    · exact h0
    · obtain ⟨ad, e, _⟩ := hn (Nat.mul_pos h0 hs)
      cases e
  | some a => cases hb

/-- Pointers to its own blocks, as a function value holds them. -/
def ptrs (gs : List Nat) : List Value := gs.map fun g => .pointer (some ⟨g, 0, none⟩)
def fnC (f : FuncId) (gs : List Nat) : CV := .raw (.func (.func f) #[] (ptrs gs).toArray)
theorem aw_makeFunc {f : FuncId} {cs : List Operand} {gs : List Nat} (hop : o.op = .makeFunc (.func f) #[] cs.toArray) (hw : wantA all σ o = some true) (hd : dstOk E.N o.dst = true) (hc : cs.map (ev σ) = gs.map fun g => .c (.optr g 0))
    (k : aw E (.ops all rest :: K) (σ.setO o.dst (.c (fnC f gs))) h) : aw E (.ops all (o :: rest) :: K) σ h := by
  refine aw_step hw (fun a w s => ?_) k
  have hev : ∀ (cs : List Operand) (gs : List Nat), cs.map (ev σ) = gs.map (fun g => AV.c (.optr g 0)) → cs.map a.eval = ptrs gs := by
    intro cs
    induction cs with
    | nil => intro gs hg; cases gs with
      | nil => rfl
      | cons g gs => cases hg
    | cons x cs ih => intro gs hg; cases gs with
      | nil => cases hg
      | cons g gs =>
        simp only [List.map_cons, List.cons.injEq] at hg
        have h1 := ev_rep s x
        rw [hg.1] at h1
        have h1' : a.eval x = .pointer (some ⟨g, 0, none⟩) := h1
        simp only [List.map_cons, ptrs]
        rw [h1', ih gs hg.2]
        rfl
  refine ⟨.func (.func f) #[] (ptrs gs).toArray, w, .inl ?_, s.put hd rfl⟩
  simp only [execOp, hop, Instr.makeFunc, List.map_toArray, hev cs gs hc]
  rfl
theorem RepT.ptrs {S : Bool → Nat → Prop} {w : World} : ∀ {A : List AV} {vs : List Value} (gs : List Nat), RepT S w A vs → RepT S w (A ++ gs.map fun g => .c (.optr g 0)) (vs ++ AI.ptrs gs)
  | [], [], gs, _ => by
    induction gs with
    | nil => trivial
    | cons g gs ih => exact ⟨rfl, ih⟩
  | _ :: _, _ :: _, gs, h => ⟨h.1, RepT.ptrs gs h.2⟩
  | [], _ :: _, _, h => h.elim
  | _ :: _, [], _, h => h.elim
/-- A call of a function value that is handed blocks. -/
theorem aw_callhv {f : FuncId} {x : Operand} {gs : List Nat} {xs : List Operand} {ts : Array TypeId} {hc hr : Heap} {args : List AV} {Q : AV → Heap → Prop} (hf : Fh E.P f hc (args ++ gs.map fun g => .c (.optr g 0)) Q) (hop : o.op = .call { callee := .value x, args := xs.toArray, argTypes := ts }) (hw : wantA all σ o = some true) (hd : dstOk E.N o.dst = true) (hx : ev σ x = .c (fnC f gs))
    (hp : h.Perm (hc ++ hr)) (le : LeA [] (xs.map (ev σ)) args) (k : ∀ r h', Q r h' → (∀ g ∈ h'.keys, g ∉ hr.keys) → aw E (.ops all rest :: K) (σ.setO o.dst r) (h' ++ hr)) : aw E (.ops all (o :: rest) :: K) σ h := fun a w s => by
  show wpList _ _ _ _ _ _
  unfold wpList
  rw [if_pos (s.wanted hw)]
  refine .inl ?_
  unfold Oper.wp
  have hv : a.eval x = .func (.func f) #[] (ptrs gs).toArray := by
    have := ev_rep s x
    rw [hx] at this
    exact this
  have hrun : (execOp a.eval o).run E.P w = .ok (.enter f (xs.map a.eval ++ ptrs gs).toArray) w := by
    simp only [execOp, hop, resolve, hv, Deferred.ofValue, invoke, Sem.run_bind]
    have := hf.1.run (#[] ++ (Array.map a.eval xs.toArray) ++ (ptrs gs).toArray) w
    simp only [Sem.run_pure, Result.andThen_ok]
    rw [show ((xs.map a.eval ++ ptrs gs).toArray) = (#[] ++ (Array.map a.eval xs.toArray) ++ (ptrs gs).toArray) from by simp]
    exact this
  rw [hrun]
  show Calls _ _ _ _ _
  refine (hf.use s hp (RepT.ptrs gs (LeA.rep0 s le))).mono ?_
  rintro e w' ⟨v, r, h', rfl, hq, hfr, s', hrep⟩
  exact k r h' hq hfr _ _ (s'.put hd hrep)
/-- A call of a function value that holds nothing. -/
theorem aw_callqv {f : FuncId} {x : Operand} {xs : List Operand} {ts : Array TypeId} {args : List AV} {r : AV} (hf : Fa E.P f args r) (hop : o.op = .call { callee := .value x, args := xs.toArray, argTypes := ts }) (hw : wantA all σ o = some true) (hd : dstOk E.N o.dst = true) (hx : ev σ x = .c (.raw (.func (.func f) #[] #[])))
    (le : LeA h (xs.map (ev σ)) args) (k : aw E (.ops all rest :: K) (σ.setO o.dst r) h) : aw E (.ops all (o :: rest) :: K) σ h := fun a w s => by
  show wpList _ _ _ _ _ _
  unfold wpList
  rw [if_pos (s.wanted hw)]
  refine .inl ?_
  unfold Oper.wp
  have hv : a.eval x = .func (.func f) #[] #[] := by
    have := ev_rep s x
    rw [hx] at this
    exact this
  have hrun : (execOp a.eval o).run E.P w = .ok (.enter f (xs.map a.eval).toArray) w := by
    simp only [execOp, hop, resolve, hv, Deferred.ofValue, invoke, Sem.run_bind]
    have := hf.1.run (#[] ++ (Array.map a.eval xs.toArray) ++ #[]) w
    simp only [Sem.run_pure, Result.andThen_ok]
    rw [show ((xs.map a.eval).toArray) = (#[] ++ (Array.map a.eval xs.toArray) ++ #[]) from by simp]
    exact this
  rw [hrun]
  show Calls _ _ _ _ _
  refine (hf.use s le).mono ?_
  rintro e w' ⟨v, rfl, hr, hfr⟩
  exact k _ _ ((s.later hfr).put hd hr)
end
end Go.AI

/- shannon.Check with slices.ContainsFunc; slices.Clone. -/
namespace Go.PN
open Go.AI
theorem first_bad : ∀ p : List RD, p.all RD.prob = true ∨ ∃ i : Nat, i < p.length ∧ (p.getD i rd0).prob = false ∧ ∀ j, j < i → (p.getD j rd0).prob = true
  | [] => .inl rfl
  | x :: p => by
    cases hx : x.prob with
    | false => exact .inr ⟨0, by simp, by simpa using hx, by omega⟩
    | true =>
      rcases first_bad p with h | ⟨i, h1, h2, h3⟩
      · exact .inl (by simp [hx] at h ⊢; exact h)
      · refine .inr ⟨i + 1, by simp; omega, by simpa using h2, fun j hj => ?_⟩
        cases j with
        | zero => simpa using hx
        | succ j => simpa using h3 j (by omega)
theorem ratsF_solid (p : List RD) (j : Nat) (hj : j < p.length * 3) : (ratsF p j).solid = true := by
  obtain ⟨i, k, hk, rfl⟩ : ∃ i k, k < 3 ∧ j = i * 3 + k := ⟨j / 3, j % 3, Nat.mod_lt _ (by omega), by omega⟩
  unfold ratsF
  rw [lf_at hk]
  match k, hk with
  | 0, _ => rfl
  | 1, _ => rfl
  | 2, _ => rfl
end Go.PN
namespace Go.Proofs.YtlpejaefobdajaaGreat
open Go.AI Go.PN
attribute [local irreducible] aw Fa Fh DrK
theorem check1_fa (r : RD) (hw : r.wf 500000000) : Fa Tryz.prog 157 [.agg (rdc r)] (.c (.bool (!r.prob))) := by
  refine fa_of_body Tryz.func157 rfl rfl (by simp [Tryz.ntmps157]) fun C hC => ?_
  simp only [initS, Nat.reduceAdd]
  refine xG ?_
  refine xB fun g1 hn_g1=>?_
  refine yG hn_g1 ?_
  refine yC hn_g1 (rprob_fa r (wf_mono hw ?_)) ?_
  · omega
  refine yG hn_g1 ?_
  refine yT hC hn_g1 ?_
  exact .one (.c (.bool _))
set_option maxHeartbeats 800000 in
theorem indexFunc_fa (p : List RD) (hw : ∀ r ∈ p, r.wf 500000000) (hl : p.length ≤ 1099511627776) : ∃ z : Int, (decide (z ≥ 0) = !(p.all RD.prob)) ∧ Fa Tryz.prog 193 [.c (rats false p), .c (.raw (.func (.func 157) #[] #[]))] (.c (.int .i64 z)) := by
  have hz : ∃ z : Int, (z = -1 ∧ p.all RD.prob = true) ∨ ∃ i : Nat, z = i ∧ i < p.length ∧ (p.getD i rd0).prob = false ∧ ∀ j, j < i → (p.getD j rd0).prob = true := by
    rcases first_bad p with h | ⟨i, h⟩
    · exact ⟨-1, .inl ⟨rfl, h⟩⟩
    · exact ⟨i, .inr ⟨i, rfl, h⟩⟩
  obtain ⟨z, hz⟩ := hz
  refine ⟨z, ?_, ?_⟩
  · rcases hz with ⟨rfl, ha⟩ | ⟨k, rfl, hk, hk1, hk2⟩
    · rw [ha]; rfl
    · rw [decide_eq_true (by omega)]
      cases ha : p.all RD.prob with
      | false => rfl
      | true =>
        have := List.all_eq_true.1 ha (p.getD k rd0) (by rw [List.getD_eq_getElem?_getD, List.getElem?_eq_getElem hk]; exact List.getElem_mem hk)
        rw [this] at hk1; cases hk1
  refine fa_of_body Tryz.func193 rfl rfl (by simp [Tryz.ntmps193]) fun C hC => ?_
  simp only [initS, Nat.reduceAdd]
  refine xG ?_
  refine aw_lp (fun x : Nat => [(0, .c (rats false p)), (1, .c (.raw (.func (.func 157) #[] #[]))), (7, .c (.int .i64 p.length)), (8, .c (.int .i64 x))]) (fun x => []) (fun x => x ≤ p.length ∧ ∀ j, j < x → (p.getD j rd0).prob = true) (fun x => p.length - x) 0 eB zZ ⟨Nat.zero_le _, by omega⟩ ?_
  rintro i ⟨hi, hs⟩
  refine xG ?_
  refine xF (fun h1=>?_) fun h1=>?_
  · have h1' : i < p.length := by have := of_decide_eq_true h1; omega
    refine xG ?_
    refine aw_callqv (check1_fa (p.getD i rd0) (getD_wf hw i)) rfl rfl rfl eE eL ?_
    refine xS ?_
    refine xG ?_
    refine xF (fun h2=>?_) fun h2=>?_
    · have h2' : (p.getD i rd0).prob = false := by simpa using h2
      refine xG ?_
      refine xT hC ?_
      refine .one (.c (ler_int ?_))
      rcases hz with ⟨_, ha⟩ | ⟨k, rfl, hk, hk1, hk2⟩
      · have := List.all_eq_true.1 ha (p.getD i rd0) (by rw [List.getD_eq_getElem?_getD, List.getElem?_eq_getElem h1']; exact List.getElem_mem h1')
        rw [this] at h2'; cases h2'
      · rcases Nat.lt_trichotomy k i with h | h | h
        · rw [hs k h] at hk1; cases hk1
        · rw [h]
        · rw [hk2 i h] at h2'; cases h2'
    · have h2' : (p.getD i rd0).prob = true := by simpa using h2
      refine xG ?_
      refine aw_stop ⟨i + 1, by omega, eB, zZ, by omega, fun j hj => ?_⟩
      rcases Nat.lt_succ_iff_lt_or_eq.1 hj with h | h
      · exact hs j h
      · rw [h, h2']
  · have h1' : i = p.length := by have := of_decide_eq_false h1; omega
    subst h1'
    refine xG ?_
    refine xT hC ?_
    refine .one (.c (ler_int ?_))
    rcases hz with ⟨rfl, ha⟩ | ⟨k, rfl, hk, hk1, hk2⟩
    · rfl
    · rw [hs k hk] at hk1; cases hk1
set_option maxHeartbeats 800000 in
theorem containsFunc_fa (p : List RD) (hw : ∀ r ∈ p, r.wf 500000000) (hl : p.length ≤ 1099511627776) : Fa Tryz.prog 156 [.c (rats false p), .c (.raw (.func (.func 157) #[] #[]))] (.c (.bool (!(p.all RD.prob)))) := by
  obtain ⟨z, hz, hf⟩ := indexFunc_fa p hw hl
  refine fa_of_body Tryz.func156 rfl rfl (by simp [Tryz.ntmps156]) fun C hC => ?_
  simp only [initS, Nat.reduceAdd]
  refine xG ?_
  refine xC (hf) ?_
  refine xG ?_
  refine xT hC ?_
  exact .one (.c (ler_bool hz))
set_option maxHeartbeats 800000 in
theorem scheck_fa (p : List RD) (vars : Int) (hw : ∀ r ∈ p, r.wf 500000000) (hl : p.length ≤ 1099511627776) : Fa Tryz.prog 114 [.c (rats false p), .c (.int .i64 vars)] (.c (errA (pcode p vars))) := by
  unfold pcode
  refine fa_of_body Tryz.func114 rfl rfl (by simp [Tryz.ntmps114]) fun C hC => ?_
  simp only [initS, Nat.reduceAdd]
  refine xG ?_
  refine xF (fun hb=>?_) fun hb=>?_
  · have hb' : (p.length : Int) ≠ vars := by simpa using hb
    refine xG ?_
    refine xT hC ?_
    rw [if_pos hb']
    exact .one (.c (ler_errN rfl (by omega)))
  · have hb' : (p.length : Int) = vars := by simpa using hb
    rw [if_neg (by omega)]
    refine xG ?_
    refine xC (containsFunc_fa p hw hl) ?_
    refine xG ?_
    refine xF (fun h1=>?_) fun h1=>?_
    · have h1' : ¬ p.all RD.prob = true := by simpa using h1
      refine xG ?_
      refine xT hC ?_
      rw [if_neg h1']
      exact .one (.c (ler_errN rfl (by omega)))
    · have h1' : p.all RD.prob = true := by simpa using h1
      refine xG ?_
      refine xT hC ?_
      rw [if_pos h1']
      exact .one (.c (ler_err0 rfl))
set_option maxHeartbeats 800000 in
theorem clone_fh (p : List RD) (hl : p.length ≤ 1000000) : Fh Tryz.prog 64 [] [.c (rats false p)] (fun r h => ∃ og, (og = none → p.length = 0) ∧ r = .c (gs og 3 p.length) ∧ h = gh og 33 (p.length * 3) (ratsF p)) := by
  refine fh_of_body Tryz.func64 rfl rfl (by simp [Tryz.ntmps64]) fun C hC => ?_
  simp only [initS, Nat.reduceAdd]
  refine xG ?_
  refine aw_eqnil (e := 33) rfl rfl rfl (by kernel_rfl) eE (by omega) fun b hb => ?_
  refine xS ?_
  refine xG ?_
  refine xF (fun h1=>?_) fun h1=>?_
  · have h0 := hb h1
    refine xG ?_
    refine xU ?_
    exact ⟨none, fun _ => h0, rfl, rfl⟩
  · refine xG ?_
    refine aw_buildSlice (xs := []) (cells := []) rfl rfl rfl eE (by refine xS ?_; rfl) rfl (by omega) (by omega) (by simp) rfl fun g hg => ?_
    refine aw_conv1 (f' := ratsF []) (fun j hj => absurd hj (by omega)) ?_
    refine xS ?_
    refine xG ?_
    rcases Nat.eq_zero_or_pos p.length with h0 | h0
    · have hp : p = [] := List.length_eq_zero_iff.1 h0
      subst hp
      refine aw_append0 rfl rfl rfl eE eE rfl eE .row rfl ?_
      refine xS ?_
      refine xG ?_
      refine xU ?_
      exact ⟨some g, fun _ => trivial, rfl, rfl⟩
    · refine aw_append (size := 3) (z := [.bool false, .nils, .nils]) rfl rfl rfl eE eE rfl (by omega) eE eE (by omega) eE .row (fun j hj => ratsF_solid p j hj) h0 (by unfold maxLen; omega) (by omega) eE fun g' hg' => ?_
      refine xS ?_
      refine xG ?_
      refine xU ?_
      have hf : appF (ratsF []) 0 (ratsF p) = ratsF p := by funext j; simp [appF]
      rw [hf]
      exact ⟨some g', (fun e => by cases e), rfl, rfl⟩
end Go.Proofs.YtlpejaefobdajaaGreat
