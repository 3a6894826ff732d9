/- Texts of one proof, laid one behind the other by a program (merge.py): Dia2, Dia3, Shan3. -/
import Derived.Test.YtmkomfdiggcloaaGreatM17
set_option linter.unusedSimpArgs false
set_option linter.unusedVariables false
/- faultlineref15: number, Check. -/
namespace Go.PN
open Go.AI
/-- The nodes below a reference, kids first, those of b left out. -/
def numF (ns : List DN) : Nat → Int → List Int → List Int
  | 0, _, b => b
  | k + 1, r, b => if r < 2 ∨ r ∈ b then b else numF ns k (ns.getD (r - 2).toNat dn0).hi (numF ns k (ns.getD (r - 2).toNat dn0).lo b) ++ [r]
theorem nodup_range {n : Nat} {b : List Int} (h : b.Nodup) (hb : ∀ x ∈ b, 2 ≤ x ∧ x < n + 2) : b.length ≤ n := by
  have := nodup_le (m := (List.range n).map fun (i : Nat) => (i : Int) + 2) h (fun x hx => by
    have h1 := hb x hx
    refine List.mem_map.2 ⟨(x - 2).toNat, List.mem_range.2 (by omega), by omega⟩)
  simpa using this
theorem numF_mono {ns : List DN} : ∀ (k : Nat) (r : Int) (b : List Int) (x : Int), x ∈ b → x ∈ numF ns k r b
  | 0, _, b, x, h => h
  | k + 1, r, b, x, h => by
    rw [numF]
    split
    · exact h
    · exact List.mem_append_left _ (numF_mono k _ _ x (numF_mono k _ _ x h))
theorem numF_bd {m : Nat} {ns : List DN} (hn : NsOk m ns) : ∀ (k : Nat) (r : Int) (b : List Int), r < ns.length + 2 → b.Nodup → (∀ x ∈ b, 2 ≤ x ∧ x < ns.length + 2) →
    (numF ns k r b).Nodup ∧ (∀ x ∈ numF ns k r b, 2 ≤ x ∧ x < ns.length + 2) ∧ (∀ x ∈ numF ns k r b, x ∈ b ∨ x ≤ r)
  | 0, r, b, _, h1, h2 => ⟨h1, h2, fun x hx => .inl hx⟩
  | k + 1, r, b, hr, h1, h2 => by
    rw [numF]
    split
    · exact ⟨h1, h2, fun x hx => .inl hx⟩
    · rename_i hc
      obtain ⟨v0, v1, l0, l1, g0, g1⟩ := hn (r - 2).toNat (by omega)
      obtain ⟨a1, a2, a3⟩ := numF_bd hn k (ns.getD (r - 2).toNat dn0).lo b (by omega) h1 h2
      obtain ⟨b1, b2, b3⟩ := numF_bd hn k (ns.getD (r - 2).toNat dn0).hi _ (by omega) a1 a2
      refine ⟨?_, fun x hx => ?_, fun x hx => ?_⟩
      · rw [List.nodup_append]
        refine ⟨b1, by simp, fun x hx y hy e => ?_⟩
        simp only [List.mem_singleton] at hy
        subst hy
        rcases b3 x hx with h | h
        · rcases a3 x h with h | h
          · exact hc (.inr (e ▸ h))
          · omega
        · omega
      · rcases List.mem_append.1 hx with hx | hx
        · exact b2 x hx
        · simp only [List.mem_singleton] at hx; omega
      · rcases List.mem_append.1 hx with hx | hx
        · rcases b3 x hx with h | h
          · rcases a3 x h with h | h
            · exact .inl h
            · exact .inr (by omega)
          · exact .inr (by omega)
        · simp only [List.mem_singleton] at hx; exact .inr (by omega)
theorem place_ge {l : List Int} {n : Int} : decide (placeZ l n ≥ 0) = decide (n ∈ l) := by
  unfold placeZ
  by_cases h : n ∈ l <;> simp [h]
theorem le_gsi {pre : Heap} {og : Option Nat} {e n : Nat} {zs : List Int} (hog : og = none → n = 0) (hn : ∀ g, og = some g → g ∉ pre.keys) (hl : zs.length = n) : LeC (pre ++ gh og e n (isF zs)) (gs og 1 n) (is false zs) := by
  subst hl
  have := le_gs (pre := pre) (og := og) (e := e) (s := 1) (n := zs.length) (f := isF zs) (f' := isF zs) hog hn (fun j _ => .refl _)
  simpa only [Nat.mul_one] using this
theorem gh_nd {o : AObj} {g3 : Nat} {og : Option Nat} {e n : Nat} {f : Nat → CV} (h : Heap.keys ((g3, o) :: gh og e n f) |>.Nodup) : ∀ g, og = some g → ¬ g = g3 := by
  rintro g rfl rfl
  simp [Heap.keys, gh] at h
end Go.PN
namespace Go.Proofs.YtmkomfdiggcloaaGreat
open Go.AI Go.PN
attribute [local irreducible] aw Fa Fh DrK
set_option maxRecDepth 100000 in
set_option maxHeartbeats 1600000 in
theorem number_fh (d : DG) (hns : NsOk d.order.length d.nodes) (hnl : d.nodes.length ≤ 1000000) : ∀ (k : Nat) (r : Int) (b : List Int) (og : Option Nat) (n : Nat), r.toNat ≤ k → 0 ≤ r → r < d.nodes.length + 2 → b.Nodup → (∀ x ∈ b, 2 ≤ x ∧ x < d.nodes.length + 2) → b.length = n → (og = none → n = 0) →
    Fh Tryz.prog 93 (gh og 3 n (isF b)) [.agg (dgc false d), .c (.int .i64 r), .c (gs og 1 n)]
      (fun res h => ∃ og' n', (numF d.nodes k r b).length = n' ∧ (og' = none → n' = 0) ∧ res = .c (gs og' 1 n') ∧ h = gh og' 3 n' (isF (numF d.nodes k r b))) := by
  intro k
  induction k with
  | zero =>
    intro r b og n hk h0 hr hbn hbr hbl hog
    have hr0 : r = 0 := by omega
    subst hr0
    refine fh_of_body Tryz.func93 rfl rfl (by simp [Tryz.ntmps93]) fun C hC => ?_
    simp only [initS, Nat.reduceAdd]
    repeat first|apply wa1|apply wa2|apply wa3|apply wa4|apply wa5 rfl|apply wa6|apply wa7|(refine wb1 rfl fun R r=>?_;simp only[go_sem];with_reducible refine r _ _ ?_;clear r R)
    refine aw_box rfl rfl rfl (by simp only[go_sem]<;>rfl) (fun _ e => by cases e) rfl fun g3 hn_g3 => ?_
    replace hn_g3 := Heap.ne_of hn_g3
    first | dsimp only [Heap.ne, gh] at hn_g3 | dsimp only [Heap.ne] at hn_g3 | skip
    (try simp only[go_sem, hn_g3])
    repeat first|apply wa1|apply wa2|apply wa3|apply wa4|apply wa5 rfl|apply wa6|apply wa7|(refine wb1 rfl fun R r=>?_;simp only[go_sem, hn_g3];with_reducible refine r _ _ ?_;clear r R)
    refine aw_split 10 (by simp only[go_sem, hn_g3]<;>rfl) (fun hb => ?_) (fun hb => ?_) <;> (try simp only[go_sem, hn_g3])
    · repeat first|apply wa1|apply wa2|apply wa3|apply wa4|apply wa5 rfl|apply wa6|apply wa7|(refine wb1 rfl fun R r=>?_;simp only[go_sem, hn_g3];with_reducible refine r _ _ ?_;clear r R)
      refine aw_condT (by simp only[go_sem, hn_g3]<;>rfl) ?_
      repeat first|apply wa1|apply wa2|apply wa3|apply wa4|apply wa5 rfl|apply wa6|apply wa7|(refine wb1 rfl fun R r=>?_;simp only[go_sem, hn_g3];with_reducible refine r _ _ ?_;clear r R)
      refine aw_keep [(6, .c (gs og 1 n))] (gh og 3 n (isF b)) (by simp only[go_sem, hn_g3]<;>and_intros<;>first|exact True.intro|(with_reducible rfl)|exact c_int (by omega)|rfl) (List.Sublist.cons _ (List.Sublist.refl _)) ?_
      (refine aw_rethq rfl fun R r=>?_;simp only[go_sem, hn_g3];refine r _ rfl ?_;clear r R)
      exact ⟨og, n, hbl, hog, rfl, rfl⟩
    · exact absurd hb (by decide)
  | succ k ih =>
    intro r b og n hk h0 hr hbn hbr hbl hog
    have hnb := nodup_range hbn hbr
    refine fh_of_body Tryz.func93 rfl rfl (by simp [Tryz.ntmps93]) fun C hC => ?_
    simp only [initS, Nat.reduceAdd]
    repeat first|apply wa1|apply wa2|apply wa3|apply wa4|apply wa5 rfl|apply wa6|apply wa7|(refine wb1 rfl fun R r=>?_;simp only[go_sem];with_reducible refine r _ _ ?_;clear r R)
    refine aw_box rfl rfl rfl (by simp only[go_sem]<;>rfl) (fun _ e => by cases e) rfl fun g3 hn_g3 => ?_
    replace hn_g3 := Heap.ne_of hn_g3
    first | dsimp only [Heap.ne, gh] at hn_g3 | dsimp only [Heap.ne] at hn_g3 | skip
    (try simp only[go_sem, hn_g3])
    repeat first|apply wa1|apply wa2|apply wa3|apply wa4|apply wa5 rfl|apply wa6|apply wa7|(refine wb1 rfl fun R r=>?_;simp only[go_sem, hn_g3];with_reducible refine r _ _ ?_;clear r R)
    refine aw_split 10 (by simp only[go_sem, hn_g3]<;>rfl) (fun hb => ?_) (fun hb => ?_) <;> (try simp only[go_sem, hn_g3])
    · have hb' := of_decide_eq_true hb
      repeat first|apply wa1|apply wa2|apply wa3|apply wa4|apply wa5 rfl|apply wa6|apply wa7|(refine wb1 rfl fun R r=>?_;simp only[go_sem, hn_g3];with_reducible refine r _ _ ?_;clear r R)
      refine aw_condT (by simp only[go_sem, hn_g3]<;>rfl) ?_
      repeat first|apply wa1|apply wa2|apply wa3|apply wa4|apply wa5 rfl|apply wa6|apply wa7|(refine wb1 rfl fun R r=>?_;simp only[go_sem, hn_g3];with_reducible refine r _ _ ?_;clear r R)
      refine aw_keep [(6, .c (gs og 1 n))] (gh og 3 n (isF b)) (by simp only[go_sem, hn_g3]<;>and_intros<;>first|exact True.intro|(with_reducible rfl)|exact c_int (by omega)|rfl) (List.Sublist.cons _ (List.Sublist.refl _)) ?_
      (refine aw_rethq rfl fun R r=>?_;simp only[go_sem, hn_g3];refine r _ rfl ?_;clear r R)
      rw [numF, if_pos (.inl hb')]
      exact ⟨og, n, hbl, hog, rfl, rfl⟩
    · have hb' := of_decide_eq_false hb
      refine aw_nd fun hnd => ?_
      replace hnd := gh_nd hnd
      have hp3 : ∀ g, og = some g → g ∉ Heap.keys [(g3, AObj.cells 25 3 (ofL (dgc false d)))] := fun g e => by simp only [Heap.keys, List.map_cons, List.map_nil, List.mem_singleton]; exact hnd g e
      repeat first|apply wa1|apply wa2|apply wa3|apply wa4|apply wa5 rfl|apply wa6|apply wa7|(refine wb1 rfl fun R r=>?_;simp only[go_sem, hn_g3];with_reducible refine r _ _ ?_;clear r R)
      refine aw_callq (place_fa b r (by omega)) rfl rfl rfl (by (try simp only[go_sem, hn_g3]); exact ⟨.c (le_gsi (pre := [(g3, _)]) hog hp3 hbl), .c (.refl _)⟩) ?_
      (try simp only[go_sem, hn_g3])
      repeat first|apply wa1|apply wa2|apply wa3|apply wa4|apply wa5 rfl|apply wa6|apply wa7|(refine wb1 rfl fun R r=>?_;simp only[go_sem, hn_g3];with_reducible refine r _ _ ?_;clear r R)
      refine aw_cond (by simp only[go_sem, hn_g3]<;>rfl) (fun hm => ?_) (fun hm => ?_)
      · rw [place_ge] at hm
        have hm' := of_decide_eq_true hm
        repeat first|apply wa1|apply wa2|apply wa3|apply wa4|apply wa5 rfl|apply wa6|apply wa7|(refine wb1 rfl fun R r=>?_;simp only[go_sem, hn_g3];with_reducible refine r _ _ ?_;clear r R)
        refine aw_keep [(6, .c (gs og 1 n))] (gh og 3 n (isF b)) (by simp only[go_sem, hn_g3]<;>and_intros<;>first|exact True.intro|(with_reducible rfl)|exact c_int (by omega)|rfl) (List.Sublist.cons _ (List.Sublist.refl _)) ?_
        (refine aw_rethq rfl fun R r=>?_;simp only[go_sem, hn_g3];refine r _ rfl ?_;clear r R)
        rw [numF, if_pos (.inr hm')]
        exact ⟨og, n, hbl, hog, rfl, rfl⟩
      · rw [place_ge] at hm
        have hm' := of_decide_eq_false hm
        have hc : ¬ (r < 2 ∨ r ∈ b) := by rintro (h | h); exact hb' h; exact hm' h
        rw [numF, if_neg hc]
        obtain ⟨v0, v1, l0, l1, q0, q1⟩ := hns (r - 2).toNat (by omega)
        obtain ⟨a1, a2, a3⟩ := numF_bd hns k (d.nodes.getD (r - 2).toNat dn0).lo b (by omega) hbn hbr
        obtain ⟨b1, b2, b3⟩ := numF_bd hns k (d.nodes.getD (r - 2).toNat dn0).hi _ (by omega) a1 a2
        have hnc := nodup_range b1 b2
        repeat first|apply wa1|apply wa2|apply wa3|apply wa4|apply wa5 rfl|apply wa6|apply wa7|(refine wb1 rfl fun R r=>?_;simp only[go_sem, hn_g3];with_reducible refine r _ _ ?_;clear r R)
        refine aw_alloc rfl rfl rfl (by simp only[go_sem, hn_g3]<;>rfl) fun g7 hn_g7 => ?_
        replace hn_g7 := Heap.ne_of hn_g7
        first | dsimp only [Heap.ne, gh] at hn_g7 | dsimp only [Heap.ne] at hn_g7 | skip
        (try simp only[go_sem, hn_g3, hn_g7])
        repeat first|apply wa1|apply wa2|apply wa3|apply wa4|apply wa5 rfl|apply wa6|apply wa7|(refine wb1 rfl fun R r=>?_;simp only[go_sem, hn_g3, hn_g7];with_reducible refine r _ _ ?_;clear r R)
        refine aw_store rfl rfl rfl rfl (by simp only[go_sem, hn_g3, hn_g7]<;>rfl) (by simp only[go_sem, hn_g3, hn_g7]<;>rfl) (by simp only[go_sem, hn_g3, hn_g7]<;>rfl) (by simp only[go_sem, hn_g3, hn_g7]<;>rfl) (fun _ e => by cases e) (by rfl) (by rfl) (by first|omega|simp) rfl ?_
        (try simp only[go_sem, hn_g3, hn_g7])
        generalize d.nodes.getD (r - 2).toNat dn0 = x at *
        repeat first|apply wa1|apply wa2|apply wa3|apply wa4|apply wa5 rfl|apply wa6|apply wa7|(refine wb1 rfl fun R r=>?_;simp only[go_sem, hn_g3, hn_g7];with_reducible refine r _ _ ?_;clear r R)
        refine aw_callh (hr := [(g7, AObj.cells 103 3 (ofL (dnc x))), (g3, AObj.cells 25 3 (ofL (dgc false d)))]) (ih x.lo b og n (by omega) l0 (by omega) hbn hbr hbl hog) rfl rfl rfl (List.perm_append_comm (l₁ := [(g7, AObj.cells 103 3 (ofL (dnc x))), (g3, AObj.cells 25 3 (ofL (dgc false d)))])) (by first|exact True.intro|simp only[go_sem, hn_g3, hn_g7]<;>and_intros<;>first|exact True.intro|exact .c (.refl _)|exact .c wl2|exact .agg (lel_refl _)|exact .agg (by simp only[LeL];and_intros<;>first|exact True.intro|exact .refl _|exact wl2)|exact .c .nils) ?_
        rintro _ _ ⟨og2, n2, hn2, hog2, rfl, rfl⟩ hk2
        (try simp only[go_sem, hn_g3, hn_g7])
        refine aw_perm (List.perm_append_comm (l₂ := [(g7, AObj.cells 103 3 (ofL (dnc x))), (g3, AObj.cells 25 3 (ofL (dgc false d)))])) ?_
        repeat first|apply wa1|apply wa2|apply wa3|apply wa4|apply wa5 rfl|apply wa6|apply wa7|(refine wb1 rfl fun R r=>?_;simp only[go_sem, hn_g3, hn_g7];with_reducible refine r _ _ ?_;clear r R)
        refine aw_callh (hr := [(g7, AObj.cells 103 3 (ofL (dnc x))), (g3, AObj.cells 25 3 (ofL (dgc false d)))]) (ih x.hi _ og2 n2 (by omega) q0 (by omega) a1 a2 hn2 hog2) rfl rfl rfl (List.perm_append_comm (l₁ := [(g7, AObj.cells 103 3 (ofL (dnc x))), (g3, AObj.cells 25 3 (ofL (dgc false d)))])) (by first|exact True.intro|simp only[go_sem, hn_g3, hn_g7]<;>and_intros<;>first|exact True.intro|exact .c (.refl _)|exact .c wl2|exact .agg (lel_refl _)|exact .agg (by simp only[LeL];and_intros<;>first|exact True.intro|exact .refl _|exact wl2)|exact .c .nils) ?_
        rintro _ _ ⟨og3, n3, hn3, hog3, rfl, rfl⟩ hk3
        (try simp only[go_sem, hn_g3, hn_g7])
        refine aw_perm (List.perm_append_comm (l₂ := [(g7, AObj.cells 103 3 (ofL (dnc x))), (g3, AObj.cells 25 3 (ofL (dgc false d)))])) ?_
        repeat first|apply wa1|apply wa2|apply wa3|apply wa4|apply wa5 rfl|apply wa6|apply wa7|(refine wb1 rfl fun R r=>?_;simp only[go_sem, hn_g3, hn_g7];with_reducible refine r _ _ ?_;clear r R)
        refine aw_push (pre := [(g7, AObj.cells 103 3 (ofL (dnc x))), (g3, AObj.cells 25 3 (ofL (dgc false d)))]) rfl rfl rfl rfl rfl rfl rfl (by simp only[go_sem, hn_g3, hn_g7]<;>rfl) (by simp only[go_sem, hn_g3, hn_g7]<;>rfl) (by rfl) (by omega) (by omega) (by simp only[go_sem, hn_g3, hn_g7]<;>rfl) (by omega) (by exact hog3) (by simp only[go_sem, hn_g3, hn_g7]<;>rfl) (by rfl) (by rfl) (by first | rfl | simp only [Nat.mul_one, List.nil_append, List.cons_append] <;> rfl) (by unfold maxLen; omega) (by omega) (by exact is_push hn3 _) fun g1 hn_g1 => ?_
        replace hn_g1 := Heap.ne_of hn_g1
        first | dsimp only [Heap.ne, gh] at hn_g1 | dsimp only [Heap.ne] at hn_g1 | skip
        (try simp only[go_sem, hn_g3, hn_g7, hn_g1])
        repeat first|apply wa1|apply wa2|apply wa3|apply wa4|apply wa5 rfl|apply wa6|apply wa7|(refine wb1 rfl fun R r=>?_;simp only[go_sem, hn_g3, hn_g7, hn_g1];with_reducible refine r _ _ ?_;clear r R)
        refine aw_keep [(6, .c (gs (some g1) 1 (n3 + 1)))] (gh (some g1) 3 (n3 + 1) (isF (numF d.nodes k x.hi (numF d.nodes k x.lo b) ++ [r]))) (by simp only[go_sem, hn_g3, hn_g7, hn_g1]<;>and_intros<;>first|exact True.intro|(with_reducible rfl)|exact c_int (by omega)|rfl) (List.Sublist.cons _ (List.Sublist.cons _ (List.Sublist.refl _))) ?_
        (refine aw_rethq rfl fun R r=>?_;simp only[go_sem, hn_g3, hn_g7, hn_g1];refine r _ rfl ?_;clear r R)
        exact ⟨some g1, n3 + 1, by simp [hn3], fun e => (by cases e), rfl, rfl⟩
end Go.Proofs.YtmkomfdiggcloaaGreat

/- faultlineref15.Check. -/
namespace Go.PN
open Go.AI
def nfirst (d : DG) : Nat → Nat → Int
  | _, 0 => 0
  | i, k + 1 => if ncode d i ≠ 0 then ncode d i else nfirst d (i + 1) k
def numsL (n : Nat) : List Int := (List.range n).map fun (i : Nat) => (i : Int) + 2
/-- The number of the first error of a diagram. -/
def dcode (d : DG) : Int :=
  if ocode d.order d.order.length ≠ 0 then ocode d.order d.order.length else if 4096 < d.nodes.length then 4
  else if nfirst d 0 d.nodes.length ≠ 0 then nfirst d 0 d.nodes.length else if d.root < 0 ∨ 1 + (d.nodes.length : Int) < d.root then 10
  else if numF d.nodes d.root.toNat d.root [] = numsL d.nodes.length then 0 else 2
theorem nfirst_step {d : DG} {i n : Nat} (h : i < n) (h0 : ncode d i = 0) : nfirst d i (n - i) = nfirst d (i + 1) (n - (i + 1)) := by
  obtain ⟨k, hk⟩ : ∃ k, n - i = k + 1 := ⟨n - i - 1, by omega⟩
  rw [hk, nfirst, if_neg (by simp [h0]), show n - (i + 1) = k from by omega]
theorem nfirst_at {d : DG} {i n : Nat} (h : i < n) (h0 : ncode d i ≠ 0) : nfirst d i (n - i) = ncode d i := by
  obtain ⟨k, hk⟩ : ∃ k, n - i = k + 1 := ⟨n - i - 1, by omega⟩
  rw [hk, nfirst, if_pos h0]
theorem nok_all {d : DG} (h : ∀ j, j < d.nodes.length → ncode d j = 0) : NsOk d.order.length d.nodes := fun i hi => by
  refine nok_of (d := d) (i := i) fun hr => ?_
  have := h i hi
  unfold ncode at this
  rw [if_pos hr] at this
  cases this
theorem numsL_len (n : Nat) : (numsL n).length = n := by simp [numsL]
theorem numsL_at {n i : Nat} (h : i < n) : (numsL n).getD i 0 = i + 2 := by
  rw [List.getD_eq_getElem?_getD]
  simp [numsL, h]
theorem listZ_ext {xs ys : List Int} (hl : xs.length = ys.length) (h : ∀ j, j < xs.length → xs.getD j 0 = ys.getD j 0) : xs = ys := by
  refine List.ext_getElem hl fun j h1 h2 => ?_
  have := h j h1
  rw [getDZ h1, getDZ h2] at this
  exact this
end Go.PN
namespace Go.AI
section
variable {E : Env} {K : List It} {σ σ' : Sl} {h : Heap}
/-- A slice that has grown is given up. -/
theorem aw_frzg {t s n e : Nat} {og : Option Nat} {f : Nat → CV} {pre : Heap} (ht : σ.get t = .c (gs og s n)) (hog : og = none → n = 0) (hh : h = pre ++ gh og e (n * s) f) (hp : ∀ g, og = some g → g ∉ pre.keys) (hn : ∀ g, ¬ E.C.own0 g) (hσ : σ.set t (.c (.row true s n f)) = σ') (k : aw E K σ' pre) : aw E K σ h := by
  subst hσ hh
  cases og with
  | none =>
    have hn0 := hog rfl
    subst hn0
    refine aw_conv (t := t) (v := .c (.row true s 0 f)) (fun S w u hr => ?_) rfl (by simpa [gh] using k)
    rw [ht] at hr
    obtain ⟨A, hv⟩ := hr
    exact ⟨A, 0, hv, by omega, fun h0 => absurd h0 (by omega)⟩
  | some g =>
    refine aw_frz (ty := e) (m := n * s) (f := f) ht (Heap.get_app (hp g rfl)) (by omega) (hn g) rfl (Heap.del_app (hp g rfl)) ?_
    simpa only [Nat.zero_add] using k
end
end Go.AI
namespace Go.Proofs.YtmkomfdiggcloaaGreat
open Go.AI Go.PN
attribute [local irreducible] aw Fa Fh DrK
set_option maxRecDepth 100000 in
set_option maxHeartbeats 1600000 in
theorem dcheckR_fa (d : DG) (hl : d.order.length ≤ 1099511627776) (hl2 : d.nodes.length ≤ 1099511627776) : Fa Tryz.prog 35 [.agg (dgc false d)] (.c (.int .i64 (dcode d))) := by
  unfold dcode
  refine fa_of_body Tryz.func35 rfl rfl (by simp [Tryz.ntmps35]) fun C hC => ?_
  simp only [initS, Nat.reduceAdd]
  repeat first|apply wa1|apply wa2|apply wa3|apply wa4|apply wa5 rfl|apply wa6|apply wa7|(refine wb1 rfl fun R r=>?_;simp only[go_sem];with_reducible refine r _ _ ?_;clear r R)
  refine aw_box rfl rfl rfl (by simp only[go_sem]<;>rfl) (fun _ e => by cases e) rfl fun g1 hn_g1 => ?_
  replace hn_g1 := Heap.ne_of hn_g1
  first | dsimp only [Heap.ne, gh] at hn_g1 | dsimp only [Heap.ne] at hn_g1 | skip
  (try simp only[go_sem, hn_g1])
  repeat first|apply wa1|apply wa2|apply wa3|apply wa4|apply wa5 rfl|apply wa6|apply wa7|(refine wb1 rfl fun R r=>?_;simp only[go_sem, hn_g1];with_reducible refine r _ _ ?_;clear r R)
  refine aw_callq (ocheckR_fa d.order d.order.length hl) rfl rfl rfl (by first|exact True.intro|simp only[go_sem, hn_g1]<;>and_intros<;>first|exact True.intro|exact .c (.refl _)|exact .c wl2|exact .agg (lel_refl _)|exact .agg (by simp only[LeL];and_intros<;>first|exact True.intro|exact .refl _|exact wl2)|exact .c .nils) ?_
  (try simp only[go_sem, hn_g1])
  repeat first|apply wa1|apply wa2|apply wa3|apply wa4|apply wa5 rfl|apply wa6|apply wa7|(refine wb1 rfl fun R r=>?_;simp only[go_sem, hn_g1];with_reducible refine r _ _ ?_;clear r R)
  refine aw_cond (by simp only[go_sem, hn_g1]<;>rfl) (fun hb => ?_) (fun hb => ?_)
  · have hb' : ocode d.order d.order.length ≠ 0 := by simpa using hb
    repeat first|apply wa1|apply wa2|apply wa3|apply wa4|apply wa5 rfl|apply wa6|apply wa7|(refine wb1 rfl fun R r=>?_;simp only[go_sem, hn_g1];with_reducible refine r _ _ ?_;clear r R)
    (refine aw_retq hC rfl fun R r=>?_;simp only[go_sem, hn_g1];refine r _ rfl ?_;clear r R)
    exact .one (.c (ler_int (by rw [if_pos hb'])))
  · have hb' : ¬ ocode d.order d.order.length ≠ 0 := by simpa using hb
    rw [if_neg hb']
    repeat first|apply wa1|apply wa2|apply wa3|apply wa4|apply wa5 rfl|apply wa6|apply wa7|(refine wb1 rfl fun R r=>?_;simp only[go_sem, hn_g1];with_reducible refine r _ _ ?_;clear r R)
    refine aw_cond (by simp only[go_sem, hn_g1]<;>rfl) (fun hc => ?_) (fun hc => ?_)
    · have hc' := of_decide_eq_true hc
      repeat first|apply wa1|apply wa2|apply wa3|apply wa4|apply wa5 rfl|apply wa6|apply wa7|(refine wb1 rfl fun R r=>?_;simp only[go_sem, hn_g1];with_reducible refine r _ _ ?_;clear r R)
      (refine aw_retq hC rfl fun R r=>?_;simp only[go_sem, hn_g1];refine r _ rfl ?_;clear r R)
      exact .one (.c (ler_int (by rw [if_pos (by omega)])))
    · have hc' := of_decide_eq_false hc
      rw [if_neg (by omega)]
      repeat first|apply wa1|apply wa2|apply wa3|apply wa4|apply wa5 rfl|apply wa6|apply wa7|(refine wb1 rfl fun R r=>?_;simp only[go_sem, hn_g1];with_reducible refine r _ _ ?_;clear r R)
      refine aw_lp (fun x : Nat => [(1, .c (.optr g1 0)), (4, .c (.int .i64 x))]) (fun x => [(g1, .cells 25 3 (ofL (dgc false d)))]) (fun x => x ≤ d.nodes.length ∧ (∀ j, j < x → ncode d j = 0) ∧ nfirst d x (d.nodes.length - x) = nfirst d 0 d.nodes.length) (fun x => d.nodes.length - x) 0 (by simp only[go_sem, hn_g1]<;>and_intros<;>first|exact True.intro|(with_reducible rfl)|exact c_int (by omega)|rfl) (List.Sublist.refl _) ⟨Nat.zero_le _, by omega, rfl⟩ ?_
      rintro i ⟨hi, hz, hf⟩
      repeat first|apply wa1|apply wa2|apply wa3|apply wa4|apply wa5 rfl|apply wa6|apply wa7|(refine wb1 rfl fun R r=>?_;simp only[go_sem, hn_g1];with_reducible refine r _ _ ?_;clear r R)
      refine aw_cond (by simp only[go_sem, hn_g1]<;>rfl) (fun h1 => ?_) (fun h1 => ?_)
      · have h1' : i < d.nodes.length := by have := of_decide_eq_true h1; omega
        repeat first|apply wa1|apply wa2|apply wa3|apply wa4|apply wa5 rfl|apply wa6|apply wa7|(refine wb1 rfl fun R r=>?_;simp only[go_sem, hn_g1];with_reducible refine r _ _ ?_;clear r R)
        refine aw_callq (nodeR_fa d i h1' hl hl2) rfl rfl rfl (by first|exact True.intro|simp only[go_sem, hn_g1]<;>and_intros<;>first|exact True.intro|exact .c (.refl _)|exact .c wl2|exact .agg (lel_refl _)|exact .agg (by simp only[LeL];and_intros<;>first|exact True.intro|exact .refl _|exact wl2)|exact .c .nils) ?_
        (try simp only[go_sem, hn_g1])
        repeat first|apply wa1|apply wa2|apply wa3|apply wa4|apply wa5 rfl|apply wa6|apply wa7|(refine wb1 rfl fun R r=>?_;simp only[go_sem, hn_g1];with_reducible refine r _ _ ?_;clear r R)
        refine aw_cond (by simp only[go_sem, hn_g1]<;>rfl) (fun h2 => ?_) (fun h2 => ?_)
        · have h2' : ncode d i ≠ 0 := by simpa using h2
          repeat first|apply wa1|apply wa2|apply wa3|apply wa4|apply wa5 rfl|apply wa6|apply wa7|(refine wb1 rfl fun R r=>?_;simp only[go_sem, hn_g1];with_reducible refine r _ _ ?_;clear r R)
          (refine aw_retq hC rfl fun R r=>?_;simp only[go_sem, hn_g1];refine r _ rfl ?_;clear r R)
          rw [nfirst_at h1' h2'] at hf
          exact .one (.c (ler_int (by rw [← hf, if_pos h2'])))
        · have h2' : ncode d i = 0 := by simpa using h2
          repeat first|apply wa1|apply wa2|apply wa3|apply wa4|apply wa5 rfl|apply wa6|apply wa7|(refine wb1 rfl fun R r=>?_;simp only[go_sem, hn_g1];with_reducible refine r _ _ ?_;clear r R)
          rw [nfirst_step h1' h2'] at hf
          refine aw_stop ⟨i + 1, by omega, (by simp only[go_sem, hn_g1]<;>and_intros<;>first|exact True.intro|(with_reducible rfl)|exact c_int (by omega)|rfl), (List.Sublist.refl _), by omega, fun j hj => ?_, hf⟩
          rcases Nat.lt_succ_iff_lt_or_eq.1 hj with h | h
          · exact hz j h
          · rw [h]; exact h2'
      · have h1' : i = d.nodes.length := by have := of_decide_eq_false h1; omega
        subst h1'
        have hns := nok_all hz
        rw [Nat.sub_self, nfirst] at hf
        rw [← hf, if_neg (by simp)]
        repeat first|apply wa1|apply wa2|apply wa3|apply wa4|apply wa5 rfl|apply wa6|apply wa7|(refine wb1 rfl fun R r=>?_;simp only[go_sem, hn_g1];with_reducible refine r _ _ ?_;clear r R)
        refine aw_split 37 (by simp only[go_sem, hn_g1]<;>rfl) (fun h3 => ?_) (fun h3 => ?_) <;> (try simp only[go_sem, hn_g1])
        · have h3' := of_decide_eq_true h3
          repeat first|apply wa1|apply wa2|apply wa3|apply wa4|apply wa5 rfl|apply wa6|apply wa7|(refine wb1 rfl fun R r=>?_;simp only[go_sem, hn_g1];with_reducible refine r _ _ ?_;clear r R)
          refine aw_condT (by simp only[go_sem, hn_g1]<;>rfl) ?_
          repeat first|apply wa1|apply wa2|apply wa3|apply wa4|apply wa5 rfl|apply wa6|apply wa7|(refine wb1 rfl fun R r=>?_;simp only[go_sem, hn_g1];with_reducible refine r _ _ ?_;clear r R)
          (refine aw_retq hC rfl fun R r=>?_;simp only[go_sem, hn_g1];refine r _ rfl ?_;clear r R)
          exact .one (.c (ler_int (by rw [if_pos (.inl h3')])))
        · have h3' := of_decide_eq_false h3
          repeat first|apply wa1|apply wa2|apply wa3|apply wa4|apply wa5 rfl|apply wa6|apply wa7|(refine wb1 rfl fun R r=>?_;simp only[go_sem, hn_g1];with_reducible refine r _ _ ?_;clear r R)
          refine aw_cond (by simp only[go_sem, hn_g1]<;>rfl) (fun h4 => ?_) (fun h4 => ?_)
          · have h4' := of_decide_eq_true h4
            repeat first|apply wa1|apply wa2|apply wa3|apply wa4|apply wa5 rfl|apply wa6|apply wa7|(refine wb1 rfl fun R r=>?_;simp only[go_sem, hn_g1];with_reducible refine r _ _ ?_;clear r R)
            (refine aw_retq hC rfl fun R r=>?_;simp only[go_sem, hn_g1];refine r _ rfl ?_;clear r R)
            exact .one (.c (ler_int (by rw [if_pos (.inr h4')])))
          · have h4' := of_decide_eq_false h4
            rw [if_neg (by omega)]
            repeat first|apply wa1|apply wa2|apply wa3|apply wa4|apply wa5 rfl|apply wa6|apply wa7|(refine wb1 rfl fun R r=>?_;simp only[go_sem, hn_g1];with_reducible refine r _ _ ?_;clear r R)
            refine aw_callh (hr := [(g1, AObj.cells 25 3 (ofL (dgc false d)))]) (number_fh d hns (by omega) d.root.toNat d.root [] none 0 (Nat.le_refl _) (by omega) (by omega) (by simp) (by simp) rfl (fun _ => rfl)) rfl rfl rfl (List.Perm.refl _) (by first|exact True.intro|simp only[go_sem, hn_g1]<;>and_intros<;>first|exact True.intro|exact .c (.refl _)|exact .c wl2|exact .agg (lel_refl _)|exact .agg (by simp only[LeL];and_intros<;>first|exact True.intro|exact .refl _|exact wl2)|exact .c .nils) ?_
            obtain ⟨a1, a2, a3⟩ := numF_bd hns d.root.toNat d.root [] (by omega) (by simp) (by simp)
            have hnl := nodup_range a1 a2
            generalize numF d.nodes d.root.toNat d.root [] = nl at *
            rintro _ _ ⟨og, n, hn, hog, rfl, rfl⟩ hk2
            subst hn
            (try simp only[go_sem, hn_g1])
            repeat first|apply wa7|(refine wb1 rfl fun R r=>?_;simp only[go_sem, hn_g1];with_reducible refine r _ _ ?_;clear r R)
            refine aw_perm (List.perm_append_comm (l₂ := [(g1, AObj.cells 25 3 (ofL (dgc false d)))])) ?_
            refine aw_frzg (t := 6) (n := nl.length) (s := 1) (e := 3) (f := isF nl) (pre := [(g1, AObj.cells 25 3 (ofL (dgc false d)))]) (by simp only[go_sem, hn_g1]<;>rfl) hog (by simp only [Nat.mul_one]) (fun g e hm => ?_) hC rfl ?_
            · subst e
              exact hk2 g (by simp [Heap.keys, gh]) hm
            (try simp only[go_sem, hn_g1])
            repeat first|apply wa1|apply wa2|apply wa3|apply wa4|apply wa5 rfl|apply wa6|apply wa7|(refine wb1 rfl fun R r=>?_;simp only[go_sem, hn_g1];with_reducible refine r _ _ ?_;clear r R)
            refine aw_cond (by simp only[go_sem, hn_g1]<;>rfl) (fun h5 => ?_) (fun h5 => ?_)
            · have h5' : ¬ nl.length = d.nodes.length := by have h5 := h5; simp at h5; omega
              repeat first|apply wa1|apply wa2|apply wa3|apply wa4|apply wa5 rfl|apply wa6|apply wa7|(refine wb1 rfl fun R r=>?_;simp only[go_sem, hn_g1];with_reducible refine r _ _ ?_;clear r R)
              (refine aw_retq hC rfl fun R r=>?_;simp only[go_sem, hn_g1];refine r _ rfl ?_;clear r R)
              exact .one (.c (ler_int (by rw [if_neg (fun e => h5' (by rw [e, numsL_len]))])))
            · have h5' : nl.length = d.nodes.length := by have h5 := h5; simp at h5; omega
              repeat first|apply wa1|apply wa2|apply wa3|apply wa4|apply wa5 rfl|apply wa6|apply wa7|(refine wb1 rfl fun R r=>?_;simp only[go_sem, hn_g1];with_reducible refine r _ _ ?_;clear r R)
              refine aw_lp (fun x : Nat => [(6, .c (is true nl)), (7, .c (.int .i64 x))]) (fun x => []) (fun x => x ≤ nl.length ∧ (∀ j, j < x → nl.getD j 0 = j + 2)) (fun x => nl.length - x) 0 (by simp only[go_sem, hn_g1]<;>and_intros<;>first|exact True.intro|(with_reducible rfl)|exact c_int (by omega)|rfl) (List.nil_sublist _) ⟨Nat.zero_le _, by omega⟩ ?_
              rintro i ⟨hi, hs⟩
              repeat first|apply wa1|apply wa2|apply wa3|apply wa4|apply wa5 rfl|apply wa6|apply wa7|(refine wb1 rfl fun R r=>?_;simp only[go_sem, hn_g1];with_reducible refine r _ _ ?_;clear r R)
              refine aw_cond (by simp only[go_sem, hn_g1]<;>rfl) (fun h6 => ?_) (fun h6 => ?_)
              · have h6' : i < nl.length := by have := of_decide_eq_true h6; omega
                repeat first|apply wa1|apply wa2|apply wa3|apply wa4|apply wa5 rfl|apply wa6|apply wa7|(refine wb1 rfl fun R r=>?_;simp only[go_sem, hn_g1];with_reducible refine r _ _ ?_;clear r R)
                refine aw_cond (by simp only[go_sem, hn_g1]<;>rfl) (fun h7 => ?_) (fun h7 => ?_)
                · have h7' : ¬ nl.getD i 0 = 2 + (i : Int) := by simpa using h7
                  repeat first|apply wa1|apply wa2|apply wa3|apply wa4|apply wa5 rfl|apply wa6|apply wa7|(refine wb1 rfl fun R r=>?_;simp only[go_sem, hn_g1];with_reducible refine r _ _ ?_;clear r R)
                  (refine aw_retq hC rfl fun R r=>?_;simp only[go_sem, hn_g1];refine r _ rfl ?_;clear r R)
                  exact .one (.c (ler_int (by rw [if_neg (fun e => h7' (by rw [e, numsL_at (by omega)]; omega))])))
                · have h7' : nl.getD i 0 = 2 + (i : Int) := by simpa using h7
                  repeat first|apply wa1|apply wa2|apply wa3|apply wa4|apply wa5 rfl|apply wa6|apply wa7|(refine wb1 rfl fun R r=>?_;simp only[go_sem, hn_g1];with_reducible refine r _ _ ?_;clear r R)
                  refine aw_stop ⟨i + 1, by omega, (by simp only[go_sem, hn_g1]<;>and_intros<;>first|exact True.intro|(with_reducible rfl)|exact c_int (by omega)|rfl), (List.Sublist.refl _), by omega, fun j hj => ?_⟩
                  rcases Nat.lt_succ_iff_lt_or_eq.1 hj with h | h
                  · exact hs j h
                  · rw [h, h7']; omega
              · have h6' : i = nl.length := by have := of_decide_eq_false h6; omega
                subst h6'
                repeat first|apply wa1|apply wa2|apply wa3|apply wa4|apply wa5 rfl|apply wa6|apply wa7|(refine wb1 rfl fun R r=>?_;simp only[go_sem, hn_g1];with_reducible refine r _ _ ?_;clear r R)
                (refine aw_retq hC rfl fun R r=>?_;simp only[go_sem, hn_g1];refine r _ rfl ?_;clear r R)
                refine .one (.c (ler_int ?_))
                rw [if_pos (listZ_ext (by rw [numsL_len, h5']) fun j hj => by rw [hs j hj, numsL_at (by omega)])]
end Go.Proofs.YtmkomfdiggcloaaGreat

/- faultlineref37: Check, CheckDiagram, CheckGiven, Given. -/
namespace Go.PN
open Go.AI
/-- The number of the first error of probabilities. -/
def pcode (p : List RD) (vars : Int) : Int := if (p.length : Int) ≠ vars then 11 else if p.all RD.prob then 0 else 3
/-- Of a diagram and probabilities. -/
def dpcode (d : DG) (p : List RD) : Int := if dcode d ≠ 0 then dcode d else pcode p d.order.length
/-- Of a condition. -/
noncomputable def gcode (p : List RD) (y n : Int) : Int := if ccode y n ≠ 0 then ccode y n else if (y.toNat ||| n.toNat) / 2 ^ p.length ≠ 0 then 10 else if wtTo y.toNat n.toNat p p.length = 0 then 8 else 0
def condR (y n i : Nat) (r : RD) : RD := if y.testBit i then rd 1 else if n.testBit i then rd0 else r
/-- The probabilities under a condition. -/
def condL (y n : Nat) (ps : List RD) : Nat → List RD
  | 0 => []
  | k + 1 => condL y n ps k ++ [condR y n k (ps.getD k rd0)]
theorem condL_len (y n : Nat) (ps : List RD) : ∀ k, (condL y n ps k).length = k
  | 0 => rfl
  | k + 1 => by simp [condL, condL_len y n ps k]
theorem rd0_wf {L : Nat} : rd0.wf L := ⟨by simp [rd0], by simp [rd0], by simp [rd0], by simp [rd0]⟩
theorem rd1_wf {L : Nat} (h : 1 ≤ L) : (rd 1).wf L := rd_wf (fits_mono fits_one h)
theorem condL_wf {y n : Nat} {ps : List RD} {L : Nat} (hL : 1 ≤ L) (h : ∀ r ∈ ps, r.wf L) : ∀ k, ∀ r ∈ condL y n ps k, r.wf L
  | 0, r, hr => by simp [condL] at hr
  | k + 1, r, hr => by
    rcases List.mem_append.1 hr with hr | hr
    · exact condL_wf hL h k r hr
    · simp only [List.mem_singleton] at hr
      subst hr
      unfold condR
      split
      · exact rd1_wf hL
      · split
        · exact rd0_wf
        · exact getD_wf h k
theorem ccode_nat {y n : Int} (h : ccode y n = 0) : ∃ a b : Nat, y = a ∧ n = b ∧ a < 16777216 ∧ b < 16777216 := by
  unfold ccode at h
  split at h
  · cases h
  · rename_i h1
    simp [maskB] at h1
    exact ⟨y.toNat, n.toNat, by omega, by omega, by omega, by omega⟩
theorem sgn0 {q : Rat} : (signQ q == 0) = decide (q = 0) := by
  rw [Bool.eq_iff_iff]
  simp only [beq_iff_eq, decide_eq_true_eq]
  unfold signQ
  constructor
  · intro h
    grind
  · rintro rfl; simp
end Go.PN
namespace Go.AI
open Go.PN
theorem zero_agg : ∀ (S : Bool → Nat → Prop) (w : World) (u : Value), Rep S w (.agg [.bool false, .nils, .nils]) u → Rep S w (.agg [.bool rd0.neg, ws true rd0.num, ws true rd0.den]) u := by
  rintro S w u ⟨us, rfl, h⟩
  refine ⟨us, rfl, ?_⟩
  match us, h with
  | [a, b, c], ⟨h1, h2, h3, _⟩ => exact ⟨h1, repC_nil h2, repC_nil h3, trivial⟩
theorem le_gsr' {pre : Heap} {og : Option Nat} {e n : Nat} {ps : List RD} (hog : og = none → n = 0) (hn : ∀ g, og = some g → g ∉ pre.keys) (hl : ps.length = n) : LeC (pre ++ gh og e (n * 3) (ratsF ps)) (gs og 3 n) (rats false ps) := le_gsr hog hn hl
end Go.AI
namespace Go.Proofs.YtmkomfdiggcloaaGreat
open Go.AI Go.PN
attribute [local irreducible] aw Fa Fh DrK
set_option maxHeartbeats 800000 in
theorem check37_fa (p : List RD) (vars : Int) (hw : ∀ r ∈ p, r.wf 500000000) (hl : p.length ≤ 1099511627776) : Fa Tryz.prog 25 [.c (rats false p), .c (.int .i64 vars)] (.c (.int .i64 (pcode p vars))) := by
  unfold pcode
  refine fa_of_body Tryz.func25 rfl rfl (by simp [Tryz.ntmps25]) fun C hC => ?_
  simp only [initS, Nat.reduceAdd]
  repeat first|apply wa1|apply wa2|apply wa3|apply wa4|apply wa5 rfl|apply wa6|apply wa7|(refine wb1 rfl fun R r=>?_;simp only[go_sem];with_reducible refine r _ _ ?_;clear r R)
  refine aw_cond (by simp only[go_sem]<;>rfl) (fun hb => ?_) (fun hb => ?_)
  · have hb' : (p.length : Int) ≠ vars := by simpa using hb
    repeat first|apply wa1|apply wa2|apply wa3|apply wa4|apply wa5 rfl|apply wa6|apply wa7|(refine wb1 rfl fun R r=>?_;simp only[go_sem];with_reducible refine r _ _ ?_;clear r R)
    (refine aw_retq hC rfl fun R r=>?_;simp only[go_sem];refine r _ rfl ?_;clear r R)
    exact .one (.c (ler_int (by rw [if_pos hb'])))
  · have hb' : (p.length : Int) = vars := by simpa using hb
    rw [if_neg (by omega)]
    repeat first|apply wa1|apply wa2|apply wa3|apply wa4|apply wa5 rfl|apply wa6|apply wa7|(refine wb1 rfl fun R r=>?_;simp only[go_sem];with_reducible refine r _ _ ?_;clear r R)
    refine aw_lp (fun x : Nat => [(0, .c (rats false p)), (5, .c (.int .i64 x))]) (fun x => []) (fun x => x ≤ p.length ∧ ∀ j, j < x → (p.getD j rd0).prob = true) (fun x => p.length - x) 0 (by simp only[go_sem]<;>and_intros<;>first|exact True.intro|(with_reducible rfl)|exact c_int (by omega)|rfl) (List.Sublist.refl _) ⟨Nat.zero_le _, by omega⟩ ?_
    rintro i ⟨hi, hs⟩
    repeat first|apply wa1|apply wa2|apply wa3|apply wa4|apply wa5 rfl|apply wa6|apply wa7|(refine wb1 rfl fun R r=>?_;simp only[go_sem];with_reducible refine r _ _ ?_;clear r R)
    refine aw_cond (by simp only[go_sem]<;>rfl) (fun h1 => ?_) (fun h1 => ?_)
    · have h1' : i < p.length := by have := of_decide_eq_true h1; omega
      have hmem : p.getD i rd0 ∈ p := by rw [List.getD_eq_getElem?_getD, List.getElem?_eq_getElem h1']; exact List.getElem_mem h1'
      repeat first|apply wa1|apply wa2|apply wa3|apply wa4|apply wa5 rfl|apply wa6|apply wa7|(refine wb1 rfl fun R r=>?_;simp only[go_sem];with_reducible refine r _ _ ?_;clear r R)
      refine aw_callq (sprob_fa (p.getD i rd0) (getD_wf hw i)) rfl rfl rfl (by first|exact True.intro|simp only[go_sem]<;>and_intros<;>first|exact True.intro|exact .c (.refl _)|exact .c wl2|exact .agg (lel_refl _)|exact .agg (by simp only[LeL];and_intros<;>first|exact True.intro|exact .refl _|exact wl2)|exact .c .nils) ?_
      (try simp only[go_sem])
      repeat first|apply wa1|apply wa2|apply wa3|apply wa4|apply wa5 rfl|apply wa6|apply wa7|(refine wb1 rfl fun R r=>?_;simp only[go_sem];with_reducible refine r _ _ ?_;clear r R)
      refine aw_cond (by simp only[go_sem]<;>rfl) (fun h2 => ?_) (fun h2 => ?_)
      · have h2' : (p.getD i rd0).prob = false := by simpa using h2
        repeat first|apply wa1|apply wa2|apply wa3|apply wa4|apply wa5 rfl|apply wa6|apply wa7|(refine wb1 rfl fun R r=>?_;simp only[go_sem];with_reducible refine r _ _ ?_;clear r R)
        (refine aw_retq hC rfl fun R r=>?_;simp only[go_sem];refine r _ rfl ?_;clear r R)
        exact .one (.c (ler_int (by rw [if_neg (fun h => by rw [List.all_eq_true.1 h _ hmem] at h2'; cases h2')])))
      · have h2' : (p.getD i rd0).prob = true := by simpa using h2
        repeat first|apply wa1|apply wa2|apply wa3|apply wa4|apply wa5 rfl|apply wa6|apply wa7|(refine wb1 rfl fun R r=>?_;simp only[go_sem];with_reducible refine r _ _ ?_;clear r R)
        refine aw_stop ⟨i + 1, by omega, (by simp only[go_sem]<;>and_intros<;>first|exact True.intro|(with_reducible rfl)|exact c_int (by omega)|rfl), (List.Sublist.refl _), by omega, fun j hj => ?_⟩
        rcases Nat.lt_succ_iff_lt_or_eq.1 hj with h | h
        · exact hs j h
        · rw [h, h2']
    · have h1' : i = p.length := by have := of_decide_eq_false h1; omega
      subst h1'
      repeat first|apply wa1|apply wa2|apply wa3|apply wa4|apply wa5 rfl|apply wa6|apply wa7|(refine wb1 rfl fun R r=>?_;simp only[go_sem];with_reducible refine r _ _ ?_;clear r R)
      (refine aw_retq hC rfl fun R r=>?_;simp only[go_sem];refine r _ rfl ?_;clear r R)
      refine .one (.c (ler_int ?_))
      rw [if_pos]
      refine List.all_eq_true.2 fun x hx => ?_
      obtain ⟨j, hj, e⟩ := List.mem_iff_getElem.1 hx
      have := hs j hj
      rw [List.getD_eq_getElem?_getD, List.getElem?_eq_getElem hj, Option.getD_some, e] at this
      exact this
set_option maxHeartbeats 800000 in
theorem checkDiagram_fa (d : DG) (p : List RD) (hw : ∀ r ∈ p, r.wf 500000000) (hl : p.length ≤ 1099511627776) (hl1 : d.order.length ≤ 1099511627776) (hl2 : d.nodes.length ≤ 1099511627776) : Fa Tryz.prog 16 [.agg (dgc false d), .c (rats false p)] (.c (.int .i64 (dpcode d p))) := by
  unfold dpcode
  refine fa_of_body Tryz.func16 rfl rfl (by simp [Tryz.ntmps16]) fun C hC => ?_
  simp only [initS, Nat.reduceAdd]
  repeat first|apply wa1|apply wa2|apply wa3|apply wa4|apply wa5 rfl|apply wa6|apply wa7|(refine wb1 rfl fun R r=>?_;simp only[go_sem];with_reducible refine r _ _ ?_;clear r R)
  refine aw_box rfl rfl rfl (by simp only[go_sem]<;>rfl) (fun _ e => by cases e) rfl fun g2 hn_g2 => ?_
  replace hn_g2 := Heap.ne_of hn_g2
  first | dsimp only [Heap.ne, gh] at hn_g2 | dsimp only [Heap.ne] at hn_g2 | skip
  (try simp only[go_sem, hn_g2])
  repeat first|apply wa1|apply wa2|apply wa3|apply wa4|apply wa5 rfl|apply wa6|apply wa7|(refine wb1 rfl fun R r=>?_;simp only[go_sem, hn_g2];with_reducible refine r _ _ ?_;clear r R)
  refine aw_callq (dcheckR_fa d hl1 hl2) rfl rfl rfl (by first|exact True.intro|simp only[go_sem, hn_g2]<;>and_intros<;>first|exact True.intro|exact .c (.refl _)|exact .c wl2|exact .agg (lel_refl _)|exact .agg (by simp only[LeL];and_intros<;>first|exact True.intro|exact .refl _|exact wl2)|exact .c .nils) ?_
  (try simp only[go_sem, hn_g2])
  repeat first|apply wa1|apply wa2|apply wa3|apply wa4|apply wa5 rfl|apply wa6|apply wa7|(refine wb1 rfl fun R r=>?_;simp only[go_sem, hn_g2];with_reducible refine r _ _ ?_;clear r R)
  refine aw_cond (by simp only[go_sem, hn_g2]<;>rfl) (fun hb => ?_) (fun hb => ?_)
  · have hb' : dcode d ≠ 0 := by simpa using hb
    repeat first|apply wa1|apply wa2|apply wa3|apply wa4|apply wa5 rfl|apply wa6|apply wa7|(refine wb1 rfl fun R r=>?_;simp only[go_sem, hn_g2];with_reducible refine r _ _ ?_;clear r R)
    (refine aw_retq hC rfl fun R r=>?_;simp only[go_sem, hn_g2];refine r _ rfl ?_;clear r R)
    exact .one (.c (ler_int (by rw [if_pos hb'])))
  · have hb' : dcode d = 0 := by simpa using hb
    repeat first|apply wa1|apply wa2|apply wa3|apply wa4|apply wa5 rfl|apply wa6|apply wa7|(refine wb1 rfl fun R r=>?_;simp only[go_sem, hn_g2];with_reducible refine r _ _ ?_;clear r R)
    refine aw_callq (check37_fa p d.order.length hw hl) rfl rfl rfl (by first|exact True.intro|simp only[go_sem, hn_g2]<;>and_intros<;>first|exact True.intro|exact .c (.refl _)|exact .c wl2|exact .agg (lel_refl _)|exact .agg (by simp only[LeL];and_intros<;>first|exact True.intro|exact .refl _|exact wl2)|exact .c .nils) ?_
    (try simp only[go_sem, hn_g2])
    repeat first|apply wa1|apply wa2|apply wa3|apply wa4|apply wa5 rfl|apply wa6|apply wa7|(refine wb1 rfl fun R r=>?_;simp only[go_sem, hn_g2];with_reducible refine r _ _ ?_;clear r R)
    (refine aw_retq hC rfl fun R r=>?_;simp only[go_sem, hn_g2];refine r _ rfl ?_;clear r R)
    exact .one (.c (ler_int (by rw [if_neg (by simp [hb'])])))
set_option maxHeartbeats 800000 in
theorem checkGiven_fa (p : List RD) (y n : Int) (L : Nat) (hL : 1 ≤ L) (hL2 : L ≤ 1000) (hp : ∀ r ∈ p, r.wf L) (hl : p.length ≤ 24) : Fa Tryz.prog 17 [.c (rats false p), .agg [.int .i64 y, .int .i64 n]] (.c (.int .i64 (gcode p y n))) := by
  unfold gcode
  refine fa_of_body Tryz.func17 rfl rfl (by simp [Tryz.ntmps17]) fun C hC => ?_
  simp only [initS, Nat.reduceAdd]
  repeat first|apply wa1|apply wa2|apply wa3|apply wa4|apply wa5 rfl|apply wa6|apply wa7|(refine wb1 rfl fun R r=>?_;simp only[go_sem];with_reducible refine r _ _ ?_;clear r R)
  refine aw_box rfl rfl rfl (by simp only[go_sem]<;>rfl) (fun _ e => by cases e) rfl fun g3 hn_g3 => ?_
  replace hn_g3 := Heap.ne_of hn_g3
  first | dsimp only [Heap.ne, gh] at hn_g3 | dsimp only [Heap.ne] at hn_g3 | skip
  (try simp only[go_sem, hn_g3])
  repeat first|apply wa1|apply wa2|apply wa3|apply wa4|apply wa5 rfl|apply wa6|apply wa7|(refine wb1 rfl fun R r=>?_;simp only[go_sem, hn_g3];with_reducible refine r _ _ ?_;clear r R)
  refine aw_callq (ccheckR_fa y n) rfl rfl rfl (by first|exact True.intro|simp only[go_sem, hn_g3]<;>and_intros<;>first|exact True.intro|exact .c (.refl _)|exact .c wl2|exact .agg (lel_refl _)|exact .agg (by simp only[LeL];and_intros<;>first|exact True.intro|exact .refl _|exact wl2)|exact .c .nils) ?_
  (try simp only[go_sem, hn_g3])
  repeat first|apply wa1|apply wa2|apply wa3|apply wa4|apply wa5 rfl|apply wa6|apply wa7|(refine wb1 rfl fun R r=>?_;simp only[go_sem, hn_g3];with_reducible refine r _ _ ?_;clear r R)
  refine aw_cond (by simp only[go_sem, hn_g3]<;>rfl) (fun hb => ?_) (fun hb => ?_)
  · have hb' : ccode y n ≠ 0 := by simpa using hb
    repeat first|apply wa1|apply wa2|apply wa3|apply wa4|apply wa5 rfl|apply wa6|apply wa7|(refine wb1 rfl fun R r=>?_;simp only[go_sem, hn_g3];with_reducible refine r _ _ ?_;clear r R)
    (refine aw_retq hC rfl fun R r=>?_;simp only[go_sem, hn_g3];refine r _ rfl ?_;clear r R)
    exact .one (.c (ler_int (by rw [if_pos hb'])))
  · have hb' : ccode y n = 0 := by simpa using hb
    rw [if_neg (by simp [hb'])]
    obtain ⟨a, b, rfl, rfl, ha, hbb⟩ := ccode_nat hb'
    have b1 := orZ_nat a b (by omega) (by omega)
    have b2 := shrZ_nat (a ||| b) p.length (by omega)
    rw [Int.toNat_natCast, Int.toNat_natCast]
    repeat first|apply wa1|apply wa2|apply wa3|apply wa4|apply wa5 rfl|apply wa6|apply wa7|(refine wb1 rfl fun R r=>?_;simp only[go_sem, hn_g3, b1, b2];with_reducible refine r _ _ ?_;clear r R)
    refine aw_cond (by simp only[go_sem, hn_g3, b1, b2]<;>rfl) (fun hx => ?_) (fun hx => ?_)
    · have hx' : (a ||| b) / 2 ^ p.length ≠ 0 := fun e => by rw [e] at hx; simp at hx
      repeat first|apply wa1|apply wa2|apply wa3|apply wa4|apply wa5 rfl|apply wa6|apply wa7|(refine wb1 rfl fun R r=>?_;simp only[go_sem, hn_g3, b1, b2];with_reducible refine r _ _ ?_;clear r R)
      (refine aw_retq hC rfl fun R r=>?_;simp only[go_sem, hn_g3, b1, b2];refine r _ rfl ?_;clear r R)
      exact .one (.c (ler_int (by rw [if_pos hx'])))
    · have hx' : (a ||| b) / 2 ^ p.length = 0 := by
        have : ((((a ||| b) / 2 ^ p.length : Nat) : Int) == 0) = true := by simpa [bne] using hx
        have := eq_of_beq this; omega
      rw [if_neg (by simp [hx'])]
      have hfw : fits (wtTo a b p p.length) 1000000 := by
        refine fits_mono (fits_wt hL hp _) ?_
        have h1 := Nat.mul_le_mul (show 2 * L + 2 ≤ 2002 from by omega) (show p.length ≤ 24 from hl)
        omega
      repeat first|apply wa1|apply wa2|apply wa3|apply wa4|apply wa5 rfl|apply wa6|apply wa7|(refine wb1 rfl fun R r=>?_;simp only[go_sem, hn_g3, b1, b2];with_reducible refine r _ _ ?_;clear r R)
      refine aw_callq (weightR_fa a b p ?_ ?_ L hL ?_ hp ?_) rfl rfl rfl (by first|exact True.intro|simp only[go_sem, hn_g3, b1, b2]<;>and_intros<;>first|exact True.intro|exact .c (.refl _)|exact .c wl2|exact .agg (lel_refl _)|exact .agg (by simp only[LeL];and_intros<;>first|exact True.intro|exact .refl _|exact wl2)|exact .c .nils) ?_
      · omega
      · omega
      · omega
      · omega
      (try simp only[go_sem, hn_g3, b1, b2])
      repeat first|apply wa1|apply wa2|apply wa3|apply wa4|apply wa5 rfl|apply wa6|apply wa7|(refine wb1 rfl fun R r=>?_;simp only[go_sem, hn_g3, b1, b2];with_reducible refine r _ _ ?_;clear r R)
      refine aw_callq (ssign_fa _ ?_) rfl rfl rfl (by first|exact True.intro|simp only[go_sem, hn_g3, b1, b2]<;>and_intros<;>first|exact True.intro|exact .c (.refl _)|exact .c wl2|exact .agg (lel_refl _)|exact .agg (by simp only[LeL];and_intros<;>first|exact True.intro|exact .refl _|exact wl2)|exact .c .nils) ?_
      · exact rd_wf (fits_mono hfw (by omega))
      (try simp only[go_sem, hn_g3, b1, b2])
      rw [rd_q]
      repeat first|apply wa1|apply wa2|apply wa3|apply wa4|apply wa5 rfl|apply wa6|apply wa7|(refine wb1 rfl fun R r=>?_;simp only[go_sem, hn_g3, b1, b2];with_reducible refine r _ _ ?_;clear r R)
      refine aw_cond (by simp only[go_sem, hn_g3, b1, b2]<;>rfl) (fun hz => ?_) (fun hz => ?_)
      · rw [sgn0] at hz
        have hz' := of_decide_eq_true hz
        repeat first|apply wa1|apply wa2|apply wa3|apply wa4|apply wa5 rfl|apply wa6|apply wa7|(refine wb1 rfl fun R r=>?_;simp only[go_sem, hn_g3, b1, b2];with_reducible refine r _ _ ?_;clear r R)
        (refine aw_retq hC rfl fun R r=>?_;simp only[go_sem, hn_g3, b1, b2];refine r _ rfl ?_;clear r R)
        exact .one (.c (ler_int (by rw [if_pos hz'])))
      · rw [sgn0] at hz
        have hz' := of_decide_eq_false hz
        repeat first|apply wa1|apply wa2|apply wa3|apply wa4|apply wa5 rfl|apply wa6|apply wa7|(refine wb1 rfl fun R r=>?_;simp only[go_sem, hn_g3, b1, b2];with_reducible refine r _ _ ?_;clear r R)
        (refine aw_retq hC rfl fun R r=>?_;simp only[go_sem, hn_g3, b1, b2];refine r _ rfl ?_;clear r R)
        exact .one (.c (ler_int (by rw [if_neg hz'])))
theorem condR_cast {y n i : Nat} {r : RD} : condR y n i r = if y.testBit i then rd ((1 : Int) : Rat) else if n.testBit i then rd0 else r := rfl
set_option maxRecDepth 100000 in
set_option maxHeartbeats 1600000 in
theorem given37_fa (d : DG) (ps : List RD) (y n m : Nat) (hy : y < 16777216) (hn : n < 16777216) (hm : m ≤ 62) (hns : NsOk m d.nodes) (h0 : 0 ≤ d.root) (h1 : d.root < d.nodes.length + 2) (hl : d.nodes.length ≤ 1000000) (L : Nat) (hL : 1 ≤ L) (hL2 : L ≤ 1000) (hp : ∀ r ∈ ps, r.wf L) (hpl : ps.length ≤ 12) (hpo : ps.length = d.order.length) :
    Fa Tryz.prog 21 [.agg (dgc false d), .c (rats false ps), .agg [.int .i64 (y : Int), .int .i64 (n : Int)]] (.agg (rdc (rd (sumQ (condL y n ps ps.length) (tabL d) (2 ^ ps.length))))) := by
  refine fa_of_body Tryz.func21 rfl rfl (by simp [Tryz.ntmps21]) fun C hC => ?_
  simp only [initS, Nat.reduceAdd]
  repeat first|apply wa1|apply wa2|apply wa3|apply wa4|apply wa5 rfl|apply wa6|apply wa7|(refine wb1 rfl fun R r=>?_;simp only[go_sem];with_reducible refine r _ _ ?_;clear r R)
  refine aw_box rfl rfl rfl (by simp only[go_sem]<;>rfl) (fun _ e => by cases e) rfl fun g3 hn_g3 => ?_
  replace hn_g3 := Heap.ne_of hn_g3
  first | dsimp only [Heap.ne, gh] at hn_g3 | dsimp only [Heap.ne] at hn_g3 | skip
  (try simp only[go_sem, hn_g3])
  repeat first|apply wa1|apply wa2|apply wa3|apply wa4|apply wa5 rfl|apply wa6|apply wa7|(refine wb1 rfl fun R r=>?_;simp only[go_sem, hn_g3];with_reducible refine r _ _ ?_;clear r R)
  refine aw_box rfl rfl rfl (by simp only[go_sem, hn_g3]<;>rfl) (fun _ e => by cases e) rfl fun g5 hn_g5 => ?_
  replace hn_g5 := Heap.ne_of hn_g5
  first | dsimp only [Heap.ne, gh] at hn_g5 | dsimp only [Heap.ne] at hn_g5 | skip
  (try simp only[go_sem, hn_g3, hn_g5])
  repeat first|apply wa1|apply wa2|apply wa3|apply wa4|apply wa5 rfl|apply wa6|apply wa7|(refine wb1 rfl fun R r=>?_;simp only[go_sem, hn_g3, hn_g5];with_reducible refine r _ _ ?_;clear r R)
  refine aw_alloc rfl rfl rfl (by simp only[go_sem, hn_g3, hn_g5]<;>rfl) fun g6 hn_g6 => ?_
  replace hn_g6 := Heap.ne_of hn_g6
  first | dsimp only [Heap.ne, gh] at hn_g6 | dsimp only [Heap.ne] at hn_g6 | skip
  (try simp only[go_sem, hn_g3, hn_g5, hn_g6])
  repeat first|apply wa1|apply wa2|apply wa3|apply wa4|apply wa5 rfl|apply wa6|apply wa7|(refine wb1 rfl fun R r=>?_;simp only[go_sem, hn_g3, hn_g5, hn_g6];with_reducible refine r _ _ ?_;clear r R)
  refine aw_lp (fun x : Option Nat × Nat => [(1, .c (rats false ps)), (3, .c (.optr g3 0)), (5, .c (.optr g5 0)), (6, .c (.optr g6 0)), (7, .c (gs x.1 3 x.2)), (8, .c (.int .i64 x.2))]) (fun x => [(g6, .cells 33 3 (ofL [.bool false, .nils, .nils])), (g5, .cells 28 2 (ofL [.int .i64 (y : Int), .int .i64 (n : Int)])), (g3, .cells 25 3 (ofL (dgc false d)))] ++ gh x.1 33 (x.2 * 3) (ratsF (condL y n ps x.2)))
    (fun x => (x.1 = none → x.2 = 0) ∧ (∀ g, x.1 = some g → ¬ g = g6 ∧ ¬ g = g5 ∧ ¬ g = g3) ∧ x.2 ≤ ps.length) (fun x => ps.length - x.2) (none, 0) (by simp only[go_sem, hn_g3, hn_g5, hn_g6]<;>and_intros<;>first|exact True.intro|(with_reducible rfl)|exact c_int (by omega)|rfl) (List.Sublist.refl _) ⟨fun _ => rfl, (fun g e => by cases e), Nat.zero_le _⟩ ?_
  rintro ⟨og, k⟩ ⟨hog, hgn, hk⟩
  dsimp only at hog hgn hk ⊢
  (try simp only[go_sem, hn_g3, hn_g5, hn_g6])
  have hvl := condL_len y n ps k
  repeat first|apply wa1|apply wa2|apply wa3|apply wa4|apply wa5 rfl|apply wa6|apply wa7|(refine wb1 rfl fun R r=>?_;simp only[go_sem, hn_g3, hn_g5, hn_g6];with_reducible refine r _ _ ?_;clear r R)
  refine aw_cond (by simp only[go_sem, hn_g3, hn_g5, hn_g6]<;>rfl) (fun hb => ?_) (fun hb => ?_)
  · have hin : k < ps.length := by have := of_decide_eq_true hb; omega
    have b1 := shrZ_nat y k (by omega)
    have b2 := and_one_nat (y / 2 ^ k) (Nat.lt_of_le_of_lt (Nat.div_le_self _ _) (by omega))
    have b3 := bit_eq y k
    have c1 := shrZ_nat n k (by omega)
    have c2 := and_one_nat (n / 2 ^ k) (Nat.lt_of_le_of_lt (Nat.div_le_self _ _) (by omega))
    have c3 := bit_eq n k
    repeat first|apply wa1|apply wa2|apply wa3|apply wa4|apply wa5 rfl|apply wa6|apply wa7|(refine wb1 rfl fun R r=>?_;simp only[go_sem, hn_g3, hn_g5, hn_g6, b1, b2, b3, c1, c2, c3];with_reducible refine r _ _ ?_;clear r R)
    refine aw_cond (by simp only[go_sem, hn_g3, hn_g5, hn_g6, b1, b2, b3, c1, c2, c3]<;>rfl) (fun h2 => ?_) (fun h2 => ?_)
    · repeat first|apply wa1|apply wa2|apply wa3|apply wa4|apply wa5 rfl|apply wa6|apply wa7|(refine wb1 rfl fun R r=>?_;simp only[go_sem, hn_g3, hn_g5, hn_g6, b1, b2, b3, c1, c2, c3];with_reducible refine r _ _ ?_;clear r R)
      refine aw_callq (sof_fa 1 ?_ ?_) rfl rfl rfl (by first|exact True.intro|simp only[go_sem, hn_g3, hn_g5, hn_g6, b1, b2, b3, c1, c2, c3]<;>and_intros<;>first|exact True.intro|exact .c (.refl _)|exact .c wl2|exact .agg (lel_refl _)|exact .agg (by simp only[LeL];and_intros<;>first|exact True.intro|exact .refl _|exact wl2)|exact .c .nils) ?_
      · omega
      · omega
      (try simp only[go_sem, hn_g3, hn_g5, hn_g6, b1, b2, b3, c1, c2, c3])
      repeat first|apply wa1|apply wa2|apply wa3|apply wa4|apply wa5 rfl|apply wa6|apply wa7|(refine wb1 rfl fun R r=>?_;simp only[go_sem, hn_g3, hn_g5, hn_g6, b1, b2, b3, c1, c2, c3];with_reducible refine r _ _ ?_;clear r R)
      refine aw_push (pre := [(g6, .cells 33 3 (ofL [.bool false, .nils, .nils])), (g5, .cells 28 2 (ofL [.int .i64 (y : Int), .int .i64 (n : Int)])), (g3, .cells 25 3 (ofL (dgc false d)))]) rfl rfl rfl rfl rfl rfl rfl (by simp only[go_sem, hn_g3, hn_g5, hn_g6, b1, b2, b3, c1, c2, c3]<;>rfl) (by simp only[go_sem, hn_g3, hn_g5, hn_g6, b1, b2, b3, c1, c2, c3]<;>rfl) (by rfl) (by omega) (by omega) (by simp only[go_sem, hn_g3, hn_g5, hn_g6, b1, b2, b3, c1, c2, c3]<;>rfl) (by omega) (by exact hog) (by simp only[go_sem, hn_g3, hn_g5, hn_g6, b1, b2, b3, c1, c2, c3]<;>rfl) (by rfl) (by rfl) (by first | rfl | simp only [Nat.mul_one, List.nil_append, List.cons_append] <;> rfl) (by unfold maxLen; omega) (by omega) (by exact rats_push hvl (rd ((1 : Int) : Rat))) fun g1 hn_g1 => ?_
      replace hn_g1 := Heap.ne_of hn_g1
      first | dsimp only [Heap.ne, gh] at hn_g1 | dsimp only [Heap.ne] at hn_g1 | skip
      (try simp only[go_sem, hn_g3, hn_g5, hn_g6, b1, b2, b3, c1, c2, c3, hn_g1])
      repeat first|apply wa1|apply wa2|apply wa3|apply wa4|apply wa5 rfl|apply wa6|apply wa7|(refine wb1 rfl fun R r=>?_;simp only[go_sem, hn_g3, hn_g5, hn_g6, b1, b2, b3, c1, c2, c3, hn_g1];with_reducible refine r _ _ ?_;clear r R)
      refine aw_stop ⟨(some g1, k + 1), by dsimp only; omega, (by simp only[go_sem, hn_g3, hn_g5, hn_g6, b1, b2, b3, c1, c2, c3, hn_g1]<;>and_intros<;>first|exact True.intro|(with_reducible rfl)|exact c_int (by omega)|rfl), (by dsimp only; rw [condL, condR_cast, if_pos h2]; exact (List.Sublist.refl _)), some_ne, (fun g e => by cases e; exact ⟨hn_g1.1.1, hn_g1.2.1.1, hn_g1.2.2.1.1⟩), by dsimp only; omega⟩
    · repeat first|apply wa1|apply wa2|apply wa3|apply wa4|apply wa5 rfl|apply wa6|apply wa7|(refine wb1 rfl fun R r=>?_;simp only[go_sem, hn_g3, hn_g5, hn_g6, b1, b2, b3, c1, c2, c3];with_reducible refine r _ _ ?_;clear r R)
      refine aw_cond (by simp only[go_sem, hn_g3, hn_g5, hn_g6, b1, b2, b3, c1, c2, c3]<;>rfl) (fun h3 => ?_) (fun h3 => ?_)
      · repeat first|apply wa7|(refine wb1 rfl fun R r=>?_;simp only[go_sem, hn_g3, hn_g5, hn_g6, b1, b2, b3, c1, c2, c3];with_reducible refine r _ _ ?_;clear r R)
        apply aw_region
        (refine wb1 rfl fun R r=>?_;simp only[go_sem, hn_g3, hn_g5, hn_g6, b1, b2, b3, c1, c2, c3];with_reducible refine r _ _ ?_;clear r R)
        (refine wb1 rfl fun R r=>?_;simp only[go_sem, hn_g3, hn_g5, hn_g6, b1, b2, b3, c1, c2, c3];with_reducible refine r _ _ ?_;clear r R)
        refine aw_conv (t := 41) (v := .agg (rdc rd0)) (by (try simp only[go_sem, hn_g3, hn_g5, hn_g6, b1, b2, b3, c1, c2, c3]); exact zero_agg) rfl ?_
        (try simp only[go_sem, hn_g3, hn_g5, hn_g6, b1, b2, b3, c1, c2, c3])
        refine aw_push (pre := [(g6, .cells 33 3 (ofL [.bool false, .nils, .nils])), (g5, .cells 28 2 (ofL [.int .i64 (y : Int), .int .i64 (n : Int)])), (g3, .cells 25 3 (ofL (dgc false d)))]) rfl rfl rfl rfl rfl rfl rfl (by simp only[go_sem, hn_g3, hn_g5, hn_g6, b1, b2, b3, c1, c2, c3]<;>rfl) (by simp only[go_sem, hn_g3, hn_g5, hn_g6, b1, b2, b3, c1, c2, c3]<;>rfl) (by rfl) (by omega) (by omega) (by simp only[go_sem, hn_g3, hn_g5, hn_g6, b1, b2, b3, c1, c2, c3]<;>rfl) (by omega) (by exact hog) (by simp only[go_sem, hn_g3, hn_g5, hn_g6, b1, b2, b3, c1, c2, c3]<;>rfl) (by rfl) (by rfl) (by first | rfl | simp only [Nat.mul_one, List.nil_append, List.cons_append] <;> rfl) (by unfold maxLen; omega) (by omega) (by exact rats_push hvl (rd0)) fun g1 hn_g1 => ?_
        replace hn_g1 := Heap.ne_of hn_g1
        first | dsimp only [Heap.ne, gh] at hn_g1 | dsimp only [Heap.ne] at hn_g1 | skip
        (try simp only[go_sem, hn_g3, hn_g5, hn_g6, b1, b2, b3, c1, c2, c3, hn_g1])
        repeat first|apply wa1|apply wa2|apply wa3|apply wa4|apply wa5 rfl|apply wa6|apply wa7|(refine wb1 rfl fun R r=>?_;simp only[go_sem, hn_g3, hn_g5, hn_g6, b1, b2, b3, c1, c2, c3, hn_g1];with_reducible refine r _ _ ?_;clear r R)
        refine aw_stop ⟨(some g1, k + 1), by dsimp only; omega, (by simp only[go_sem, hn_g3, hn_g5, hn_g6, b1, b2, b3, c1, c2, c3, hn_g1]<;>and_intros<;>first|exact True.intro|(with_reducible rfl)|exact c_int (by omega)|rfl), (by dsimp only; rw [condL, condR_cast, if_neg (by simp [h2]), if_pos h3]; exact (List.Sublist.refl _)), some_ne, (fun g e => by cases e; exact ⟨hn_g1.1.1, hn_g1.2.1.1, hn_g1.2.2.1.1⟩), by dsimp only; omega⟩
      · repeat first|apply wa1|apply wa2|apply wa3|apply wa4|apply wa5 rfl|apply wa6|apply wa7|(refine wb1 rfl fun R r=>?_;simp only[go_sem, hn_g3, hn_g5, hn_g6, b1, b2, b3, c1, c2, c3];with_reducible refine r _ _ ?_;clear r R)
        refine aw_push (pre := [(g6, .cells 33 3 (ofL [.bool false, .nils, .nils])), (g5, .cells 28 2 (ofL [.int .i64 (y : Int), .int .i64 (n : Int)])), (g3, .cells 25 3 (ofL (dgc false d)))]) rfl rfl rfl rfl rfl rfl rfl (by simp only[go_sem, hn_g3, hn_g5, hn_g6, b1, b2, b3, c1, c2, c3]<;>rfl) (by simp only[go_sem, hn_g3, hn_g5, hn_g6, b1, b2, b3, c1, c2, c3]<;>rfl) (by rfl) (by omega) (by omega) (by simp only[go_sem, hn_g3, hn_g5, hn_g6, b1, b2, b3, c1, c2, c3]<;>rfl) (by omega) (by exact hog) (by simp only[go_sem, hn_g3, hn_g5, hn_g6, b1, b2, b3, c1, c2, c3]<;>rfl) (by rfl) (by rfl) (by first | rfl | simp only [Nat.mul_one, List.nil_append, List.cons_append] <;> rfl) (by unfold maxLen; omega) (by omega) (by exact rats_push hvl (ps.getD k rd0)) fun g1 hn_g1 => ?_
        replace hn_g1 := Heap.ne_of hn_g1
        first | dsimp only [Heap.ne, gh] at hn_g1 | dsimp only [Heap.ne] at hn_g1 | skip
        (try simp only[go_sem, hn_g3, hn_g5, hn_g6, b1, b2, b3, c1, c2, c3, hn_g1])
        repeat first|apply wa1|apply wa2|apply wa3|apply wa4|apply wa5 rfl|apply wa6|apply wa7|(refine wb1 rfl fun R r=>?_;simp only[go_sem, hn_g3, hn_g5, hn_g6, b1, b2, b3, c1, c2, c3, hn_g1];with_reducible refine r _ _ ?_;clear r R)
        refine aw_stop ⟨(some g1, k + 1), by dsimp only; omega, (by simp only[go_sem, hn_g3, hn_g5, hn_g6, b1, b2, b3, c1, c2, c3, hn_g1]<;>and_intros<;>first|exact True.intro|(with_reducible rfl)|exact c_int (by omega)|rfl), (by dsimp only; rw [condL, condR_cast, if_neg (by simp [h2]), if_neg (by simp [h3])]; exact (List.Sublist.refl _)), some_ne, (fun g e => by cases e; exact ⟨hn_g1.1.1, hn_g1.2.1.1, hn_g1.2.2.1.1⟩), by dsimp only; omega⟩
  · have hin : k = ps.length := by have := of_decide_eq_false hb; omega
    subst hin
    have e : sumQ (condL y n ps ps.length) (tabL d) (2 ^ (condL y n ps ps.length).length) = sumQ (condL y n ps ps.length) (tabL d) (2 ^ ps.length) := by rw [condL_len]
    repeat first|apply wa1|apply wa2|apply wa3|apply wa4|apply wa5 rfl|apply wa6|apply wa7|(refine wb1 rfl fun R r=>?_;simp only[go_sem, hn_g3, hn_g5, hn_g6];with_reducible refine r _ _ ?_;clear r R)
    refine aw_callq (prob37_fa d (condL y n ps ps.length) m hm hns h0 h1 hl L hL hL2 (condL_wf hL hp _) (by omega) (by omega)) rfl rfl rfl (by (try simp only[go_sem, hn_g3, hn_g5, hn_g6]); exact ⟨.agg (lel_refl _), .c (le_gsr (pre := [(g6, .cells 33 3 (ofL [.bool false, .nils, .nils])), (g5, .cells 28 2 (ofL [.int .i64 (y : Int), .int .i64 (n : Int)])), (g3, .cells 25 3 (ofL (dgc false d)))]) hog (fun g e => by simp only [Heap.keys, List.map_cons, List.map_nil, List.mem_cons, List.not_mem_nil, or_false, not_or]; exact hgn g e) hvl)⟩) ?_
    rw [e]
    (try simp only[go_sem, hn_g3, hn_g5, hn_g6])
    repeat first|apply wa1|apply wa2|apply wa3|apply wa4|apply wa5 rfl|apply wa6|apply wa7|(refine wb1 rfl fun R r=>?_;simp only[go_sem, hn_g3, hn_g5, hn_g6];with_reducible refine r _ _ ?_;clear r R)
    refine aw_store rfl rfl rfl rfl (by simp only[go_sem, hn_g3, hn_g5, hn_g6]<;>rfl) (by simp only[go_sem, hn_g3, hn_g5, hn_g6]<;>rfl) (by simp only[go_sem, hn_g3, hn_g5, hn_g6]<;>rfl) (by simp only[go_sem, hn_g3, hn_g5, hn_g6]<;>rfl) (fun _ e => by cases e) (by rfl) (by rfl) (by first|omega|simp) rfl ?_
    (try simp only[go_sem, hn_g3, hn_g5, hn_g6])
    repeat first|apply wa1|apply wa2|apply wa3|apply wa4|apply wa5 rfl|apply wa6|apply wa7|(refine wb1 rfl fun R r=>?_;simp only[go_sem, hn_g3, hn_g5, hn_g6];with_reducible refine r _ _ ?_;clear r R)
    (refine aw_retq hC rfl fun R r=>?_;simp only[go_sem, hn_g3, hn_g5, hn_g6];refine r _ rfl ?_;clear r R)
    exact ler_rd rfl
end Go.Proofs.YtmkomfdiggcloaaGreat
