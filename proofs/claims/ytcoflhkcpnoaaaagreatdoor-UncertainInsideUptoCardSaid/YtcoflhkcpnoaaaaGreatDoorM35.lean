/- Blocks of one proof, laid one behind the other by a program (merge2.py). -/
import Derived.Test.YtcoflhkcpnoaaaaGreatDoorM29
import Derived.Test.YtcoflhkcpnoaaaaGreatDoorM30
set_option linter.unusedSimpArgs false
set_option linter.unusedVariables false
namespace Go.AI
section
variable {E : Env} {K : List It} {l : List Oper} {FP FP' : Heap} {σ σ' : Sl} {h : Heap} {o : Oper} {i m : Nat} {cs : List (Nat × Nat)}
theorem cw_buildSlice {t e size bytes len : Nat} {xs : List Operand} {cells : List CV} (ho : l[i]? = some o) (hop : o.op = .buildSlice t len (enumO 0 xs).toArray) (hw : wantA l σ o = some true) (hd : dstOk E.N o.dst = true) (ht : tElem E.P t = some (e, size, bytes))
    (hz : (tZero E.P e).isSome = true) (hl : xs.length = len) (hsm : len * size ≤ 16777216) (hlm : len ≤ 16777216) (hx : ∀ x ∈ xs, (ev σ x).flat = true ∧ (ev σ x).cells.all CV.solid = true ∧ (ev σ x).cells.length = size) (hc : (xs.map (ev σ)).flatMap AV.cells = cells) (hops : ∀ x ∈ xs, x ∈ o.op.operands) (hFP : Has0 FP' h)
    (k : ∀ g, g ∉ h.keys → CW E l K FP' cs (σ.setO o.dst (.c (.osl g size 0 len))) ((g, .cells e (len * size) (ofL cells)) :: h)) (hm : m = 2 ∨ m = 1 ∧ FP' = FP := by first | exact .inl rfl | exact .inr ⟨rfl, rfl⟩) : CW E l K FP ((i, m) :: cs) σ h := by
  refine .pin ho hm (R := fun r h2 => ∃ g, g ∉ h.keys ∧ r = .c (.osl g size 0 len) ∧ h2 = (g, .cells e (len * size) (ofL cells)) :: h) (fun σ' K hs => ?_) ?_ ?_
  · have he : ∀ x ∈ xs, ev σ' x = ev σ x := fun x hxx => ev_same (hops x hxx) hs
    exact aw_buildSlice hop ((want_same hs).trans hw) hd ht hz hl hsm hlm (fun x hxx => by rw [he x hxx]; exact hx x hxx) (by rw [List.map_congr_left he]; exact hc) fun g hg => aw_ops_nil (aw_stop ⟨_, ⟨g, hg, rfl, rfl⟩, rfl⟩)
  · rintro r h2 ⟨g, _, _, rfl⟩; exact fun p hp => List.mem_cons_of_mem _ (hFP p hp)
  · rintro r h2 ⟨g, hg, rfl, rfl⟩; exact k g hg
theorem cw_push {t e size bytes n d1 s gt : Nat} {z : List CV} {og : Option Nat} {f f' : Nat → CV} {pre : Heap} {v : AV} (ho : l[i]? = some o) (hop2 : o.op = .call { callee := .builtin .append, args := #[.tmp s, .tmp d1], argTypes := #[t, t] })
    (hg2 : o.guard = none) (hd2 : dstOk E.N o.dst = true)
    (ht : tElem E.P t = some (e, size, bytes)) (hz : tZero E.P e = some z) (hzl : z.length = size) (hs0 : 0 < size) (hsz : size ≤ 16777216)
    (hevs : ev σ (.tmp s) = .c (gs og size n)) (hev1 : ev σ (.tmp d1) = .c (.osl gt size 0 1)) (hog : og = none → n = 0) (hok : okPart v = true) (hvl : v.cells.length = size) (hh : h = (gt, .cells e (1 * size) (ofL v.cells)) :: (pre ++ gh og e (n * size) f))
    (h63 : n + 1 ≤ maxLen) (hby : (n + 1) * bytes ≤ 140737488355328) (hf : ∀ j, j < (n + 1) * size → appF f (n * size) (ofL v.cells) j = f' j) (hFP : Has0 FP' ((gt, .cells e (1 * size) (ofL v.cells)) :: pre))
    (k : ∀ g', g' ∉ Heap.keys ((gt, .cells e (1 * size) (ofL v.cells)) :: pre) → CW E l K FP' cs (σ.setO o.dst (.c (gs (some g') size (n + 1)))) ((gt, .cells e (1 * size) (ofL v.cells)) :: (pre ++ gh (some g') e ((n + 1) * size) f')))
    (hm : m = 2 ∨ m = 1 ∧ FP' = FP := by first | exact .inl rfl | exact .inr ⟨rfl, rfl⟩) : CW E l K FP ((i, m) :: cs) σ h := by
  subst hh
  obtain ⟨ok1, ok2⟩ := okPart_spec hok
  refine .pin ho hm (R := fun r h2 => ∃ g', g' ∉ Heap.keys ((gt, .cells e (1 * size) (ofL v.cells)) :: pre) ∧ r = .c (gs (some g') size (n + 1)) ∧ h2 = (gt, .cells e (1 * size) (ofL v.cells)) :: (pre ++ gh (some g') e ((n + 1) * size) f')) (fun σ' K hs => ?_) ?_ ?_
  · have hw2 : ∀ σ2, wantA l σ2 o = some true := fun σ2 => by unfold wantA; rw [hg2]
    have hevs' : ev σ' (.tmp s) = .c (gs og size n) := (ev_same (by rw [hop2]; simp [Op.operands, Call.operands]) hs).trans hevs
    have hev1' : ev σ' (.tmp d1) = .c (.osl gt size 0 1) := (ev_same (by rw [hop2]; simp [Op.operands, Call.operands]) hs).trans hev1
    have hsrc : ∀ h0 : Heap, Src ((gt, .cells e (1 * size) (ofL v.cells)) :: h0) size (.osl gt size 0 1) 1 (ofL v.cells) := fun h0 => by
      refine .osl (f' := ofL v.cells) (m := 1 * size) (ty := e) (by simp [Heap.get]) (by omega) (fun j _ => by rw [Nat.zero_add])
    cases og with
    | none =>
      have hn0 : n = 0 := hog rfl
      subst hn0
      refine aw_appendN (cx := .osl gt size 0 1) (k := 1) (f2 := ofL v.cells) hop2 (hw2 _) hd2 ht hz hzl hs0 hevs' hev1' (hsrc _) (by omega) (by omega) (by omega) fun g' hg' => ?_
      refine aw_conv1 (f' := f') (fun j hj => ?_) ?_
      · have := hf j (by omega)
        rw [← this]; simp [appF]
      · have hnew : g' ∉ Heap.keys ((gt, .cells e (1 * size) (ofL v.cells)) :: pre) := fun hm => hg' (by simpa [gh] using hm)
        refine aw_perm (h' := (gt, .cells e (1 * size) (ofL v.cells)) :: (pre ++ [(g', .cells e (1 * size) f')])) ?_ ?_
        · have : (pre ++ gh none e (0 * size) f) = pre := by simp [gh]
          rw [this]
          refine (List.Perm.swap _ _ _).trans (List.Perm.cons _ ?_)
          exact (List.perm_append_singleton _ _).symm
        · exact aw_ops_nil (aw_stop ⟨_, ⟨g', hnew, rfl, by simp [gh]⟩, rfl⟩)
    | some g =>
      refine aw_nd fun hnd => ?_
      have hnp : g ∉ pre.keys := fun hm => by
        simp only [Heap.keys, gh, List.map_cons, List.map_append, List.map_nil, List.nodup_cons] at hnd
        have := (List.nodup_append.1 hnd.2).2.2 g hm g (by simp)
        exact this rfl
      have hgtg : gt ≠ g := fun e => by
        subst e
        simp [Heap.keys, gh] at hnd
      refine aw_append (cx := .osl gt size 0 1) (k := 1) (f2 := ofL v.cells) (g := g) (m := n * size) (f := f) (h2 := (gt, .cells e (1 * size) (ofL v.cells)) :: pre) hop2 (hw2 _) hd2 ht hz hzl hs0 hevs' ?_ (Nat.le_refl _) hev1' (hsrc _) ?_ (by omega) h63 hby ?_ fun g' hg' => ?_
      · show Heap.get ((gt, _) :: (pre ++ [(g, _)])) g = _
        simp only [Heap.get, if_neg hgtg]
        exact Heap.get_app hnp
      · intro j hj
        have hjl : j < v.cells.length := by omega
        rw [ofL_get v.cells j v.cells[j] (List.getElem?_eq_getElem hjl)]
        exact List.all_eq_true.1 ok2 _ (List.getElem_mem hjl)
      · show Heap.del ((gt, _) :: (pre ++ [(g, _)])) g = _
        rw [Heap.del_ne hgtg, Heap.del_app hnp]
      · refine aw_conv1 (f' := f') hf ?_
        refine aw_perm (h' := (gt, .cells e (1 * size) (ofL v.cells)) :: (pre ++ [(g', .cells e ((n + 1) * size) f')])) ?_ ?_
        · refine (List.Perm.swap _ _ _).trans (List.Perm.cons _ ?_)
          exact (List.perm_append_singleton _ _).symm
        · exact aw_ops_nil (aw_stop ⟨_, ⟨g', hg', rfl, rfl⟩, rfl⟩)
  · rintro r h2 ⟨g', _, _, rfl⟩
    intro p hp
    rcases List.mem_cons.1 (hFP p hp) with e | hm
    · exact e ▸ List.mem_cons_self ..
    · exact List.mem_cons_of_mem _ (List.mem_append_left _ hm)
  · rintro r h2 ⟨g', hg, rfl, rfl⟩; exact k g' hg
end
end Go.AI
namespace Go.Proofs.YtcoflhkcpnoaaaaGreatDoor
open Go.AI Go.PN
attribute [local irreducible] aw Fa Fh DrK
set_option maxHeartbeats 1600000 in
theorem spwidth_fa (s : SD) (hw : s.wf 100000) : Fa Tryz.prog 27 [.agg (spc s)] (.agg (rdc (rd (nhi s - nlo s)))) := by
  obtain ⟨f1, f2⟩ := norm_fits (by omega) hw
  have n1 := norm_fa s hw
  have h1 := rsub_fa (rd (nhi s)) (rd (nlo s)) (wf_mono (rd_wf f2) (by omega)) (wf_mono (rd_wf f1) (by omega))
  rw [rd_q, rd_q] at h1
  refine fa_of_body Tryz.func27 rfl rfl (by simp [Tryz.ntmps27]) fun C hC => ?_
  simp only [initS, Nat.reduceAdd]
  refine xG ?_
  refine xB fun g1 hn_g1=>?_
  refine yA hn_g1 fun g2 hn_g2=>?_
  refine yG (oj hn_g1 hn_g2) ?_
  refine yC (oj hn_g1 hn_g2) (n1) ?_
  refine yG (oj hn_g1 hn_g2) ?_
  refine yW (oj hn_g1 hn_g2) ?_
  refine yS (oj hn_g1 hn_g2) ?_
  refine yG (oj hn_g1 hn_g2) ?_
  refine yC (oj hn_g1 hn_g2) (h1) ?_
  refine yG (oj hn_g1 hn_g2) ?_
  refine yW (oj hn_g1 hn_g2) ?_
  refine yS (oj hn_g1 hn_g2) ?_
  refine yG (oj hn_g1 hn_g2) ?_
  refine yT hC (oj hn_g1 hn_g2) ?_
  exact ler_rd rfl
set_option maxHeartbeats 1600000 in
theorem spinside_fa (a b : SD) (ha : a.wf 100000) (hb : b.wf 100000) : Fa Tryz.prog 26 [.agg (spc a), .agg (spc b)] (.c (.bool (insideS a b))) := by
  obtain ⟨f1, f2⟩ := norm_fits (by omega) ha
  have n1 := norm_fa a ha
  have h1 := spcontains_fa b (rd (nlo a)) hb (rd_wf f1)
  have h2 := spcontains_fa b (rd (nhi a)) hb (rd_wf f2)
  rw [rd_q] at h1 h2
  unfold insideS
  refine fa_of_body Tryz.func26 rfl rfl (by simp [Tryz.ntmps26]) fun C hC => ?_
  simp only [initS, Nat.reduceAdd]
  refine xG ?_
  refine xB fun g2 hn_g2=>?_
  refine yB hn_g2 fun g3 hn_g3=>?_
  refine yG (oj hn_g2 hn_g3) ?_
  refine yC (oj hn_g2 hn_g3) (n1) ?_
  refine yG (oj hn_g2 hn_g3) ?_
  refine yW (oj hn_g2 hn_g3) ?_
  refine yS (oj hn_g2 hn_g3) ?_
  refine yG (oj hn_g2 hn_g3) ?_
  refine yC (oj hn_g2 hn_g3) (h1) ?_
  refine yG (oj hn_g2 hn_g3) ?_
  refine aw_split 11 (zE (oj hn_g2 hn_g3)) (fun hc => ?_) (fun hc => ?_) <;> refine yS (oj hn_g2 hn_g3) ?_
  · refine yG (oj hn_g2 hn_g3) ?_
    refine yC (oj hn_g2 hn_g3) (h2) ?_
    refine yG (oj hn_g2 hn_g3) ?_
    refine yT hC (oj hn_g2 hn_g3) ?_
    exact .one (.c (ler_bool (by rw [hc]; rfl)))
  · refine yG (oj hn_g2 hn_g3) ?_
    refine yT hC (oj hn_g2 hn_g3) ?_
    exact .one (.c (ler_bool (by rw [hc]; rfl)))
end Go.Proofs.YtcoflhkcpnoaaaaGreatDoor
namespace Go.Proofs.YtcoflhkcpnoaaaaGreatDoor
open Go.AI Go.PN
theorem sub_spans {f : FM} {s t : List SD} (ok : UOk f s) (ok' : UOk f t) (hl : t.length = s.length) (h : ∀ i, i < s.length → (s.getD i sd0).lo.q ≤ (t.getD i sd0).lo.q ∧ (t.getD i sd0).hi.q ≤ (s.getD i sd0).hi.q) : vloQ f s ≤ vloQ f t ∧ vhiQ f t ≤ vhiQ f s := by
  have hin : ∀ u, vloQ f s ≤ topQ f t u ∧ topQ f t u ≤ vhiQ f s := fun u => by
    rw [topQ_end ok', hl]
    refine in_box ok fun i hi => ?_
    obtain ⟨a, b⟩ := h i hi
    have e := ok_ends (ok'.getOk (show i < t.length by omega)).1
    unfold endP
    split
    · exact ⟨by grind, b⟩
    · exact ⟨a, by grind⟩
  obtain ⟨_, u, _, e1⟩ := vlo_spec f t
  obtain ⟨_, v, _, e2⟩ := vhi_spec f t
  rw [e1, e2]
  exact ⟨(hin u).1, (hin v).2⟩
theorem pts_pt {f : FM} {s : List SD} (ok : UOk f s) (h : ∀ i, i < s.length → (s.getD i sd0).lo.q = (s.getD i sd0).hi.q) : vhiQ f s = vloQ f s := by
  obtain ⟨_, u, _, e1⟩ := vlo_spec f s
  obtain ⟨_, v, _, e2⟩ := vhi_spec f s
  rw [e1, e2]
  exact topQ_congr ok fun i hi hb => by
    rw [opB_eq, decide_eq_true (h i hi)] at hb
    cases hb
end Go.Proofs.YtcoflhkcpnoaaaaGreatDoor
namespace Go.PN
open Go.AI
theorem in_mono {x : SD} (h : x.lo.q ≤ x.hi.q) {j k : Nat} (hjk : j ≤ k) : inQ x j ≤ inQ x k := by
  unfold inQ
  have h1 : (j : Rat) ≤ (k : Rat) := by exact_mod_cast hjk
  have h2 : (j : Rat) / 255 ≤ (k : Rat) / 255 := by grind
  have := Rat.mul_nonneg (show 0 ≤ (k : Rat) / 255 - (j : Rat) / 255 by grind) (show 0 ≤ x.hi.q - x.lo.q by grind)
  grind
end Go.PN

namespace Go.PN
open Go.AI
def laB (a : List Nat) (i : Nat) : Nat := if 2 * i + 1 < a.length then min (a.getD (2 * i) 0) (a.getD (2 * i + 1) 0) else 0
def lbB (a : List Nat) (i : Nat) : Nat := if 2 * i + 1 < a.length then max (a.getD (2 * i) 0) (a.getD (2 * i + 1) 0) else 255
theorem lab_ok {a : List Nat} (h : ∀ b ∈ a, b ≤ 255) (i : Nat) : laB a i ≤ lbB a i ∧ lbB a i ≤ 255 := by
  have h1 := getD_byte h (2 * i)
  have h2 := getD_byte h (2 * i + 1)
  unfold laB lbB
  split <;> omega
def inS (s : List SD) (a : List Nat) (i : Nat) : SD := ⟨rd (inQ (s.getD i sd0) (laB a i)), rd (inQ (s.getD i sd0) (lbB a i))⟩
def innL (s : List SD) (a : List Nat) (k : Nat) : List SD := (List.range k).map (inS s a)
def ptL (s : List SD) (a : List Nat) (k : Nat) : List SD := (List.range k).map fun i => ptS (inQ (s.getD i sd0) (laB a i))
theorem innL_len (s : List SD) (a : List Nat) (k : Nat) : (innL s a k).length = k := by simp [innL]
theorem ptL_len (s : List SD) (a : List Nat) (k : Nat) : (ptL s a k).length = k := by simp [ptL]
theorem innL_succ (s : List SD) (a : List Nat) (k : Nat) : innL s a (k + 1) = innL s a k ++ [inS s a k] := by simp [innL, List.range_succ]
theorem ptL_succ (s : List SD) (a : List Nat) (k : Nat) : ptL s a (k + 1) = ptL s a k ++ [ptS (inQ (s.getD k sd0) (laB a k))] := by simp [ptL, List.range_succ]
theorem innL_get {s : List SD} {a : List Nat} {k i : Nat} (h : i < k) : (innL s a k).getD i sd0 = inS s a i := by
  unfold innL; rw [List.getD_eq_getElem?_getD, List.getElem?_map, List.getElem?_range h]; rfl
theorem ptL_get {s : List SD} {a : List Nat} {k i : Nat} (h : i < k) : (ptL s a k).getD i sd0 = ptS (inQ (s.getD i sd0) (laB a i)) := by
  unfold ptL; rw [List.getD_eq_getElem?_getD, List.getElem?_map, List.getElem?_range h]; rfl
theorem okS_mk {a b : Rat} (h0 : 0 ≤ a) (h : a ≤ b) (h1 : b ≤ 1) : okS ⟨rd a, rd b⟩ = true := by
  have e1 := signQ_ge a
  have e2 := signQ_le (b - 1)
  rw [decide_eq_true h0] at e1
  rw [decide_eq_true (show b - 1 ≤ 0 by grind)] at e2
  have e1' := of_decide_eq_true e1
  have e2' := of_decide_eq_true e2
  unfold okS
  rw [rd_validS h, rd_q, rd_q, decide_eq_false (show ¬ signQ a < 0 by omega), decide_eq_false (show ¬ signQ (b - 1) > 0 by omega)]
  rfl
theorem sps_push {xs : List SD} {n : Nat} (hn : xs.length = n) (v : SD) : ∀ j, j < (n + 1) * 6 → appF (spsF xs) (n * 6) (ofL (spc v)) j = spsF (xs ++ [v]) j := lf_push (c := spc) hn v (by omega)
end Go.PN
namespace Go.Proofs.YtcoflhkcpnoaaaaGreatDoor
open Go.AI Go.PN
theorem inn_uok {f : FM} {s : List SD} (ok : UOk f s) (h4 : ∀ y ∈ s, y.wf 4) {a : List Nat} (hb : ∀ b ∈ a, b ≤ 255) : UOk f (innL s a s.length) ∧ ucode f (innL s a s.length) = 0 := by
  have hl := ok.len
  have sc : scode (innL s a s.length) f.vars = 0 := by
    unfold scode
    rw [innL_len, if_neg (by omega), if_pos]
    refine List.all_eq_true.2 fun r hr => ?_
    obtain ⟨i, hi, rfl⟩ := List.mem_map.1 hr
    have hi' := List.mem_range.1 hi
    obtain ⟨l1, l2⟩ := lab_ok hb i
    obtain ⟨e1, e2, e3⟩ := ok_ends (ok.getOk hi').1
    have i1 := in_ends e2 (show laB a i ≤ 255 by omega)
    have i2 := in_ends e2 l2
    exact okS_mk (by grind) (in_mono e2 l1) (by grind)
  refine ⟨⟨ok.hn, ok.ha, ok.fc, sc, ok.v6, fun r hr => ?_⟩, by unfold ucode; rw [if_neg (by simp [ok.fc])]; exact sc⟩
  obtain ⟨i, hi, rfl⟩ := List.mem_map.1 hr
  have hi' := List.mem_range.1 hi
  obtain ⟨l1, l2⟩ := lab_ok hb i
  exact ⟨rd_wf (in_fits (by omega) (swf_get h4 hi')), rd_wf (in_fits l2 (swf_get h4 hi'))⟩
theorem pt_uok {f : FM} {s : List SD} (ok : UOk f s) (h4 : ∀ y ∈ s, y.wf 4) {a : List Nat} (hb : ∀ b ∈ a, b ≤ 255) : UOk f (ptL s a s.length) ∧ ucode f (ptL s a s.length) = 0 := by
  have hl := ok.len
  have sc : scode (ptL s a s.length) f.vars = 0 := by
    unfold scode
    rw [ptL_len, if_neg (by omega), if_pos]
    refine List.all_eq_true.2 fun r hr => ?_
    obtain ⟨i, hi, rfl⟩ := List.mem_map.1 hr
    have hi' := List.mem_range.1 hi
    obtain ⟨l1, l2⟩ := lab_ok hb i
    obtain ⟨e1, e2, e3⟩ := ok_ends (ok.getOk hi').1
    have i1 := in_ends e2 (show laB a i ≤ 255 by omega)
    exact okS_mk (by grind) Rat.le_refl (by grind)
  refine ⟨⟨ok.hn, ok.ha, ok.fc, sc, ok.v6, fun r hr => ?_⟩, by unfold ucode; rw [if_neg (by simp [ok.fc])]; exact sc⟩
  obtain ⟨i, hi, rfl⟩ := List.mem_map.1 hr
  have hi' := List.mem_range.1 hi
  obtain ⟨l1, l2⟩ := lab_ok hb i
  exact ⟨rd_wf (in_fits (by omega) (swf_get h4 hi')), rd_wf (in_fits (by omega) (swf_get h4 hi'))⟩
theorem inn_sub {f : FM} {s : List SD} (ok : UOk f s) (h4 : ∀ y ∈ s, y.wf 4) {a : List Nat} (hb : ∀ b ∈ a, b ≤ 255) : vloQ f s ≤ vloQ f (innL s a s.length) ∧ vhiQ f (innL s a s.length) ≤ vhiQ f s :=
  sub_spans ok (inn_uok ok h4 hb).1 (innL_len _ _ _) fun i hi => by
    obtain ⟨l1, l2⟩ := lab_ok hb i
    obtain ⟨e1, e2, e3⟩ := ok_ends (ok.getOk hi).1
    rw [innL_get hi]
    show _ ≤ (rd _).q ∧ (rd _).q ≤ _
    rw [rd_q, rd_q]
    exact ⟨(in_ends e2 (show laB a i ≤ 255 by omega)).1, (in_ends e2 l2).2⟩
theorem pt_sub {f : FM} {s : List SD} (ok : UOk f s) (h4 : ∀ y ∈ s, y.wf 4) {a : List Nat} (hb : ∀ b ∈ a, b ≤ 255) : vloQ f (innL s a s.length) ≤ vloQ f (ptL s a s.length) ∧ vhiQ f (ptL s a s.length) ≤ vhiQ f (innL s a s.length) :=
  sub_spans (inn_uok ok h4 hb).1 (pt_uok ok h4 hb).1 (by rw [ptL_len, innL_len]) fun i hi => by
    rw [innL_len] at hi
    obtain ⟨l1, l2⟩ := lab_ok hb i
    obtain ⟨e1, e2, e3⟩ := ok_ends (ok.getOk hi).1
    rw [innL_get hi, ptL_get hi]
    show (rd _).q ≤ (rd _).q ∧ (rd _).q ≤ (rd _).q
    rw [rd_q, rd_q]
    exact ⟨Rat.le_refl, in_mono e2 l1⟩
theorem pt_pt {f : FM} {s : List SD} (ok : UOk f s) (h4 : ∀ y ∈ s, y.wf 4) {a : List Nat} (hb : ∀ b ∈ a, b ≤ 255) : vhiQ f (ptL s a s.length) = vloQ f (ptL s a s.length) :=
  pts_pt (pt_uok ok h4 hb).1 fun i hi => by
    rw [ptL_len] at hi
    rw [ptL_get hi]
theorem inside_v {a b c d : Rat} (h1 : a ≤ b) (h2 : b ≤ c) (h3 : c ≤ d) : insideS ⟨rd b, rd c⟩ ⟨rd a, rd d⟩ = true := by
  unfold insideS containsS
  rw [rd_nlo h2, rd_nhi h2, rd_nlo (by grind), rd_nhi (by grind), signQ_le, signQ_le, signQ_le, signQ_le, decide_eq_true (by grind), decide_eq_true (by grind), decide_eq_true (by grind), decide_eq_true (by grind)]; rfl
end Go.Proofs.YtcoflhkcpnoaaaaGreatDoor
namespace Go.Proofs.YtcoflhkcpnoaaaaGreatDoor
open Go.AI Go.PN
attribute [local irreducible] aw Fa Fh DrK
set_option maxRecDepth 100000 in
set_option maxHeartbeats 6400000 in
theorem lawInside_fa (f : FM) (s : List SD) (a : List Nat) (hby : ∀ b ∈ a, b ≤ 255) (hal : a.length ≤ 1099511627776) (hw : SWordsOk s) (hlw : SLensOk s) (hl : s.length ≤ 1099511627776) (hn : f.nodes.length ≤ 1099511627776) (ha : ArgsOk f) (ht0 : -9223372036854775808 ≤ f.top) (ht : f.top ≤ 9223372036854775807) :
    Fa Tryz.prog 6 [.agg (fmc false f), .c (sps false s), .c (u8s false a)] (.c (.bool true)) := by
  have haw := awake44_fa
  refine fa_of_body Tryz.func6 rfl rfl (by simp [Tryz.ntmps6]) fun C hC => ?_
  simp only [initS, Nat.reduceAdd]
  refine xG ?_
  refine xB fun g3 hn_g3=>?_
  refine yG hn_g3 ?_
  refine yC hn_g3 (haw) ?_
  refine yG hn_g3 ?_
  refine yC hn_g3 (heavy_fa f s hn ha hl hlw) ?_
  refine yG hn_g3 ?_
  cases hv : heavyB f s
  rotate_left
  · refine yG hn_g3 ?_
    refine yP hn_g3 ?_
    refine yG hn_g3 ?_
    refine yC hn_g3 (haw) ?_
    refine yG hn_g3 ?_
    refine yT hC hn_g3 ?_
    exact .one (.c (.bool _))
  obtain ⟨hw4', hv6⟩ := light hw hv
  have hw4 : ∀ y ∈ s, y.wf 16 := fun y hy => ⟨wf_mono (hw4' y hy).1 (by omega), wf_mono (hw4' y hy).2 (by omega)⟩
  refine yG hn_g3 ?_
  refine yC hn_g3 (ready_fa f s hn ha ht0 ht (fun y hy => ⟨wf_mono (hw4 y hy).1 ?_, wf_mono (hw4 y hy).2 ?_⟩) hl) ?_
  · omega
  · omega
  refine yG hn_g3 ?_
  cases hr : decide (ucode f s = 0)
  · refine yG hn_g3 ?_
    refine yP hn_g3 ?_
    refine yG hn_g3 ?_
    refine yC hn_g3 (haw) ?_
    refine yG hn_g3 ?_
    refine yT hC hn_g3 ?_
    exact .one (.c (.bool _))
  have hr' : ucode f s = 0 := by simpa using hr
  have ok := uok_of hn ha hw4 hv6 hr'
  have hlen := ok.len
  have h6 := ok.v6
  refine yG hn_g3 ?_
  refine yF hn_g3 (fun h60=>?_) fun h60=>?_
  · refine yG hn_g3 ?_
    refine yC hn_g3 (haw) ?_
    refine yG hn_g3 ?_
    refine yT hC hn_g3 ?_
    exact .one (.c (.bool _))
  have h60' : a.length ≤ 60 := by have := of_decide_eq_false h60; omega
  refine yG hn_g3 ?_
  refine aw_lp (fun x : Option Nat × Option Nat × Nat => [(1, .c (sps false s)), (2, .c (u8s false a)), (3, .c (.optr g3 0)), (7, .c (gs x.1 6 x.2.2)), (8, .c (gs x.2.1 6 x.2.2)), (44, .c (sps false s)), (45, .c (.int .i64 s.length)), (46, .c (.int .i64 x.2.2))]) (fun x => (g3, .cells 24 3 (ofL (fmc false f))) :: (gh x.1 32 (x.2.2 * 6) (spsF (innL s a x.2.2)) ++ gh x.2.1 32 (x.2.2 * 6) (spsF (ptL s a x.2.2))))
    (fun x => x.2.2 ≤ s.length ∧ (x.1 = none → x.2.2 = 0) ∧ (x.2.1 = none → x.2.2 = 0)) (fun x => s.length - x.2.2) (none, none, 0) (zB hn_g3) zZ ⟨Nat.zero_le _, fun _ => rfl, fun _ => rfl⟩ ?_
  rintro ⟨og, oq, k⟩ ⟨hk, hog, hoq⟩
  dsimp only at hk hog hoq ⊢
  refine yG hn_g3 ?_
  refine yF hn_g3 (fun h2=>?_) fun h2=>?_
  · have h2' : k < s.length := by have := of_decide_eq_true h2; omega
    have hy := swf_get hw4' h2'
    refine yG hn_g3 ?_
    refine yA hn_g3 fun g10 hn_g10=>?_
    refine yG (oj hn_g3 hn_g10) ?_
    refine yW (oj hn_g3 hn_g10) ?_
    refine yS (oj hn_g3 hn_g10) ?_
    refine aw_conv1 (f' := ofL (spc (s.getD k sd0))) (fun j hj => by match j, hj with | 0, _ => rfl | 1, _ => rfl | 2, _ => rfl | 3, _ => rfl | 4, _ => rfl | 5, _ => rfl) ?_
    refine yH (oj hn_g3 hn_g10) ?_
    apply wa1
    apply wa6
    refine yH (oj hn_g3 hn_g10) ?_
    apply wa1
    refine aw_cut (fun x : Nat × Nat => [(1, .c (sps false s)), (2, .c (u8s false a)), (3, .c (.optr g3 0)), (7, .c (gs og 6 k)), (8, .c (gs oq 6 k)), (10, .c (.optr g10 0)), (11, .c (.int .u8 (x.1 : Nat))), (12, .c (.int .u8 (x.2 : Nat))), (44, .c (sps false s)), (45, .c (.int .i64 s.length)), (46, .c (.int .i64 k))]) (fun _ => (g10, .cells 32 6 (ofL (spc (s.getD k sd0)))) :: (g3, .cells 24 3 (ofL (fmc false f))) :: (gh og 32 (k * 6) (spsF (innL s a k)) ++ gh oq 32 (k * 6) (spsF (ptL s a k)))) (fun x => x.1 = laB a k ∧ x.2 = lbB a k) ?_ ?_
    · refine yG (oj hn_g3 hn_g10) ?_
      refine yF (oj hn_g3 hn_g10) (fun hlt=>?_) fun hlt=>?_
      · have hlt' : 2 * k + 1 < a.length := by have := of_decide_eq_true hlt; omega
        have n1 : (2 * (k : Int)).toNat = 2 * k := by omega
        have n2 : (2 * (k : Int) + 1).toNat = 2 * k + 1 := by omega
        have la : laB a k = min (a.getD (2 * k) 0) (a.getD (2 * k + 1) 0) := by unfold laB; rw [if_pos hlt']
        have lb : lbB a k = max (a.getD (2 * k) 0) (a.getD (2 * k + 1) 0) := by unfold lbB; rw [if_pos hlt']
        rw [la, lb]
        refine yG (oj hn_g3 (oj hn_g10 (oj n1 n2))) ?_
        by_cases hpq : a.getD (2 * k + 1) 0 < a.getD (2 * k) 0
        · have c1 : (((a.getD (2 * k + 1) 0 : Nat) : Int) < ((a.getD (2 * k) 0 : Nat) : Int)) = True := eq_true (by omega)
          have c2 : (((a.getD (2 * k + 1) 0 : Nat) : Int) > ((a.getD (2 * k) 0 : Nat) : Int)) = False := eq_false (by omega)
          refine aw_dr 26 ty_mixed (by kernel_rfl) ?_
          refine yG (oj hn_g3 (oj hn_g10 (oj n1 (oj n2 (oj c1 c2))))) ?_
          exact aw_stop ⟨(a.getD (2 * k + 1) 0, a.getD (2 * k) 0), (zB (oj hn_g3 (oj hn_g10 (oj n1 (oj n2 (oj c1 c2)))))), zZ, by dsimp only; omega, by dsimp only; omega⟩
        · have c1 : (((a.getD (2 * k + 1) 0 : Nat) : Int) < ((a.getD (2 * k) 0 : Nat) : Int)) = False := eq_false (by omega)
          by_cases hqp : a.getD (2 * k) 0 < a.getD (2 * k + 1) 0
          · have c2 : (((a.getD (2 * k + 1) 0 : Nat) : Int) > ((a.getD (2 * k) 0 : Nat) : Int)) = True := eq_true (by omega)
            refine aw_dr 26 ty_mixed (by kernel_rfl) ?_
            refine yG (oj hn_g3 (oj hn_g10 (oj n1 (oj n2 (oj c1 c2))))) ?_
            exact aw_stop ⟨(a.getD (2 * k) 0, a.getD (2 * k + 1) 0), (zB (oj hn_g3 (oj hn_g10 (oj n1 (oj n2 (oj c1 c2)))))), zZ, by dsimp only; omega, by dsimp only; omega⟩
          · have c2 : (((a.getD (2 * k + 1) 0 : Nat) : Int) > ((a.getD (2 * k) 0 : Nat) : Int)) = False := eq_false (by omega)
            refine aw_dr 26 ty_mixed (by kernel_rfl) ?_
            refine yG (oj hn_g3 (oj hn_g10 (oj n1 (oj n2 (oj c1 c2))))) ?_
            exact aw_stop ⟨(a.getD (2 * k) 0, a.getD (2 * k) 0), (zB (oj hn_g3 (oj hn_g10 (oj n1 (oj n2 (oj c1 c2)))))), zZ, by dsimp only; omega, by dsimp only; omega⟩
      · have hge : ¬ 2 * k + 1 < a.length := by have := of_decide_eq_false hlt; omega
        have la : laB a k = 0 := by unfold laB; rw [if_neg hge]
        have lb : lbB a k = 255 := by unfold lbB; rw [if_neg hge]
        rw [la, lb]
        refine yG (oj hn_g3 hn_g10) ?_
        exact aw_stop ⟨(0, 255), (zB (oj hn_g3 hn_g10)), zZ, rfl, rfl⟩
    rintro ⟨la, lb⟩ ⟨hla, hlb⟩
    dsimp only at hla hlb ⊢
    have e1 := innL_succ s a k
    have e2 := ptL_succ s a k
    obtain ⟨lo1, lo2⟩ := lab_ok hby k
    unfold inS at e1
    rw [← hla, ← hlb] at e1
    rw [← hla] at e2
    rw [← hla, ← hlb] at lo1
    rw [← hlb] at lo2
    generalize s.getD k sd0 = y at *
    have i1 := in_fa y la (by omega) hy
    have i2 := in_fa y lb lo2 hy
    have p1 := point03_fa (rd (inQ y la)) (wf_mono (rd_wf (in_fits (by omega) hy)) (by omega))
    rw [rd_q] at p1
    generalize inQ y la = A at *
    generalize inQ y lb = B at *
    refine yG (oj hn_g3 hn_g10) ?_
    refine aw_cw ([(g10, .cells 32 6 (ofL (spc y)))]) [(0,0),(1,0),(2,0),(3,0),(4,0),(5,0),(6,0),(7,0),(8,1),(9,1),(10,0)] ty_mixed (by kernel_rfl) eI ?_
    refine yG (oj hn_g3 hn_g10) ?_
    refine cw_callq rfl i1 rfl rfl rfl (fun _ _ => (zL (oj hn_g3 hn_g10))) ?_
    refine yS (oj hn_g3 hn_g10) ?_
    refine yG (oj hn_g3 hn_g10) ?_
    refine cw_callq rfl i2 rfl rfl rfl (fun _ _ => (zL (oj hn_g3 hn_g10))) ?_
    refine yS (oj hn_g3 hn_g10) ?_
    refine yG (oj hn_g3 hn_g10) ?_
    refine cw_buildSlice (xs := [.tmp 88]) (cells := spc ⟨rd A, rd B⟩) rfl rfl rfl rfl (zE (oj hn_g3 hn_g10)) (by refine yS (oj hn_g3 hn_g10) ?_; rfl) rfl (by omega) (by omega) (by intro x hx; simp only [List.mem_singleton] at hx; subst hx; exact ⟨rfl, rfl, rfl⟩) rfl (by simp [Op.operands]) eI (fun ga hn_ga => ?_) (hm := .inr ⟨rfl, rfl⟩)
    refine yS (oj hn_g3 hn_g10) ?_
    refine cw_perm (h' := (ga, .cells 32 (1 * 6) (ofL (spc ⟨rd A, rd B⟩))) :: (((g10, .cells 32 6 (ofL (spc y))) :: (g3, .cells 24 3 (ofL (fmc false f))) :: gh oq 32 (k * 6) (spsF (ptL s a k))) ++ gh og 32 (k * 6) (spsF (innL s a k)))) (.cons _ (.cons _ (.cons _ List.perm_append_comm))) ?_
    refine cw_push (og := og) (n := k) (s := 81) (d1 := 89) (gt := ga) (v := .agg (spc ⟨rd A, rd B⟩)) rfl rfl rfl rfl (zE (oj hn_g3 hn_g10)) (zE (oj hn_g3 hn_g10)) (by rfl) (by omega) (by omega) (zE (oj hn_g3 hn_g10)) (zE (oj hn_g3 hn_g10)) hog (by rfl) (by rfl) rfl (by unfold maxLen; omega) (by omega) (sps_push (innL_len s a k) ⟨rd A, rd B⟩) eI (fun gb hn_gb => ?_) (hm := .inr ⟨rfl, rfl⟩)
    rw [← e1]
    refine yS (oj hn_g3 hn_g10) ?_
    refine yG (oj hn_g3 hn_g10) ?_
    refine aw_perm (h' := [(g10, .cells 32 6 (ofL (spc y))), (g3, .cells 24 3 (ofL (fmc false f))), (ga, .cells 32 (1 * 6) (ofL (spc ⟨rd A, rd B⟩))), (gb, .cells 32 ((k + 1) * 6) (spsF (innL s a (k + 1))))] ++ gh oq 32 (k * 6) (spsF (ptL s a k))) (.trans (.swap _ _ _) (.cons _ (.trans (.swap _ _ _) (.cons _ (.cons _ List.perm_append_comm))))) ?_
    refine yG (oj hn_g3 hn_g10) ?_
    refine yC (oj hn_g3 hn_g10) (i1) ?_
    refine yG (oj hn_g3 hn_g10) ?_
    refine yC (oj hn_g3 hn_g10) (p1) ?_
    refine yG (oj hn_g3 hn_g10) ?_
    refine aw_push (pre := [(g10, .cells 32 6 (ofL (spc y))), (g3, .cells 24 3 (ofL (fmc false f))), (ga, .cells 32 (1 * 6) (ofL (spc ⟨rd A, rd B⟩))), (gb, .cells 32 ((k + 1) * 6) (spsF (innL s a (k + 1))))]) rfl rfl rfl rfl rfl rfl rfl (zE (oj hn_g3 hn_g10)) (zE (oj hn_g3 hn_g10)) (by rfl) (by omega) (by omega) (zE (oj hn_g3 hn_g10)) (by omega) (by exact hoq) (zE (oj hn_g3 hn_g10)) (by rfl) (by rfl) (by first | rfl | simp only [Nat.mul_one, List.nil_append, List.cons_append] <;> rfl) (by unfold maxLen; omega) (by omega) (by exact sps_push (ptL_len s a k) (ptS A)) fun g hn_g => ?_
    replace hn_g := Heap.ne_of hn_g
    first | dsimp only [Heap.ne, gh] at hn_g | dsimp only [Heap.ne] at hn_g | skip
    refine yS (oj hn_g3 (oj hn_g10 hn_g)) ?_
    refine yG (oj hn_g3 (oj hn_g10 hn_g)) ?_
    rw [← e2]
    exact aw_stop ⟨(some gb, some g, k + 1), by dsimp only; omega, (zB (oj hn_g3 (oj hn_g10 hn_g))), .cons _ (.cons_cons _ (.cons _ (.refl _))), by dsimp only; omega, some_ne, some_ne⟩
  have h2' : k = s.length := by have := of_decide_eq_false h2; omega
  subst h2'
  refine aw_perm (h' := gh og 32 (s.length * 6) (spsF (innL s a s.length)) ++ (gh oq 32 (s.length * 6) (spsF (ptL s a s.length)) ++ [(g3, .cells 24 3 (ofL (fmc false f)))])) (by rw [← List.append_assoc]; exact List.perm_append_comm (l₁ := [_])) ?_
  refine aw_frzGT (t := 7) (f' := spsF (innL s a s.length)) hog (innL_len s a s.length).symm (zE hn_g3) (fun g _ => hC g) (fun _ _ => rfl) rfl ?_
  refine aw_frzGT (t := 8) (f' := spsF (ptL s a s.length)) hoq (ptL_len s a s.length).symm (zE hn_g3) (fun g _ => hC g) (fun _ _ => rfl) rfl ?_
  refine yS hn_g3 ?_
  obtain ⟨ok2, ur2⟩ := inn_uok ok hw4' hby
  obtain ⟨ok3, ur3⟩ := pt_uok ok hw4' hby
  obtain ⟨q1, q2⟩ := inn_sub ok hw4' hby
  obtain ⟨q3, q4⟩ := pt_sub ok hw4' hby
  have q5 := pt_pt ok hw4' hby
  have hl2 := innL_len s a s.length
  have hl3 := ptL_len s a s.length
  generalize innL s a s.length = s2 at *
  generalize ptL s a s.length = s3 at *
  have u1 := uvert_fa f s hn ha ht0 ht hw4 hl hv6
  have u2 := uvert_fa f s2 hn ha ht0 ht ok2.w (by omega) hv6
  have u3 := uvert_fa f s3 hn ha ht0 ht ok3.w (by omega) hv6
  rw [uvS_ok hr', hr', show errA 0 = CV.nilI from rfl] at u1
  rw [uvS_ok ur2, ur2, show errA 0 = CV.nilI from rfl] at u2
  rw [uvS_ok ur3, ur3, show errA 0 = CV.nilI from rfl, q5] at u3
  have uo1 := umono_fa f s hn ha ht0 ht hw4 hl hv6
  have uo2 := umono_fa f s2 hn ha ht0 ht ok2.w (by omega) hv6
  have f1 := vlo_fits ok
  have f2 := vhi_fits ok
  have f3 := vlo_fits ok2
  have f4 := vhi_fits ok2
  have f5 := vlo_fits ok3
  have l1 := vlo_le f s
  have l2 := vlo_le f s2
  have ce1 := coh_ends ok
  have ce2 := coh_ends ok2
  obtain ⟨y1, y2⟩ := umonS_wf (f := f) (s := s) (fun _ => ok)
  obtain ⟨y3, y4⟩ := umonS_wf (f := f) (s := s2) (fun _ => ok2)
  rw [q5] at q4
  generalize vloQ f s = A at *
  generalize vhiQ f s = B at *
  generalize vloQ f s2 = C at *
  generalize vhiQ f s2 = D at *
  generalize vloQ f s3 = X at *
  have ins1 := spinside_fa ⟨rd C, rd D⟩ ⟨rd A, rd B⟩ ⟨wf_mono (rd_wf f3) (by omega), wf_mono (rd_wf f4) (by omega)⟩ ⟨wf_mono (rd_wf f1) (by omega), wf_mono (rd_wf f2) (by omega)⟩
  rw [inside_v q1 l2 q2] at ins1
  have ins2 := spinside_fa (ptS X) ⟨rd C, rd D⟩ ⟨wf_mono (rd_wf f5) (by omega), wf_mono (rd_wf f5) (by omega)⟩ ⟨wf_mono (rd_wf f3) (by omega), wf_mono (rd_wf f4) (by omega)⟩
  rw [inside_v q3 Rat.le_refl q4] at ins2
  have wd := spwidth_fa (ptS X) ⟨wf_mono (rd_wf f5) (by omega), wf_mono (rd_wf f5) (by omega)⟩
  rw [rd_nlo Rat.le_refl, rd_nhi Rat.le_refl, show X - X = 0 from by grind] at wd
  have sg := rsign_fa (rd 0) (rd_wf (fits_mono fits_zero (by omega)))
  rw [rd_q, show signQ (0 : Rat) = 0 from rfl] at sg
  refine yG hn_g3 ?_
  refine yC hn_g3 (u1) ?_
  refine yG hn_g3 ?_
  refine yA hn_g3 fun g13 hn_g13=>?_
  refine yG (oj hn_g3 hn_g13) ?_
  refine yW (oj hn_g3 hn_g13) ?_
  refine yS (oj hn_g3 hn_g13) ?_
  refine aw_conv1 (f' := ofL (spc ⟨rd A, rd B⟩)) (fun j hj => by match j, hj with | 0, _ => rfl | 1, _ => rfl | 2, _ => rfl | 3, _ => rfl | 4, _ => rfl | 5, _ => rfl) ?_
  refine yG (oj hn_g3 hn_g13) ?_
  refine yC (oj hn_g3 hn_g13) (u2) ?_
  refine yG (oj hn_g3 hn_g13) ?_
  refine yA (oj hn_g3 hn_g13) fun g15 hn_g15=>?_
  refine yG (oj hn_g3 (oj hn_g13 hn_g15)) ?_
  refine yW (oj hn_g3 (oj hn_g13 hn_g15)) ?_
  refine yS (oj hn_g3 (oj hn_g13 hn_g15)) ?_
  refine aw_conv1 (f' := ofL (spc ⟨rd C, rd D⟩)) (fun j hj => by match j, hj with | 0, _ => rfl | 1, _ => rfl | 2, _ => rfl | 3, _ => rfl | 4, _ => rfl | 5, _ => rfl) ?_
  refine yG (oj hn_g3 (oj hn_g13 hn_g15)) ?_
  refine yC (oj hn_g3 (oj hn_g13 hn_g15)) (u3) ?_
  refine yG (oj hn_g3 (oj hn_g13 hn_g15)) ?_
  refine yA (oj hn_g3 (oj hn_g13 hn_g15)) fun g17 hn_g17=>?_
  refine yG (oj hn_g3 (oj hn_g13 (oj hn_g15 hn_g17))) ?_
  refine yW (oj hn_g3 (oj hn_g13 (oj hn_g15 hn_g17))) ?_
  refine yS (oj hn_g3 (oj hn_g13 (oj hn_g15 hn_g17))) ?_
  refine aw_conv1 (f' := ofL (spc (ptS X))) (fun j hj => by match j, hj with | 0, _ => rfl | 1, _ => rfl | 2, _ => rfl | 3, _ => rfl | 4, _ => rfl | 5, _ => rfl) ?_
  refine yG (oj hn_g3 (oj hn_g13 (oj hn_g15 hn_g17))) ?_
  refine yC (oj hn_g3 (oj hn_g13 (oj hn_g15 hn_g17))) (ins1) ?_
  refine yG (oj hn_g3 (oj hn_g13 (oj hn_g15 hn_g17))) ?_
  refine yC (oj hn_g3 (oj hn_g13 (oj hn_g15 hn_g17))) (ins2) ?_
  refine yG (oj hn_g3 (oj hn_g13 (oj hn_g15 hn_g17))) ?_
  refine yC (oj hn_g3 (oj hn_g13 (oj hn_g15 hn_g17))) (wd) ?_
  refine yG (oj hn_g3 (oj hn_g13 (oj hn_g15 hn_g17))) ?_
  refine yC (oj hn_g3 (oj hn_g13 (oj hn_g15 hn_g17))) (sg) ?_
  refine yG (oj hn_g3 (oj hn_g13 (oj hn_g15 hn_g17))) ?_
  refine yN (oj hn_g3 (oj hn_g13 (oj hn_g15 hn_g17))) ?_
  refine yG (oj hn_g3 (oj hn_g13 (oj hn_g15 hn_g17))) ?_
  refine yC (oj hn_g3 (oj hn_g13 (oj hn_g15 hn_g17))) (csyntax_fa f hn ha ok.fc) ?_
  refine yG (oj hn_g3 (oj hn_g13 (oj hn_g15 hn_g17))) ?_
  refine yC (oj hn_g3 (oj hn_g13 (oj hn_g15 hn_g17))) (uo1) ?_
  refine yG (oj hn_g3 (oj hn_g13 (oj hn_g15 hn_g17))) ?_
  refine yA (oj hn_g3 (oj hn_g13 (oj hn_g15 hn_g17))) fun g21 hn_g21=>?_
  refine yG (oj hn_g3 (oj hn_g13 (oj hn_g15 (oj hn_g17 hn_g21)))) ?_
  refine yW (oj hn_g3 (oj hn_g13 (oj hn_g15 (oj hn_g17 hn_g21)))) ?_
  refine yS (oj hn_g3 (oj hn_g13 (oj hn_g15 (oj hn_g17 hn_g21)))) ?_
  refine aw_conv1 (f' := ofL (spc (umonS f s))) (fun j hj => by match j, hj with | 0, _ => rfl | 1, _ => rfl | 2, _ => rfl | 3, _ => rfl | 4, _ => rfl | 5, _ => rfl) ?_
  refine yG (oj hn_g3 (oj hn_g13 (oj hn_g15 (oj hn_g17 hn_g21)))) ?_
  refine yC (oj hn_g3 (oj hn_g13 (oj hn_g15 (oj hn_g17 hn_g21)))) (uo2) ?_
  refine yG (oj hn_g3 (oj hn_g13 (oj hn_g15 (oj hn_g17 hn_g21)))) ?_
  refine yA (oj hn_g3 (oj hn_g13 (oj hn_g15 (oj hn_g17 hn_g21)))) fun g23 hn_g23=>?_
  refine yG (oj hn_g3 (oj hn_g13 (oj hn_g15 (oj hn_g17 (oj hn_g21 hn_g23))))) ?_
  refine yW (oj hn_g3 (oj hn_g13 (oj hn_g15 (oj hn_g17 (oj hn_g21 hn_g23))))) ?_
  refine yS (oj hn_g3 (oj hn_g13 (oj hn_g15 (oj hn_g17 (oj hn_g21 hn_g23))))) ?_
  refine aw_conv1 (f' := ofL (spc (umonS f s2))) (fun j hj => by match j, hj with | 0, _ => rfl | 1, _ => rfl | 2, _ => rfl | 3, _ => rfl | 4, _ => rfl | 5, _ => rfl) ?_
  cases hco : cohTo f f.nodes.length
  · refine yG (oj hn_g3 (oj hn_g13 (oj hn_g15 (oj hn_g17 (oj hn_g21 hn_g23))))) ?_
    refine yT hC (oj hn_g3 (oj hn_g13 (oj hn_g15 (oj hn_g17 (oj hn_g21 hn_g23))))) ?_
    exact .one (.c (.bool _))
  obtain ⟨c1, c2⟩ := ce1 hco
  obtain ⟨c3, c4⟩ := ce2 hco
  rw [c1, c2, c3, c4, show errA 0 = CV.nilI from rfl]
  refine yG (oj hn_g3 (oj hn_g13 (oj hn_g15 (oj hn_g17 (oj hn_g21 hn_g23))))) ?_
  refine yC (oj hn_g3 (oj hn_g13 (oj hn_g15 (oj hn_g17 (oj hn_g21 hn_g23))))) (ins1) ?_
  refine yG (oj hn_g3 (oj hn_g13 (oj hn_g15 (oj hn_g17 (oj hn_g21 hn_g23))))) ?_
  refine yT hC (oj hn_g3 (oj hn_g13 (oj hn_g15 (oj hn_g17 (oj hn_g21 hn_g23))))) ?_
  exact .one (.c (ler_bool rfl))
end Go.Proofs.YtcoflhkcpnoaaaaGreatDoor
