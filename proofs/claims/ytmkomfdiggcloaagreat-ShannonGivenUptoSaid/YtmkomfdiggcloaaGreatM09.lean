/- Texts of one proof, laid one behind the other by a program (merge.py): AiPush, Ref1, Ref2. -/
import Derived.Test.YtmkomfdiggcloaaGreatM07
import Derived.Test.YtmkomfdiggcloaaGreatM08
set_option linter.unusedSimpArgs false
set_option linter.unusedVariables false
/- Slices that grow: nil or of the call's own. -/
namespace Go.AI

/-- A slice that grows: nil, or block g. -/
def gs (og : Option Nat) (s n : Nat) : CV := match og with
  | none => .nils
  | some g => .osl g s 0 n
def gh (og : Option Nat) (ty : TypeId) (m : Nat) (f : Nat → CV) : Heap := match og with
  | none => []
  | some g => [(g, .cells ty m f)]
@[go_sem] theorem lenCV_gs_some (g s n : Nat) : lenCV (gs (some g) s n) = some n := rfl
theorem lenCV_gs {og : Option Nat} {s n : Nat} (h : og = none → n = 0) : lenCV (gs og s n) = some n := by
  cases og with
  | none => rw [h rfl]; rfl
  | some g => rfl

section
variable {E : Env} {K : List It} {σ σ' : Sl} {h : Heap} {all rest : List Oper} {o o1 o2 : Oper}

theorem ORep.cong {S : Bool → Nat → Prop} {w : World} {g n : Nat} {ty : TypeId} {f f' : Nat → CV} (hf : ∀ j, j < n → f j = f' j) (hr : ORep S w g (.cells ty n f)) : ORep S w g (.cells ty n f') := by
  obtain ⟨cs, hb, hn, hj⟩ := hr
  exact ⟨cs, hb, hn, fun j hjl => by rw [← hf j hjl]; exact hj j hjl⟩
/-- The first block, told otherwise. -/
theorem aw_conv1 {g n : Nat} {ty : TypeId} {f f' : Nat → CV} {h : Heap} (hf : ∀ j, j < n → f j = f' j) (k : aw E K σ ((g, .cells ty n f') :: h)) : aw E K σ ((g, .cells ty n f) :: h) := fun a w s => by
  refine k a w ⟨s.size, s.defers, s.slots, fun g' o' hm => ?_, s.nodup, s.keys, s.frame⟩
  rcases List.mem_cons.1 hm with e | hm
  · injection e with e1 e2
    subst e1 e2
    exact ORep.cong hf (s.heap _ _ (List.mem_cons_self ..))
  · exact s.heap g' o' (List.mem_cons_of_mem _ hm)

theorem Heap.del_ne : ∀ {h : Heap} {g : Nat} {o : AObj} {g0 : Nat}, g0 ≠ g → Heap.del ((g0, o) :: h) g = (g0, o) :: h.del g := by
  intro h g o g0 hne
  simp [Heap.del, hne]
theorem Heap.del_app : ∀ {pre : Heap} {g : Nat} {o : AObj}, g ∉ pre.keys → Heap.del (pre ++ [(g, o)]) g = pre
  | [], g, o, _ => by simp [Heap.del]
  | (g0, o0) :: pre, g, o, hn => by
    simp only [Heap.keys, List.map_cons, List.mem_cons, not_or] at hn
    rw [List.cons_append, Heap.del_ne (fun e => hn.1 e.symm), Heap.del_app hn.2]
theorem Heap.get_app : ∀ {pre : Heap} {g : Nat} {o : AObj}, g ∉ pre.keys → Heap.get (pre ++ [(g, o)]) g = some o
  | [], g, o, _ => by simp [Heap.get]
  | (g0, o0) :: pre, g, o, hn => by
    simp only [Heap.keys, List.map_cons, List.mem_cons, not_or] at hn
    rw [List.cons_append]
    simp only [Heap.get, fun e : g0 = g => hn.1 e.symm, if_false]
    rw [if_neg (fun e : g0 = g => hn.1 e.symm)]
    exact Heap.get_app hn.2

theorem aw_nd (k : h.keys.Nodup → aw E K σ h) : aw E K σ h := fun a w s => k s.nodup a w s

/-- out = append(out, x): one element more. -/
theorem aw_push {t e size bytes n d1 s : Nat} {z : List CV} {og : Option Nat} {f f' : Nat → CV} {pre : Heap} {x : Operand} {v : AV} (hop1 : o1.op = .buildSlice t 1 #[(0, x)]) (hop2 : o2.op = .call { callee := .builtin .append, args := #[.tmp s, .tmp d1], argTypes := #[t, t] })
    (hw1 : wantA all σ o1 = some true) (hg2 : o2.guard = none) (hd1 : o1.dst = some d1) (hdk : dstOk E.N o1.dst = true) (hd2 : dstOk E.N o2.dst = true)
    (ht : tElem E.P t = some (e, size, bytes)) (hz : tZero E.P e = some z) (hzl : z.length = size) (hs0 : 0 < size) (hsz : size ≤ 16777216)
    (hs : σ.get s = .c (gs og size n)) (hsd : s ≠ d1) (hog : og = none → n = 0) (hx : ev σ x = v) (hok : okPart v = true) (hvl : v.cells.length = size) (hh : h = pre ++ gh og e (n * size) f)
    (h63 : n + 1 ≤ maxLen) (hby : (n + 1) * bytes ≤ 140737488355328) (hf : ∀ j, j < (n + 1) * size → appF f (n * size) (ofL v.cells) j = f' j)
    (kk : ∀ g', g' ∉ pre.keys → aw E (.ops all rest :: K) ((σ.set d1 (.c .any)).setO o2.dst (.c (gs (some g') size (n + 1)))) (pre ++ gh (some g') e ((n + 1) * size) f')) : aw E (.ops all (o1 :: o2 :: rest) :: K) σ h := by
  subst hh
  obtain ⟨ok1, ok2⟩ := okPart_spec hok
  have hfl : v.flat = true := by
    cases v with
    | tup xs => exact absurd rfl (ok1 xs)
    | c x => rfl
    | agg xs => rfl
  refine aw_buildSlice (xs := [x]) (cells := v.cells) hop1 hw1 hdk ht (by rw [hz]; rfl) rfl (by omega) (by omega) (by intro y hy; simp only [List.mem_singleton] at hy; subst hy; rw [hx]; exact ⟨hfl, ok2, hvl⟩) (by simp [hx]) fun gt hgt => ?_
  rw [hd1]
  have hw2 : ∀ σ2, wantA all σ2 o2 = some true := fun σ2 => by unfold wantA; rw [hg2]
  have hev1 : ev (Sl.setO σ (some d1) (.c (.osl gt size 0 1))) (.tmp d1) = .c (.osl gt size 0 1) := by simp [ev, Sl.setO, Sl.get_set]
  have hevs : ev (Sl.setO σ (some d1) (.c (.osl gt size 0 1))) (.tmp s) = .c (gs og size n) := by simp only [ev, Sl.setO, Sl.get_set, if_neg (Ne.symm hsd)]; exact hs
  have hsrc : ∀ h0 : Heap, Src ((gt, .cells e (1 * size) (ofL v.cells)) :: h0) size (.osl gt size 0 1) 1 (ofL v.cells) := fun h0 => by
    refine .osl (f' := ofL v.cells) (m := 1 * size) (ty := e) (by simp [Heap.get]) (by omega) (fun j _ => by rw [Nat.zero_add])
  have hle : ∀ (A B : AV) (g' : Nat), Sl.le ((σ.set d1 (.c .any)).setO o2.dst B) ((Sl.setO σ (some d1) A).setO o2.dst B) := fun A B g' t' => by
    rw [setO_get, setO_get]
    by_cases e1 : o2.dst = some t'
    · rw [if_pos e1, if_pos e1]; exact .inr rfl
    · rw [if_neg e1, if_neg e1]
      simp only [Sl.setO, Sl.get_set]
      by_cases e2 : d1 = t'
      · rw [if_pos e2]; exact .inl rfl
      · rw [if_neg e2, if_neg e2]; exact .inr rfl
  have hkp : ∀ g' : Nat, g' ∉ Heap.keys ((gt, .cells e (1 * size) (ofL v.cells)) :: pre) → g' ∉ pre.keys := fun g' hg' hm => hg' (by simp only [Heap.keys, List.map_cons, List.mem_cons]; exact .inr hm)
  have hperm : ∀ g' : Nat, (pre ++ gh (some g') e ((n + 1) * size) f').Sublist ((pre ++ [(g', .cells e ((n + 1) * size) f')])) := fun g' => List.Sublist.refl _
  cases og with
  | none =>
    have hn0 : n = 0 := hog rfl
    subst hn0
    refine aw_appendN (cx := .osl gt size 0 1) (k := 1) (f2 := ofL v.cells) hop2 (hw2 _) hd2 ht hz hzl hs0 hevs hev1 (hsrc _) (by omega) (by omega) (by omega) fun g' hg' => ?_
    refine aw_conv1 (f' := f') (fun j hj => ?_) ?_
    · have := hf j (by omega)
      rw [← this]; simp [appF]
    · have hnew : g' ∉ pre.keys := fun hm => hg' (by simp only [Heap.keys, List.map_cons, List.mem_cons, gh, List.append_nil]; exact .inr hm)
      refine aw_perm (h' := (gt, .cells e (1 * size) (ofL v.cells)) :: (pre ++ [(g', .cells e (1 * size) f')])) ?_ ?_
      · have : (pre ++ gh none e (0 * size) f) = pre := by simp [gh]
        rw [this]
        refine (List.Perm.swap _ _ _).trans (List.Perm.cons _ ?_)
        exact (List.perm_append_singleton _ _).symm
      · refine aw_weak (hle _ _ g') (List.Sublist.cons _ (List.Sublist.refl _)) ?_
        have := kk g' hnew
        simpa [gh, gs] using this
  | some g =>
    refine aw_nd fun hnd => ?_
    have hnp : g ∉ pre.keys := fun hm => by
      simp only [Heap.keys, gh, List.map_cons, List.map_append, List.map_nil, List.nodup_cons] at hnd
      have := (List.nodup_append.1 hnd.2).2.2 g hm g (by simp)
      exact this rfl
    have hgtg : gt ≠ g := fun e => hgt (by subst e; simp [Heap.keys, gh])
    refine aw_append (cx := .osl gt size 0 1) (k := 1) (f2 := ofL v.cells) (g := g) (m := n * size) (f := f) (h2 := (gt, .cells e (1 * size) (ofL v.cells)) :: pre) hop2 (hw2 _) hd2 ht hz hzl hs0 hevs ?_ (Nat.le_refl _) hev1 (hsrc _) ?_ (by omega) h63 hby ?_ fun g' hg' => ?_
    · show Heap.get ((gt, _) :: (pre ++ [(g, _)])) g = _
      simp only [Heap.get, if_neg hgtg]
      exact Heap.get_app hnp
    · intro j hj
      have hjl : j < v.cells.length := by omega
      rw [ofL_get v.cells j v.cells[j] (List.getElem?_eq_getElem hjl)]
      exact List.all_eq_true.1 ok2 _ (List.getElem_mem hjl)
    · show Heap.del ((gt, _) :: (pre ++ [(g, _)])) g = _
      rw [Heap.del_ne hgtg, Heap.del_app hnp]
    · refine aw_conv1 (f' := f') hf ?_
      refine aw_perm (h' := (gt, .cells e (1 * size) (ofL v.cells)) :: (pre ++ [(g', .cells e ((n + 1) * size) f')])) ?_ ?_
      · refine (List.Perm.swap _ _ _).trans (List.Perm.cons _ ?_)
        exact (List.perm_append_singleton _ _).symm
      · refine aw_weak (hle _ _ g') (List.Sublist.cons _ (List.Sublist.refl _)) ?_
        exact kk g' (hkp g' hg')

/-- A slice that grows is looked at. -/
theorem le_gs {pre : Heap} {og : Option Nat} {e s n : Nat} {f f' : Nat → CV} (hog : og = none → n = 0) (hn : ∀ g, og = some g → g ∉ pre.keys) (hf : ∀ j, j < n * s → LeC (pre ++ gh og e (n * s) f) (f j) (f' j)) : LeC (pre ++ gh og e (n * s) f) (gs og s n) (.row false s n f') := by
  cases og with
  | none => rw [hog rfl]; exact .nils
  | some g => exact .osl (Heap.get_app (hn g rfl)) (by omega) (fun j hj => by rw [Nat.zero_add]; exact hf j hj)
/-- A slice that has grown is handed back. -/
theorem ler_gs {pre : Heap} {og : Option Nat} {e s n : Nat} {t : Bool} {f f' : Nat → CV} (hog : og = none → n = 0) (hn : ∀ g, og = some g → g ∉ pre.keys) (hf : ∀ j, j < n * s → LeR (pre ++ gh og e (n * s) f) (f j) (f' j)) : LeR (pre ++ gh og e (n * s) f) (gs og s n) (.row t s n f') := by
  cases og with
  | none => rw [hog rfl]; exact .nils
  | some g => exact .osl (Heap.get_app (hn g rfl)) (by omega) (fun j hj => by rw [Nat.zero_add]; exact hf j hj)
theorem wf_push {zs : List Nat} {n : Nat} (hn : zs.length = n) (x : Nat) : ∀ j, j < (n + 1) * 1 → appF (wf zs) (n * 1) (ofL [.int .u32 (x : Int)]) j = wf (zs ++ [x]) j := fun j hj => by
  subst hn
  unfold appF
  by_cases h : j < zs.length * 1
  · rw [if_pos h]
    show CV.int .u32 (zs.getD j 0 : Nat) = CV.int .u32 ((zs ++ [x]).getD j 0 : Nat)
    rw [List.getD_eq_getElem?_getD, List.getD_eq_getElem?_getD, List.getElem?_append_left (by omega)]
  · have : j = zs.length := by omega
    subst this
    rw [if_neg h]
    show ofL [CV.int .u32 (x : Int)] (zs.length - zs.length * 1) = CV.int .u32 ((zs ++ [x]).getD zs.length 0 : Nat)
    rw [Nat.mul_one, Nat.sub_self, List.getD_eq_getElem?_getD, List.getElem?_append_right (Nat.le_refl _), Nat.sub_self]
    rfl
theorem le_gsw {og : Option Nat} {e n : Nat} {zs : List Nat} (hog : og = none → n = 0) (hl : zs.length = n) : LeC (gh og e n (wf zs)) (gs og 1 n) (ws false zs) := by
  subst hl
  have := le_gs (pre := []) (og := og) (e := e) (s := 1) (n := zs.length) (f := wf zs) (f' := fun j => .int .u32 (zs.getD j 0 : Nat)) hog (fun _ _ => by simp [Heap.keys]) (fun j _ => .refl _)
  simpa only [Nat.mul_one, List.nil_append] using this
theorem ler_gsw {og : Option Nat} {e n : Nat} {zs : List Nat} (hog : og = none → n = 0) (hl : zs.length = n) : LeR (gh og e n (wf zs)) (gs og 1 n) (ws true zs) := by
  subst hl
  have := ler_gs (pre := []) (og := og) (e := e) (s := 1) (n := zs.length) (t := true) (f := wf zs) (f' := fun j => .int .u32 (zs.getD j 0 : Nat)) hog (fun _ _ => by simp [Heap.keys]) (fun j _ => .int _ _)
  simpa only [Nat.mul_one, List.nil_append] using this

/-- A list of things of s cells each, laid out one behind the other. -/
def lf {α : Type} (s : Nat) (c : α → List CV) (d : α) (xs : List α) (j : Nat) : CV := ofL (c (xs.getD (j / s) d)) (j % s)
theorem lf_at {α : Type} {s : Nat} {c : α → List CV} {d : α} {xs : List α} {i k : Nat} (hk : k < s) : lf s c d xs (i * s + k) = ofL (c (xs.getD i d)) k := by
  unfold lf
  rw [Nat.mul_comm i s, Nat.mul_add_div (by omega), Nat.mul_add_mod, Nat.div_eq_of_lt hk, Nat.mod_eq_of_lt hk, Nat.add_zero]
theorem lf_push {α : Type} {s n : Nat} {c : α → List CV} {d : α} {xs : List α} (hn : xs.length = n) (v : α) (hs : 0 < s) : ∀ j, j < (n + 1) * s → appF (lf s c d xs) (n * s) (ofL (c v)) j = lf s c d (xs ++ [v]) j := fun j hj => by
  subst hn
  unfold appF
  by_cases h : j < xs.length * s
  · rw [if_pos h]
    unfold lf
    have : j / s < xs.length := (Nat.div_lt_iff_lt_mul hs).2 h
    rw [List.getD_eq_getElem?_getD, List.getD_eq_getElem?_getD, List.getElem?_append_left this]
  · rw [if_neg h]
    obtain ⟨k, rfl⟩ : ∃ k, j = xs.length * s + k := ⟨j - xs.length * s, by omega⟩
    have hk : k < s := by rw [Nat.succ_mul] at hj; omega
    rw [lf_at hk, Nat.add_sub_cancel_left, List.getD_eq_getElem?_getD, List.getElem?_append_right (Nat.le_refl _), Nat.sub_self]
    rfl
theorem updF_out : ∀ (cs : List CV) (f : Nat → CV) (k j : Nat), (j < k ∨ k + cs.length ≤ j) → updF f k cs j = f j
  | [], f, k, j, _ => rfl
  | c :: cs, f, k, j, h => by
    simp only [updF, List.length_cons] at h ⊢
    rw [updF_out cs _ (k + 1) j (by omega), if_neg (by omega)]
theorem updF_in : ∀ (cs : List CV) (f : Nat → CV) (k j : Nat), j < cs.length → updF f k cs (k + j) = ofL cs j
  | [], f, k, j, h => by simp at h
  | c :: cs, f, k, 0, h => by
    simp only [updF, ofL, Nat.add_zero]
    rw [updF_out cs _ (k + 1) k (by omega), if_pos rfl]
  | c :: cs, f, k, j + 1, h => by
    simp only [updF, ofL]
    rw [show k + (j + 1) = (k + 1) + j from by omega]
    exact updF_in cs _ (k + 1) j (by simpa using h)
theorem lf_upd {α : Type} {s : Nat} {c : α → List CV} {d : α} {xs : List α} {i : Nat} {v : α} (hi : i < xs.length) (hc : (c v).length = s) (hs : 0 < s) : updF (lf s c d xs) (i * s) (c v) = lf s c d (xs.set i v) := by
  funext j
  by_cases h : i * s ≤ j ∧ j < i * s + s
  · obtain ⟨k, rfl⟩ : ∃ k, j = i * s + k := ⟨j - i * s, by omega⟩
    have hk : k < s := by omega
    rw [updF_in _ _ _ _ (by omega), lf_at hk]
    congr 2
    rw [List.getD_eq_getElem?_getD, List.getElem?_set_self hi]; rfl
  · rw [updF_out _ _ _ _ (by omega)]
    unfold lf
    have hne : i ≠ j / s := by
      intro e
      have h1 := Nat.div_mul_le_self j s
      have h2 := Nat.lt_div_mul_add hs (a := j)
      rw [← e] at h1 h2
      omega
    rw [List.getD_eq_getElem?_getD, List.getD_eq_getElem?_getD, List.getElem?_set_ne hne]
end
end Go.AI

/- faultlineref01: word, Trim, Cmp, Add, Sub. -/
namespace Go.Proofs.YtmkomfdiggcloaaGreat
open Go.AI Go.PN
attribute [local irreducible] aw Fa Fh DrK
theorem val_ext {xs ys : List Nat} (h : ∀ j, xs.getD j 0 = ys.getD j 0) : val xs = val ys := by
  induction xs generalizing ys with
  | nil =>
    refine (val_zero fun y hy => ?_).symm
    obtain ⟨i, hi, rfl⟩ := List.mem_iff_getElem.1 hy
    have := h i
    rw [List.getD_eq_getElem?_getD, List.getD_eq_getElem?_getD, List.getElem?_eq_getElem hi] at this
    simpa using this.symm
  | cons x xs ih =>
    cases ys with
    | nil =>
      refine val_zero fun y hy => ?_
      obtain ⟨i, hi, rfl⟩ := List.mem_iff_getElem.1 hy
      have := h i
      rw [List.getD_eq_getElem?_getD, List.getD_eq_getElem?_getD, List.getElem?_eq_getElem hi] at this
      simpa using this
    | cons y ys =>
      have h0 := h 0
      simp only [List.getD_cons_zero] at h0
      have h1 := ih (ys := ys) fun j => by have := h (j + 1); simpa only [List.getD_cons_succ] using this
      simp only [val, h0, h1]
theorem val_lt_of {xs ys : List Nat} {i : Nat} (hx : ∀ x ∈ xs, x < 4294967296) (hlt : xs.getD i 0 < ys.getD i 0) (hz : ∀ j, i < j → xs.getD j 0 = ys.getD j 0) : val xs < val ys := by
  induction xs generalizing ys i with
  | nil =>
    have hy0 : val ys ≠ 0 := fun e => by
      have : ∀ (l : List Nat) (k : Nat), val l = 0 → l.getD k 0 = 0 := by
        intro l
        induction l with
        | nil => intro k _; simp
        | cons a l ih =>
          intro k hk
          simp only [val] at hk
          cases k with
          | zero => simp only [List.getD_cons_zero]; omega
          | succ k => simp only [List.getD_cons_succ]; exact ih k (by omega)
      rw [this ys i e] at hlt
      omega
    simp only [val]; omega
  | cons x xs ih =>
    have hxl : x < 4294967296 := hx x (by simp)
    cases ys with
    | nil => simp at hlt
    | cons y ys =>
      cases i with
      | zero =>
        simp only [List.getD_cons_zero] at hlt
        have := val_ext (xs := xs) (ys := ys) fun j => by have := hz (j + 1) (by omega); simpa only [List.getD_cons_succ] using this
        simp only [val, this]; omega
      | succ i =>
        simp only [List.getD_cons_succ] at hlt
        have := ih (ys := ys) (i := i) (fun z hz => hx z (by simp [hz])) hlt (fun j hj => by have := hz (j + 1) (by omega); simpa only [List.getD_cons_succ] using this)
        simp only [val]; omega
theorem word_lt' {xs ys : List Nat} {i : Nat} (hx : ∀ x ∈ xs, x < 4294967296) (_hy : ∀ x ∈ ys, x < 4294967296) (hlt : xs.getD i 0 < ys.getD i 0) (hz : ∀ j, i < j → xs.getD j 0 = ys.getD j 0) : val xs < val ys := val_lt_of hx hlt hz
set_option maxHeartbeats 400000 in
theorem qword_fa (xs : List Nat) (i : Nat) (hx : ∀ x ∈ xs, x < 4294967296) : Fa Tryz.prog 146 [.c (ws false xs), .c (.int .i64 i)] (.c (.int .u64 (xs.getD i 0 : Nat))) := by
  have hb := getD_lt hx i
  refine fa_of_body Tryz.func146 rfl rfl (by simp [Tryz.ntmps146]) fun C hC => ?_
  simp only [initS, Nat.reduceAdd]
  repeat first|apply wa1|apply wa2|apply wa3|apply wa4|apply wa5 rfl|apply wa6|apply wa7|(refine wb1 rfl fun R r=>?_;simp only[go_sem];with_reducible refine r _ _ ?_;clear r R)
  refine aw_cond (by simp only[go_sem]<;>rfl) (fun hb => ?_) (fun hb => ?_)
  · simp only [decide_eq_true_eq] at hb
    repeat first|apply wa1|apply wa2|apply wa3|apply wa4|apply wa5 rfl|apply wa6|apply wa7|(refine wb1 rfl fun R r=>?_;simp only[go_sem];with_reducible refine r _ _ ?_;clear r R)
    (refine aw_retq hC rfl fun R r=>?_;simp only[go_sem];refine r _ rfl ?_;clear r R)
    exact .one (.c (ler_int rfl))
  · simp only [decide_eq_false_iff_not] at hb
    repeat first|apply wa1|apply wa2|apply wa3|apply wa4|apply wa5 rfl|apply wa6|apply wa7|(refine wb1 rfl fun R r=>?_;simp only[go_sem];with_reducible refine r _ _ ?_;clear r R)
    (refine aw_retq hC rfl fun R r=>?_;simp only[go_sem];refine r _ rfl ?_;clear r R)
    refine .one (.c (ler_int ?_))
    rw [getD_ge (by omega)]; rfl

set_option maxHeartbeats 800000 in
theorem qtrim_fa (xs : List Nat) (hx : ∀ x ∈ xs, x < 4294967296) (hl : xs.length ≤ 1099511627776) : Fa Tryz.prog 147 [.c (ws false xs)] (.c (ws true (words (val xs)))) := by
  refine fa_of_body Tryz.func147 rfl rfl (by simp [Tryz.ntmps147]) fun C hC => ?_
  simp only [initS, Nat.reduceAdd]
  apply aw_seq
  apply aw_region
  repeat first|apply wa7|(refine wb1 rfl fun R r=>?_;simp only[go_sem];with_reducible refine r _ _ ?_;clear r R)
  apply aw_seq
  apply aw_region
  repeat first|apply wa7|(refine wb1 rfl fun R r=>?_;simp only[go_sem];with_reducible refine r _ _ ?_;clear r R)
  apply aw_seq
  refine aw_cut (fun m : Nat => [(0, .c (ws false xs)), (3, .c (.int .i64 m))]) (fun _ => []) (fun m => m ≤ xs.length ∧ words (val xs) = xs.take m) ?_ ?_
  · apply aw_block
    refine aw_lp (fun m : Nat => [(0, .c (ws false xs)), (3, .c (.int .i64 m))]) (fun _ => []) (fun m => m ≤ xs.length ∧ (∀ j, m ≤ j → xs.getD j 0 = 0)) id xs.length (by simp only[go_sem]<;>and_intros<;>first|exact True.intro|(with_reducible rfl)|exact c_int (by omega)|rfl) (List.Sublist.refl _) ⟨Nat.le_refl _, fun j hj => getD_ge hj⟩ ?_
    rintro m ⟨hm, hz⟩
    have hend : (m = 0 ∨ xs.getD (m - 1) 0 ≠ 0) → words (val xs) = xs.take m := trim_eq xs m hx hm hz
    repeat first|apply wa1|apply wa2|apply wa3|apply wa4|apply wa5 rfl|apply wa6|apply wa7|(refine wb1 rfl fun R r=>?_;simp only[go_sem];with_reducible refine r _ _ ?_;clear r R)
    refine aw_split 8 (by simp only[go_sem]<;>rfl) (fun h0 => ?_) (fun h0 => ?_) <;> (try simp only[go_sem])
    · have h0' : 0 < m := by have := of_decide_eq_true h0; omega
      repeat first|apply wa1|apply wa2|apply wa3|apply wa4|apply wa5 rfl|apply wa6|apply wa7|(refine wb1 rfl fun R r=>?_;simp only[go_sem];with_reducible refine r _ _ ?_;clear r R)
      refine aw_cond (by simp only[go_sem]<;>rfl) (fun hb => ?_) (fun hb => ?_)
      · have hb' : xs.getD (m - 1) 0 = 0 := by have := eq_of_beq hb; omega
        repeat first|apply wa1|apply wa2|apply wa3|apply wa4|apply wa5 rfl|apply wa6|apply wa7|(refine wb1 rfl fun R r=>?_;simp only[go_sem];with_reducible refine r _ _ ?_;clear r R)
        refine aw_stop ⟨m - 1, by simp only [id]; omega, (by simp only[go_sem]<;>and_intros<;>first|exact True.intro|(with_reducible rfl)|exact c_int (by omega)|rfl), (List.Sublist.refl _), by omega, fun j hj => ?_⟩
        by_cases hjm : j = m - 1
        · rw [hjm]; exact hb'
        · exact hz j (by omega)
      · have hb' : xs.getD (m - 1) 0 ≠ 0 := fun e => by rw [e] at hb; cases hb
        repeat first|apply wa1|apply wa2|apply wa3|apply wa4|apply wa5 rfl|apply wa6|apply wa7|(refine wb1 rfl fun R r=>?_;simp only[go_sem];with_reducible refine r _ _ ?_;clear r R)
        exact aw_stop ⟨m, (by simp only[go_sem]<;>and_intros<;>first|exact True.intro|(with_reducible rfl)|exact c_int (by omega)|rfl), (List.Sublist.refl _), hm, hend (.inr hb')⟩
    · have h0' : m = 0 := by have := of_decide_eq_false h0; omega
      repeat first|apply wa1|apply wa2|apply wa3|apply wa4|apply wa5 rfl|apply wa6|apply wa7|(refine wb1 rfl fun R r=>?_;simp only[go_sem];with_reducible refine r _ _ ?_;clear r R)
      refine aw_condF (by simp only[go_sem]<;>rfl) ?_
      repeat first|apply wa1|apply wa2|apply wa3|apply wa4|apply wa5 rfl|apply wa6|apply wa7|(refine wb1 rfl fun R r=>?_;simp only[go_sem];with_reducible refine r _ _ ?_;clear r R)
      exact aw_stop ⟨m, (by simp only[go_sem]<;>and_intros<;>first|exact True.intro|(with_reducible rfl)|exact c_int (by omega)|rfl), (List.Sublist.refl _), hm, hend (.inl h0')⟩
  rintro m ⟨hm, hw⟩
  repeat first|apply wa1|apply wa2|apply wa3|apply wa4|apply wa5 rfl|apply wa6|apply wa7|(refine wb1 rfl fun R r=>?_;simp only[go_sem];with_reducible refine r _ _ ?_;clear r R)
  refine aw_buildSlice (xs := []) (cells := []) rfl rfl rfl ty_e_ws (by rw [envP, ty_z_u32]; rfl) rfl (by omega) (by omega) (by simp) rfl fun g hg => ?_
  (try simp only[go_sem])
  repeat first|apply wa1|apply wa2|apply wa3|apply wa4|apply wa5 rfl|apply wa6|apply wa7|(refine wb1 rfl fun R r=>?_;simp only[go_sem];with_reducible refine r _ _ ?_;clear r R)
  by_cases h0 : 0 < m
  · refine aw_append rfl rfl rfl ty_e_ws ty_z_u32 rfl (by omega) (by simp only[go_sem]<;>rfl) (by simp only[go_sem]<;>rfl) (by omega) (by simp only[go_sem]<;>rfl) .row (fun _ _ => rfl) h0 (by unfold maxLen; omega) (by omega) (by simp only[go_sem]<;>rfl) fun g' hg' => ?_
    (try simp only[go_sem])
    repeat first|apply wa1|apply wa2|apply wa3|apply wa4|apply wa5 rfl|apply wa6|apply wa7|(refine wb1 rfl fun R r=>?_;simp only[go_sem];with_reducible refine r _ _ ?_;clear r R)
    (refine aw_retq hC rfl fun R r=>?_;simp only[go_sem];refine r _ rfl ?_;clear r R)
    refine .one (.c ?_)
    rw [hw]
    refine ler_oslws (by simp only[go_sem]<;>rfl) (by omega) (by simp; omega) (fun j hj => ?_)
    simp only [appF, Nat.not_lt_zero, if_false, Nat.sub_zero, Nat.zero_add]
    rw [getD_take hj]
  · have hm0 : m = 0 := by omega
    subst hm0
    refine aw_append0 rfl rfl rfl ty_e_ws (by simp only[go_sem]<;>rfl) rfl (by simp only[go_sem]<;>rfl) .row (by simp only[go_sem]<;>rfl) ?_
    (try simp only[go_sem])
    repeat first|apply wa1|apply wa2|apply wa3|apply wa4|apply wa5 rfl|apply wa6|apply wa7|(refine wb1 rfl fun R r=>?_;simp only[go_sem];with_reducible refine r _ _ ?_;clear r R)
    (refine aw_retq hC rfl fun R r=>?_;simp only[go_sem];refine r _ rfl ?_;clear r R)
    refine .one (.c ?_)
    rw [hw]
    exact ler_oslws (by simp only[go_sem]<;>rfl) (by omega) rfl (fun j hj => by omega)
set_option maxHeartbeats 800000 in
theorem qcmp_fa (xs ys : List Nat) (hx : ∀ x ∈ xs, x < 4294967296) (hy : ∀ x ∈ ys, x < 4294967296) (hlx : xs.length ≤ 68719476736) (hly : ys.length ≤ 68719476736) :
    Fa Tryz.prog 104 [.c (ws false xs), .c (ws false ys)] (.c (.int .i64 (cmpN (val xs) (val ys)))) := by
  refine fa_of_body Tryz.func104 rfl rfl (by simp [Tryz.ntmps104]) fun C hC => ?_
  simp only [initS, Nat.reduceAdd]
  repeat first|apply wa1|apply wa2|apply wa3|apply wa4|apply wa5 rfl|apply wa6|apply wa7|(refine wb1 rfl fun R r=>?_;simp only[go_sem];with_reducible refine r _ _ ?_;clear r R)
  have hmx : (if (ys.length : Int) > xs.length then (ys.length : Int) else xs.length) = ((max xs.length ys.length : Nat) : Int) := by split <;> omega
  rw [hmx]
  refine aw_lp (fun m : Nat => [(0, .c (ws false xs)), (1, .c (ws false ys)), (5, .c (.int .i64 ((m : Int) - 1)))]) (fun _ => []) (fun m => m ≤ max xs.length ys.length ∧ ∀ j, m ≤ j → xs.getD j 0 = ys.getD j 0) id (max xs.length ys.length) (by simp only[go_sem]<;>and_intros<;>first|exact True.intro|(with_reducible rfl)|exact c_int (by omega)|rfl) (List.Sublist.refl _) ⟨Nat.le_refl _, fun j hj => by rw [getD_ge (by omega), getD_ge (by omega)]⟩ ?_
  rintro m ⟨hm, hz⟩
  repeat first|apply wa1|apply wa2|apply wa3|apply wa4|apply wa5 rfl|apply wa6|apply wa7|(refine wb1 rfl fun R r=>?_;simp only[go_sem];with_reducible refine r _ _ ?_;clear r R)
  refine aw_cond (by simp only[go_sem]<;>rfl) (fun hb => ?_) (fun hb => ?_)
  · obtain ⟨i, rfl⟩ : ∃ i, m = i + 1 := ⟨m - 1, by have := of_decide_eq_true hb; omega⟩
    have e14 : ((i + 1 : Nat) : Int) - 1 = (i : Int) := by omega
    rw [e14]
    repeat first|apply wa1|apply wa2|apply wa3|apply wa4|apply wa5 rfl|apply wa6|apply wa7|(refine wb1 rfl fun R r=>?_;simp only[go_sem];with_reducible refine r _ _ ?_;clear r R)
    refine aw_callq (qword_fa xs i hx) rfl rfl rfl (by first|exact True.intro|simp only[go_sem]<;>and_intros<;>first|exact True.intro|exact .c (.refl _)|exact .c wl2|exact .agg (lel_refl _)|exact .agg (by simp only[LeL];and_intros<;>first|exact True.intro|exact .refl _|exact wl2)|exact .c .nils) ?_
    (try simp only[go_sem])
    repeat first|apply wa1|apply wa2|apply wa3|apply wa4|apply wa5 rfl|apply wa6|apply wa7|(refine wb1 rfl fun R r=>?_;simp only[go_sem];with_reducible refine r _ _ ?_;clear r R)
    refine aw_callq (qword_fa ys i hy) rfl rfl rfl (by first|exact True.intro|simp only[go_sem]<;>and_intros<;>first|exact True.intro|exact .c (.refl _)|exact .c wl2|exact .agg (lel_refl _)|exact .agg (by simp only[LeL];and_intros<;>first|exact True.intro|exact .refl _|exact wl2)|exact .c .nils) ?_
    (try simp only[go_sem])
    repeat first|apply wa1|apply wa2|apply wa3|apply wa4|apply wa5 rfl|apply wa6|apply wa7|(refine wb1 rfl fun R r=>?_;simp only[go_sem];with_reducible refine r _ _ ?_;clear r R)
    refine aw_cond (by simp only[go_sem]<;>rfl) (fun hlt => ?_) (fun hlt => ?_)
    · have hlt' : xs.getD i 0 < ys.getD i 0 := by have := of_decide_eq_true hlt; omega
      repeat first|apply wa1|apply wa2|apply wa3|apply wa4|apply wa5 rfl|apply wa6|apply wa7|(refine wb1 rfl fun R r=>?_;simp only[go_sem];with_reducible refine r _ _ ?_;clear r R)
      (refine aw_retq hC rfl fun R r=>?_;simp only[go_sem];refine r _ rfl ?_;clear r R)
      refine .one (.c (ler_int ?_))
      rw [cmpN, if_pos (word_lt' hx hy hlt' (fun j hj => hz j (by omega)))]
    · repeat first|apply wa1|apply wa2|apply wa3|apply wa4|apply wa5 rfl|apply wa6|apply wa7|(refine wb1 rfl fun R r=>?_;simp only[go_sem];with_reducible refine r _ _ ?_;clear r R)
      refine aw_callq (qword_fa xs i hx) rfl rfl rfl (by first|exact True.intro|simp only[go_sem]<;>and_intros<;>first|exact True.intro|exact .c (.refl _)|exact .c wl2|exact .agg (lel_refl _)|exact .agg (by simp only[LeL];and_intros<;>first|exact True.intro|exact .refl _|exact wl2)|exact .c .nils) ?_
      (try simp only[go_sem])
      repeat first|apply wa1|apply wa2|apply wa3|apply wa4|apply wa5 rfl|apply wa6|apply wa7|(refine wb1 rfl fun R r=>?_;simp only[go_sem];with_reducible refine r _ _ ?_;clear r R)
      refine aw_callq (qword_fa ys i hy) rfl rfl rfl (by first|exact True.intro|simp only[go_sem]<;>and_intros<;>first|exact True.intro|exact .c (.refl _)|exact .c wl2|exact .agg (lel_refl _)|exact .agg (by simp only[LeL];and_intros<;>first|exact True.intro|exact .refl _|exact wl2)|exact .c .nils) ?_
      (try simp only[go_sem])
      repeat first|apply wa1|apply wa2|apply wa3|apply wa4|apply wa5 rfl|apply wa6|apply wa7|(refine wb1 rfl fun R r=>?_;simp only[go_sem];with_reducible refine r _ _ ?_;clear r R)
      refine aw_cond (by simp only[go_sem]<;>rfl) (fun hgt => ?_) (fun hgt => ?_)
      · have hgt' : ys.getD i 0 < xs.getD i 0 := by have := of_decide_eq_true hgt; omega
        have hv := word_lt' hy hx hgt' (fun j hj => (hz j (by omega)).symm)
        repeat first|apply wa1|apply wa2|apply wa3|apply wa4|apply wa5 rfl|apply wa6|apply wa7|(refine wb1 rfl fun R r=>?_;simp only[go_sem];with_reducible refine r _ _ ?_;clear r R)
        (refine aw_retq hC rfl fun R r=>?_;simp only[go_sem];refine r _ rfl ?_;clear r R)
        refine .one (.c (ler_int ?_))
        rw [cmpN, if_neg (by omega), if_neg (by omega)]
      · have heq : xs.getD i 0 = ys.getD i 0 := by have := of_decide_eq_false hgt; have := of_decide_eq_false hlt; omega
        repeat first|apply wa1|apply wa2|apply wa3|apply wa4|apply wa5 rfl|apply wa6|apply wa7|(refine wb1 rfl fun R r=>?_;simp only[go_sem];with_reducible refine r _ _ ?_;clear r R)
        refine aw_stop ⟨i, by simp only [id]; omega, (by simp only[go_sem]<;>and_intros<;>first|exact True.intro|(with_reducible rfl)|exact c_int (by omega)|rfl), (List.Sublist.refl _), by omega, fun j hj => ?_⟩
        by_cases hji : j = i
        · rw [hji]; exact heq
        · exact hz j (by omega)
  · have hm0 : m = 0 := by have := of_decide_eq_false hb; omega
    subst hm0
    repeat first|apply wa1|apply wa2|apply wa3|apply wa4|apply wa5 rfl|apply wa6|apply wa7|(refine wb1 rfl fun R r=>?_;simp only[go_sem];with_reducible refine r _ _ ?_;clear r R)
    (refine aw_retq hC rfl fun R r=>?_;simp only[go_sem];refine r _ rfl ?_;clear r R)
    refine .one (.c (ler_int ?_))
    rw [cmpN, val_ext (fun j => hz j (by omega))]; simp
end Go.Proofs.YtmkomfdiggcloaaGreat

/- faultlineref01: Add, Sub, Mul. -/
namespace Go.Proofs.YtmkomfdiggcloaaGreat
open Go.AI Go.PN
attribute [local irreducible] aw Fa Fh DrK
theorem set_push {zs : List Nat} {i v : Nat} (h : zs.length = i) : ((zs ++ [0]).set i v).take (i + 1) = zs ++ [v] := by
  subst h
  rw [List.set_append_right _ _ (Nat.le_refl _), List.take_of_length_le (by simp)]
  simp
theorem take_push {zs : List Nat} {i : Nat} (h : zs.length = i) : (zs ++ [0]).take i = zs := by subst h; simp
theorem push_lt {zs : List Nat} {v : Nat} (hz : ∀ x ∈ zs, x < 4294967296) (hv : v < 4294967296) : ∀ x ∈ zs ++ [v], x < 4294967296 := fun x hx => by
  rcases List.mem_append.1 hx with h | h
  · exact hz x h
  · rw [List.mem_singleton.1 h]; exact hv
theorem some_ne {g : Nat} {n : Nat} : (some g : Option Nat) = none → n = 0 := fun e => by cases e

set_option maxHeartbeats 800000 in
theorem qadd_fa (xs ys : List Nat) (hx : ∀ x ∈ xs, x < 4294967296) (hy : ∀ x ∈ ys, x < 4294967296) (hlx : xs.length ≤ 68719476736) (hly : ys.length ≤ 68719476736) :
    Fa Tryz.prog 103 [.c (ws false xs), .c (ws false ys)] (.c (ws true (words (val xs + val ys)))) := by
  refine fa_of_body Tryz.func103 rfl rfl (by simp [Tryz.ntmps103]) fun C hC => ?_
  simp only [initS, Nat.reduceAdd]
  repeat first|apply wa1|apply wa2|apply wa3|apply wa4|apply wa5 rfl|apply wa6|apply wa7|(refine wb1 rfl fun R r=>?_;simp only[go_sem];with_reducible refine r _ _ ?_;clear r R)
  have hmx : (if (ys.length : Int) > xs.length then (ys.length : Int) else xs.length) + 1 = ((max xs.length ys.length + 1 : Nat) : Int) := by split <;> omega
  rw [hmx]
  generalize hn : max xs.length ys.length + 1 = n
  refine aw_lp (fun x : Option Nat × Nat × Nat × List Nat => [(0, .c (ws false xs)), (1, .c (ws false ys)), (5, .c (gs x.1 1 x.2.1)), (6, .c (.int .u64 x.2.2.1)), (14, .c (.int .i64 n)), (15, .c (.int .i64 x.2.1))]) (fun x => gh x.1 146 x.2.1 (wf x.2.2.2))
    (fun x => (x.1 = none → x.2.1 = 0) ∧ x.2.1 ≤ n ∧ x.2.2.1 ≤ 1 ∧ x.2.2.2.length = x.2.1 ∧ (∀ y ∈ x.2.2.2, y < 4294967296) ∧ val x.2.2.2 + 4294967296 ^ x.2.1 * x.2.2.1 = val (xs.take x.2.1) + val (ys.take x.2.1)) (fun x => n - x.2.1) (none, 0, 0, []) (by simp only[go_sem]<;>and_intros<;>first|exact True.intro|(with_reducible rfl)|exact c_int (by omega)|rfl) (List.Sublist.refl _)
    ⟨fun _ => rfl, Nat.zero_le _, Nat.zero_le _, rfl, by simp, by simp [val]⟩ ?_
  rintro ⟨og, i, c, zs⟩ ⟨hog, hi, hc, hzl, hz, hv⟩
  dsimp only at hog hi hc hzl hz hv ⊢
  repeat first|apply wa1|apply wa2|apply wa3|apply wa4|apply wa5 rfl|apply wa6|apply wa7|(refine wb1 rfl fun R r=>?_;simp only[go_sem];with_reducible refine r _ _ ?_;clear r R)
  refine aw_cond (by simp only[go_sem]<;>rfl) (fun hb => ?_) (fun hb => ?_)
  · have hin : i < n := by have := of_decide_eq_true hb; omega
    have hxi := getD_lt hx i
    have hyi := getD_lt hy i
    repeat first|apply wa1|apply wa2|apply wa3|apply wa4|apply wa5 rfl|apply wa6|apply wa7|(refine wb1 rfl fun R r=>?_;simp only[go_sem];with_reducible refine r _ _ ?_;clear r R)
    refine aw_callq (qword_fa xs i hx) rfl rfl rfl (by first|exact True.intro|simp only[go_sem]<;>and_intros<;>first|exact True.intro|exact .c (.refl _)|exact .c wl2|exact .agg (lel_refl _)|exact .agg (by simp only[LeL];and_intros<;>first|exact True.intro|exact .refl _|exact wl2)|exact .c .nils) ?_
    (try simp only[go_sem])
    repeat first|apply wa1|apply wa2|apply wa3|apply wa4|apply wa5 rfl|apply wa6|apply wa7|(refine wb1 rfl fun R r=>?_;simp only[go_sem];with_reducible refine r _ _ ?_;clear r R)
    refine aw_callq (qword_fa ys i hy) rfl rfl rfl (by first|exact True.intro|simp only[go_sem]<;>and_intros<;>first|exact True.intro|exact .c (.refl _)|exact .c wl2|exact .agg (lel_refl _)|exact .agg (by simp only[LeL];and_intros<;>first|exact True.intro|exact .refl _|exact wl2)|exact .c .nils) ?_
    (try simp only[go_sem])
    repeat first|apply wa1|apply wa2|apply wa3|apply wa4|apply wa5 rfl|apply wa6|apply wa7|(refine wb1 rfl fun R r=>?_;simp only[go_sem];with_reducible refine r _ _ ?_;clear r R)
    have ew : wrapZ .u32 ((((xs.getD i 0 : Nat) : Int) + ((ys.getD i 0 : Nat) : Int)) + (c : Int)) = (((c + (xs.getD i 0 + ys.getD i 0)) % 4294967296 : Nat) : Int) := by rw [wrapZ_eq, IntKind.wrap_u32]; omega
    rw [ew]
    have hst := add_step (zs := zs ++ [0]) (i := i) (c := c) (xs := xs) (ys := ys) (by simp; omega) (by rw [take_push hzl]; exact hv)
    rw [set_push hzl] at hst
    refine aw_push (pre := []) rfl rfl rfl rfl rfl rfl rfl (by simp only[go_sem]<;>rfl) (by simp only[go_sem]<;>rfl) (by rfl) (by omega) (by omega) (by simp only[go_sem]<;>rfl) (by omega) (by exact hog) (by simp only[go_sem]<;>rfl) (by rfl) (by rfl) (by first | rfl | simp only [Nat.mul_one, List.nil_append, List.cons_append] <;> rfl) (by unfold maxLen; omega) (by omega) (by exact wf_push hzl _) fun g hn_g => ?_
    replace hn_g := Heap.ne_of hn_g
    first | dsimp only [Heap.ne, gh] at hn_g | dsimp only [Heap.ne] at hn_g | skip
    (try simp only[go_sem, hn_g])
    repeat first|apply wa1|apply wa2|apply wa3|apply wa4|apply wa5 rfl|apply wa6|apply wa7|(refine wb1 rfl fun R r=>?_;simp only[go_sem, hn_g];with_reducible refine r _ _ ?_;clear r R)
    refine aw_stop ⟨(some g, i + 1, (c + (xs.getD i 0 + ys.getD i 0)) / 4294967296, zs ++ [(c + (xs.getD i 0 + ys.getD i 0)) % 4294967296]), by dsimp only; omega, (by simp only[go_sem, hn_g]<;>and_intros<;>first|exact True.intro|(with_reducible rfl)|exact c_int (by omega)|rfl), (List.Sublist.refl _), some_ne, by dsimp only; omega, by dsimp only; omega, by simp; omega, push_lt hz (by omega), hst⟩
  · have hin : i = n := by have := of_decide_eq_false hb; omega
    subst hin
    repeat first|apply wa1|apply wa2|apply wa3|apply wa4|apply wa5 rfl|apply wa6|apply wa7|(refine wb1 rfl fun R r=>?_;simp only[go_sem];with_reducible refine r _ _ ?_;clear r R)
    refine aw_callq (qtrim_fa zs hz (by omega)) rfl rfl rfl ⟨.c (le_gsw hog hzl), trivial⟩ ?_
    (try simp only[go_sem])
    repeat first|apply wa1|apply wa2|apply wa3|apply wa4|apply wa5 rfl|apply wa6|apply wa7|(refine wb1 rfl fun R r=>?_;simp only[go_sem];with_reducible refine r _ _ ?_;clear r R)
    (refine aw_retq hC rfl fun R r=>?_;simp only[go_sem];refine r _ rfl ?_;clear r R)
    rw [add_end hx hy (by omega) (by rw [hzl, List.take_of_length_le (by omega)]; exact hv)]
    exact .one (.c ler_ws)

set_option maxHeartbeats 1600000 in
theorem qsub_fa (xs ys : List Nat) (hx : ∀ x ∈ xs, x < 4294967296) (hy : ∀ x ∈ ys, x < 4294967296) (hlx : xs.length ≤ 68719476736) (hly : ys.length ≤ 68719476736) (hle : val ys ≤ val xs) :
    Fa Tryz.prog 105 [.c (ws false xs), .c (ws false ys)] (.tup [.c (ws true (words (val xs - val ys))), .c (.int .i64 0)]) := by
  refine fa_of_body Tryz.func105 rfl rfl (by simp [Tryz.ntmps105]) fun C hC => ?_
  simp only [initS, Nat.reduceAdd]
  repeat first|apply wa1|apply wa2|apply wa3|apply wa4|apply wa5 rfl|apply wa6|apply wa7|(refine wb1 rfl fun R r=>?_;simp only[go_sem];with_reducible refine r _ _ ?_;clear r R)
  refine aw_callq (qcmp_fa xs ys hx hy hlx hly) rfl rfl rfl (by first|exact True.intro|simp only[go_sem]<;>and_intros<;>first|exact True.intro|exact .c (.refl _)|exact .c wl2|exact .agg (lel_refl _)|exact .agg (by simp only[LeL];and_intros<;>first|exact True.intro|exact .refl _|exact wl2)|exact .c .nils) ?_
  (try simp only[go_sem])
  repeat first|apply wa1|apply wa2|apply wa3|apply wa4|apply wa5 rfl|apply wa6|apply wa7|(refine wb1 rfl fun R r=>?_;simp only[go_sem];with_reducible refine r _ _ ?_;clear r R)
  refine aw_cond (by simp only[go_sem]<;>rfl) (fun hb => ?_) (fun hb => ?_)
  · have := of_decide_eq_true hb
    unfold cmpN at this
    split at this
    · omega
    · split at this <;> omega
  repeat first|apply wa1|apply wa2|apply wa3|apply wa4|apply wa5 rfl|apply wa6|apply wa7|(refine wb1 rfl fun R r=>?_;simp only[go_sem];with_reducible refine r _ _ ?_;clear r R)
  refine aw_lp (fun x : Option Nat × Nat × Nat × List Nat => [(0, .c (ws false xs)), (1, .c (ws false ys)), (6, .c (gs x.1 1 x.2.1)), (7, .c (.int .u64 x.2.2.1)), (15, .c (.int .i64 xs.length)), (16, .c (.int .i64 x.2.1))]) (fun x => gh x.1 146 x.2.1 (wf x.2.2.2))
    (fun x => (x.1 = none → x.2.1 = 0) ∧ x.2.1 ≤ xs.length ∧ x.2.2.1 ≤ 1 ∧ x.2.2.2.length = x.2.1 ∧ (∀ y ∈ x.2.2.2, y < 4294967296) ∧ val x.2.2.2 + val (ys.take x.2.1) = val (xs.take x.2.1) + 4294967296 ^ x.2.1 * x.2.2.1) (fun x => xs.length - x.2.1) (none, 0, 0, []) (by simp only[go_sem]<;>and_intros<;>first|exact True.intro|(with_reducible rfl)|exact c_int (by omega)|rfl) (List.Sublist.refl _)
    ⟨fun _ => rfl, Nat.zero_le _, Nat.zero_le _, rfl, by simp, by simp [val]⟩ ?_
  rintro ⟨og, i, b, zs⟩ ⟨hog, hi, hbb, hzl, hz, hv⟩
  dsimp only at hog hi hbb hzl hz hv ⊢
  repeat first|apply wa1|apply wa2|apply wa3|apply wa4|apply wa5 rfl|apply wa6|apply wa7|(refine wb1 rfl fun R r=>?_;simp only[go_sem];with_reducible refine r _ _ ?_;clear r R)
  refine aw_cond (by simp only[go_sem]<;>rfl) (fun hb => ?_) (fun hb => ?_)
  · have hin : i < xs.length := by have := of_decide_eq_true hb; omega
    have hxi := getD_lt hx i
    have hyi := getD_lt hy i
    repeat first|apply wa1|apply wa2|apply wa3|apply wa4|apply wa5 rfl|apply wa6|apply wa7|(refine wb1 rfl fun R r=>?_;simp only[go_sem];with_reducible refine r _ _ ?_;clear r R)
    refine aw_callq (qword_fa xs i hx) rfl rfl rfl (by first|exact True.intro|simp only[go_sem]<;>and_intros<;>first|exact True.intro|exact .c (.refl _)|exact .c wl2|exact .agg (lel_refl _)|exact .agg (by simp only[LeL];and_intros<;>first|exact True.intro|exact .refl _|exact wl2)|exact .c .nils) ?_
    (try simp only[go_sem])
    repeat first|apply wa1|apply wa2|apply wa3|apply wa4|apply wa5 rfl|apply wa6|apply wa7|(refine wb1 rfl fun R r=>?_;simp only[go_sem];with_reducible refine r _ _ ?_;clear r R)
    refine aw_callq (qword_fa ys i hy) rfl rfl rfl (by first|exact True.intro|simp only[go_sem]<;>and_intros<;>first|exact True.intro|exact .c (.refl _)|exact .c wl2|exact .agg (lel_refl _)|exact .agg (by simp only[LeL];and_intros<;>first|exact True.intro|exact .refl _|exact wl2)|exact .c .nils) ?_
    (try simp only[go_sem])
    (refine aw_2q false rfl (fun R hR => ?_); simp only [go_sem]; (with_reducible refine hR _ _ ?_ ?_); (focus (((try simp only [inRange]) <;> and_intros <;> first | exact True.intro | omega | trivial); done)); clear hR R)
    repeat first|apply wa1|apply wa2|apply wa3|apply wa4|apply wa5 rfl|apply wa6|apply wa7|(refine wb1 rfl fun R r=>?_;simp only[go_sem];with_reducible refine r _ _ ?_;clear r R)
    (refine aw_2q false rfl (fun R hR => ?_); simp only [go_sem]; (with_reducible refine hR _ _ ?_ ?_); (focus (((try simp only [inRange]) <;> and_intros <;> first | exact True.intro | omega | trivial); done)); clear hR R)
    rw [wrap_subD hxi hyi hbb]
    obtain ⟨st1, st2⟩ := sub_step (zs := zs ++ [0]) (i := i) (by simp; omega) hxi hyi hbb (by rw [take_push hzl]; exact hv)
    rw [set_push hzl] at st1
    generalize subD (xs.getD i 0) (ys.getD i 0) b = D at st1 st2 ⊢
    obtain ⟨v, b2, e1, e2, hvl, st⟩ : ∃ v b2 : Nat, wrapZ .u32 (D : Int) = (v : Int) ∧ shrZ .u64 (D : Int) 63 = (b2 : Int) ∧ v < 4294967296 ∧ (val (zs ++ [v]) + val (ys.take (i + 1)) = val (xs.take (i + 1)) + 4294967296 ^ (i + 1) * b2 ∧ b2 ≤ 1) :=
      ⟨_, _, wrap_u32_nat D, shr63_nat D, Nat.mod_lt _ (by omega), st1, st2⟩
    clear st1 st2
    repeat first|apply wa1|apply wa2|apply wa3|apply wa4|apply wa5 rfl|apply wa6|apply wa7|(refine wb1 rfl fun R r=>?_;simp only[go_sem];with_reducible refine r _ _ ?_;clear r R)
    rw [e1]
    refine aw_push (pre := []) rfl rfl rfl rfl rfl rfl rfl (by simp only[go_sem]<;>rfl) (by simp only[go_sem]<;>rfl) (by rfl) (by omega) (by omega) (by simp only[go_sem]<;>rfl) (by omega) (by exact hog) (by simp only[go_sem]<;>rfl) (by rfl) (by rfl) (by first | rfl | simp only [Nat.mul_one, List.nil_append, List.cons_append] <;> rfl) (by unfold maxLen; omega) (by omega) (by exact wf_push hzl _) fun g hn_g => ?_
    replace hn_g := Heap.ne_of hn_g
    first | dsimp only [Heap.ne, gh] at hn_g | dsimp only [Heap.ne] at hn_g | skip
    (try simp only[go_sem, hn_g])
    repeat first|apply wa1|apply wa2|apply wa3|apply wa4|apply wa5 rfl|apply wa6|apply wa7|(refine wb1 rfl fun R r=>?_;simp only[go_sem, hn_g, e2];with_reducible refine r _ _ ?_;clear r R)
    refine aw_stop ⟨(some g, i + 1, b2, zs ++ [v]), by dsimp only; omega, (by simp only[go_sem, hn_g, e2]<;>and_intros<;>first|exact True.intro|(with_reducible rfl)|exact c_int (by omega)|rfl), (List.Sublist.refl _), some_ne, by dsimp only; omega, st.2, by simp; omega, push_lt hz hvl, st.1⟩
  · have hin : i = xs.length := by have := of_decide_eq_false hb; omega
    subst hin
    repeat first|apply wa1|apply wa2|apply wa3|apply wa4|apply wa5 rfl|apply wa6|apply wa7|(refine wb1 rfl fun R r=>?_;simp only[go_sem];with_reducible refine r _ _ ?_;clear r R)
    refine aw_callq (qtrim_fa zs hz (by omega)) rfl rfl rfl ⟨.c (le_gsw hog hzl), trivial⟩ ?_
    (try simp only[go_sem])
    repeat first|apply wa1|apply wa2|apply wa3|apply wa4|apply wa5 rfl|apply wa6|apply wa7|(refine wb1 rfl fun R r=>?_;simp only[go_sem];with_reducible refine r _ _ ?_;clear r R)
    (refine aw_retq hC rfl fun R r=>?_;simp only[go_sem];refine r _ rfl ?_;clear r R)
    rw [sub_end hx hz hzl hle (by rw [List.take_of_length_le (by omega)]; exact hv)]
    exact .tup ⟨.c ler_ws, .c (.int _ _), trivial⟩
set_option maxHeartbeats 1600000 in
theorem qmul_fa (xs ys : List Nat) (hx : ∀ x ∈ xs, x < 4294967296) (hy : ∀ x ∈ ys, x < 4294967296) (hlx : xs.length ≤ 68719476736) (hly : ys.length ≤ 68719476736) :
    Fa Tryz.prog 101 [.c (ws false xs), .c (ws false ys)] (.c (ws true (words (val xs * val ys)))) := by
  refine fa_of_body Tryz.func101 rfl rfl (by simp [Tryz.ntmps101]) fun C hC => ?_
  simp only [initS, Nat.reduceAdd]
  repeat first|apply wa1|apply wa2|apply wa3|apply wa4|apply wa5 rfl|apply wa6|apply wa7|(refine wb1 rfl fun R r=>?_;simp only[go_sem];with_reducible refine r _ _ ?_;clear r R)
  have hn0 : (xs.length : Int) + (ys.length : Int) + 1 = ((xs.length + ys.length + 1 : Nat) : Int) := by omega
  rw [hn0]
  generalize hn : xs.length + ys.length + 1 = n
  refine aw_make (n := n) (c := n) rfl rfl rfl ty_e_ws ty_z_u32 rfl (by omega) (by simp only[go_sem]<;>rfl) (by simp only[go_sem]<;>rfl) rfl rfl (by omega) (by omega) (by omega) fun g hg => ?_
  rw [make_wf n]
  (try simp only[go_sem])
  repeat first|apply wa1|apply wa2|apply wa3|apply wa4|apply wa5 rfl|apply wa6|apply wa7|(refine wb1 rfl fun R r=>?_;simp only[go_sem];with_reducible refine r _ _ ?_;clear r R)
  refine aw_lp (fun x : Nat × List Nat => [(1, .c (ws false ys)), (5, .c (.osl g 1 0 n)), (18, .c (ws false xs)), (19, .c (.int .i64 xs.length)), (20, .c (.int .i64 x.1))]) (fun x => [(g, .cells 146 n (wf x.2))])
    (fun x => x.1 ≤ xs.length ∧ x.2.length = n ∧ (∀ y ∈ x.2, y < 4294967296) ∧ val x.2 = val (xs.take x.1) * val ys) (fun x => xs.length - x.1) (0, List.replicate n 0) (by simp only[go_sem]<;>and_intros<;>first|exact True.intro|(with_reducible rfl)|exact c_int (by omega)|rfl) (List.Sublist.refl _)
    ⟨Nat.zero_le _, by simp, replicate_lt _, by simp [val, val_replicate]⟩ ?_
  rintro ⟨i, z0⟩ ⟨hi, hzl0, hz0, hv0⟩
  dsimp only at hi hzl0 hz0 hv0 ⊢
  repeat first|apply wa1|apply wa2|apply wa3|apply wa4|apply wa5 rfl|apply wa6|apply wa7|(refine wb1 rfl fun R r=>?_;simp only[go_sem];with_reducible refine r _ _ ?_;clear r R)
  refine aw_cond (by simp only[go_sem]<;>rfl) (fun hb => ?_) (fun hb => ?_)
  · have hin : i < xs.length := by have := of_decide_eq_true hb; omega
    have hxi := getD_lt hx i
    have hz0' : val z0 < 4294967296 ^ (i + ys.length) := by
      rw [hv0, Nat.pow_add]
      exact Nat.mul_lt_mul_of_lt_of_lt (val_take_lt xs hx i (by omega)) (val_lt ys hy)
    repeat first|apply wa1|apply wa2|apply wa3|apply wa4|apply wa5 rfl|apply wa6|apply wa7|(refine wb1 rfl fun R r=>?_;simp only[go_sem];with_reducible refine r _ _ ?_;clear r R)
    generalize hxx : xs.getD i 0 = x at *
    refine aw_lp (fun s : Nat × Nat × List Nat => [(1, .c (ws false ys)), (5, .c (.osl g 1 0 n)), (6, .c (.int .i64 i)), (7, .c (.int .u32 x)), (8, .c (.int .u64 s.2.1)), (18, .c (ws false xs)), (19, .c (.int .i64 xs.length)), (20, .c (.int .i64 i)), (27, .c (.int .i64 ((ys.length : Int) + 1))), (28, .c (.int .i64 s.1))]) (fun s => [(g, .cells 146 n (wf s.2.2))])
      (fun s => s.1 ≤ ys.length + 1 ∧ s.2.1 < 4294967296 ∧ s.2.2.length = n ∧ (∀ y ∈ s.2.2, y < 4294967296) ∧ (∀ j, i + s.1 ≤ j → s.2.2.getD j 0 = z0.getD j 0) ∧ (s.1 = ys.length + 1 → s.2.1 = 0) ∧ val s.2.2 + 4294967296 ^ (i + s.1) * s.2.1 = val z0 + 4294967296 ^ i * (x * val (ys.take s.1))) (fun s => ys.length + 1 - s.1) (0, 0, z0) (by simp only[go_sem]<;>and_intros<;>first|exact True.intro|(with_reducible rfl)|exact c_int (by omega)|rfl) (List.Sublist.refl _)
      ⟨Nat.zero_le _, by simp, hzl0, hz0, fun _ _ => rfl, fun _ => rfl, by simp [val]⟩ ?_
    rintro ⟨k, c, zs⟩ ⟨hk, hc, hzl, hz, hzz, hce, hv⟩
    dsimp only at hk hc hzl hz hzz hce hv ⊢
    repeat first|apply wa1|apply wa2|apply wa3|apply wa4|apply wa5 rfl|apply wa6|apply wa7|(refine wb1 rfl fun R r=>?_;simp only[go_sem];with_reducible refine r _ _ ?_;clear r R)
    refine aw_cond (by simp only[go_sem]<;>rfl) (fun hb => ?_) (fun hb => ?_)
    · have hkn : k < ys.length + 1 := by have := of_decide_eq_true hb; omega
      have hyk := getD_lt hy k
      have hzk := getD_lt hz (i + k)
      have hst := mul_step (ys := ys) (x := x) (zs := zs) (c := c) (by omega) hv
      have hmb := mul_bound hxi hyk
      have hmb2 : (0 : Int) ≤ (x : Int) * ((ys.getD k 0 : Nat) : Int) ∧ (x : Int) * ((ys.getD k 0 : Nat) : Int) ≤ 18446744065119617025 := by rw [← Int.natCast_mul]; omega
      have hlast : k = ys.length → (c + (x * ys.getD k 0 + zs.getD (i + k) 0)) / 4294967296 = 0 := fun e => by
        subst e
        rw [getD_ge (Nat.le_refl _), hzz _ (Nat.le_refl _), getD_zero_of_lt hz0' (Nat.le_refl _)]
        omega
      repeat first|apply wa1|apply wa2|apply wa3|apply wa4|apply wa5 rfl|apply wa6|apply wa7|(refine wb1 rfl fun R r=>?_;simp only[go_sem];with_reducible refine r _ _ ?_;clear r R)
      refine aw_dr 17 ty_mixed (by kernel_rfl) ?_
      repeat first|apply wa1|apply wa2|apply wa3|apply wa4|apply wa5 rfl|apply wa6|apply wa7|(refine wb1 rfl fun R r=>?_;simp only[go_sem];with_reducible refine r _ _ ?_;clear r R)|apply wa8|(refine wd1 rfl fun R r=>?_;simp only[go_sem];with_reducible refine r _ _ ?_;clear r R)
      refine drk_call (qword_fa ys k hy) rfl rfl rfl (by first|exact True.intro|simp only[go_sem]<;>and_intros<;>first|exact True.intro|exact .c (.refl _)|exact .c wl2|exact .agg (lel_refl _)|exact .agg (by simp only[LeL];and_intros<;>first|exact True.intro|exact .refl _|exact wl2)|exact .c .nils) ?_
      (try simp only[go_sem])
      repeat first|apply wa1|apply wa2|apply wa3|apply wa4|apply wa5 rfl|apply wa6|apply wa7|(refine wb1 rfl fun R r=>?_;simp only[go_sem];with_reducible refine r _ _ ?_;clear r R)|apply wa8|(refine wd1 rfl fun R r=>?_;simp only[go_sem];with_reducible refine r _ _ ?_;clear r R)
      have ew : (x : Int) * ((ys.getD k 0 : Nat) : Int) + ((zs.getD (i + k) 0 : Nat) : Int) + (c : Int) = ((c + (x * ys.getD k 0 + zs.getD (i + k) 0) : Nat) : Int) := by simp; omega
      rw [ew, wrap_u32_nat]
      refine aw_store rfl rfl rfl rfl (by simp only[go_sem]<;>rfl) (by simp only[go_sem]<;>rfl) (by simp only[go_sem]<;>rfl) (by simp only[go_sem]<;>rfl) (fun _ e => by cases e) (by rfl) (by rfl) (by first|omega|simp) rfl ?_
      (try simp only[go_sem])
      rw [updF_wf (by omega)]
      repeat first|apply wa1|apply wa2|apply wa3|apply wa4|apply wa5 rfl|apply wa6|apply wa7|(refine wb1 rfl fun R r=>?_;simp only[go_sem];with_reducible refine r _ _ ?_;clear r R)|apply wa8|(refine wd1 rfl fun R r=>?_;simp only[go_sem];with_reducible refine r _ _ ?_;clear r R)
      refine aw_stop ⟨(k + 1, (c + (x * ys.getD k 0 + zs.getD (i + k) 0)) / 4294967296, zs.set (i + k) ((c + (x * ys.getD k 0 + zs.getD (i + k) 0)) % 4294967296)), by dsimp only; omega, (by simp only[go_sem]<;>and_intros<;>first|exact True.intro|(with_reducible rfl)|exact c_int (by omega)|rfl), (List.Sublist.refl _), by dsimp only; omega, by dsimp only; omega, by simpa using hzl, set_lt hz (by omega), fun j hj => ?_, fun e => hlast (by simpa using e), hst⟩
      dsimp only at hj ⊢
      rw [Go.PN.getD_set_ne (by omega)]
      exact hzz j (by omega)
    · have hkn : k = ys.length + 1 := by have := of_decide_eq_false hb; omega
      subst hkn
      repeat first|apply wa1|apply wa2|apply wa3|apply wa4|apply wa5 rfl|apply wa6|apply wa7|(refine wb1 rfl fun R r=>?_;simp only[go_sem];with_reducible refine r _ _ ?_;clear r R)
      rw [hce rfl, Nat.mul_zero, Nat.add_zero, hv0, List.take_of_length_le (l := ys) (by omega)] at hv
      refine aw_stop ⟨(i + 1, zs), by dsimp only; omega, (by simp only[go_sem]<;>and_intros<;>first|exact True.intro|(with_reducible rfl)|exact c_int (by omega)|rfl), (List.Sublist.refl _), by dsimp only; omega, hzl, hz, ?_⟩
      dsimp only
      rw [hv, val_take_succ, hxx, Nat.add_mul, Nat.mul_assoc]
  · have hin : i = xs.length := by have := of_decide_eq_false hb; omega
    subst hin
    repeat first|apply wa1|apply wa2|apply wa3|apply wa4|apply wa5 rfl|apply wa6|apply wa7|(refine wb1 rfl fun R r=>?_;simp only[go_sem];with_reducible refine r _ _ ?_;clear r R)
    refine aw_callq (qtrim_fa z0 hz0 (by omega)) rfl rfl rfl (by (try simp only[go_sem]); exact .c (lec_oslws (by simp only[go_sem]<;>rfl) (by omega) (by omega) (fun j _ => by rw [Nat.zero_add]; rfl))) ?_
    (try simp only[go_sem])
    repeat first|apply wa1|apply wa2|apply wa3|apply wa4|apply wa5 rfl|apply wa6|apply wa7|(refine wb1 rfl fun R r=>?_;simp only[go_sem];with_reducible refine r _ _ ?_;clear r R)
    (refine aw_retq hC rfl fun R r=>?_;simp only[go_sem];refine r _ rfl ?_;clear r R)
    rw [hv0, List.take_length]
    exact .one (.c ler_ws)
end Go.Proofs.YtmkomfdiggcloaaGreat
