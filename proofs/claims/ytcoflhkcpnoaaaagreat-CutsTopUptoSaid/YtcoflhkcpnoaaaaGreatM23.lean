/- Blocks of one proof, laid one behind the other by a program (merge2.py). -/
import Derived.Test.YtcoflhkcpnoaaaaGreatM22
set_option linter.unusedSimpArgs false
set_option linter.unusedVariables false
namespace Go.AI
open Go.Sort
theorem fr_grow {w w' : World} (h : Fr (fun _ => False) w w') : ∃ q os', w' = grow (w.drewN q) os' := by
  refine ⟨w'.drawn - w.drawn, w'.heap.extract w.heap.size w'.heap.size, ?_⟩
  have h1 := h.os
  have h2 := h.tape
  have h3 := h.output
  have h4 := h.drawn
  have h5 := h.size
  have h6 := h.block
  have hh : w'.heap = w.heap ++ w'.heap.extract w.heap.size w'.heap.size := by
    refine Array.ext_getElem? fun b => ?_
    by_cases hb : b < w.heap.size
    · rw [Array.getElem?_append_left hb]; exact h6 b hb (fun x => x)
    · rw [Array.getElem?_append_right (by omega), Array.getElem?_extract]
      by_cases hb2 : b < w'.heap.size
      · rw [if_pos (by omega)]; congr 1; omega
      · rw [if_neg (by omega), Array.getElem?_eq_none (by omega)]
  have hd : w.drawn + (w'.drawn - w.drawn) = w'.drawn := by omega
  cases w with
  | mk heap tape drawn os output =>
    cases w' with
    | mk heap' tape' drawn' os' output' =>
      simp only at h1 h2 h3 hh hd
      subst h1 h2 h3
      unfold grow World.drewN
      simp only [World.mk.injEq, true_and]
      exact ⟨hh, hd.symm, trivial⟩
end Go.AI
namespace Go.PN
open Go.AI Go.Sort
def cmpC (a b : Int) : Int := if a < b then -1 else if b < a then 1 else 0
def cmpI (x y : Nat) : Int := if cmpC (popN x) (popN y) ≠ 0 then cmpC (popN x) (popN y) else cmpC x y
abbrev SetF := Fin 16777216
def toF (s : Nat) : SetF := Fin.ofNat 16777216 s
theorem toF_val {s : Nat} (h : s < 16777216) : (toF s).val = s := Nat.mod_eq_of_lt h
instance : Inhabited SetF := ⟨toF 0⟩
def encF (x : SetF) : Value := .int .i64 (x.val : Int)
def cfF (x y : SetF) : Int := cmpI x.val y.val
theorem lt_key (x y : SetF) : Go.Proofs.ltOf cfF x y = keyLt x.val y.val := by
  unfold Go.Proofs.ltOf cfF cmpI cmpC keyLt
  rw [Bool.eq_iff_iff]
  simp only [decide_eq_true_eq, Bool.or_eq_true, Bool.and_eq_true]
  split <;> split <;> (try split) <;> (try split) <;> omega
theorem swoF : SWO (Go.Proofs.ltOf cfF) where
  irrefl x := by rw [lt_key]; exact key_irr _
  trans x y z h1 h2 := by rw [lt_key] at *; exact key_trans h1 h2
  ntrans x y z h1 h2 := by
    rw [lt_key] at *
    simp only [keyLt, Bool.or_eq_false_iff, Bool.and_eq_false_iff, decide_eq_false_iff_not] at *
    omega
theorem srt_of {d : Array SetF} (hs : SortedIn (Go.Proofs.ltOf cfF) 0 d.size d) (hn : (d.toList.map (·.val)).Nodup) : Srt (d.toList.map (·.val)) := by
  unfold Srt
  rw [List.pairwise_iff_getElem]
  intro i j hi hj hij
  rw [List.length_map, Array.length_toList] at hi hj
  have h1 := hs i j (Nat.zero_le _) hij hj
  rw [lt_key, getElem!_pos d j hj, getElem!_pos d i hi] at h1
  rw [List.getElem_map, List.getElem_map, Array.getElem_toList, Array.getElem_toList]
  refine key_total h1 fun e => ?_
  have := List.pairwise_iff_getElem.1 hn i j (by simpa using hi) (by simpa using hj) hij
  rw [List.getElem_map, List.getElem_map, Array.getElem_toList, Array.getElem_toList] at this
  exact this e.symm
end Go.PN
namespace Go.Proofs.YtcoflhkcpnoaaaaGreat
open Go.AI Go.PN Go.Sort
attribute [local irreducible] aw Fa Fh DrK
set_option maxHeartbeats 800000 in
theorem compare_fa (a b : Int) : Fa Tryz.prog 100 [.c (.int .i64 a), .c (.int .i64 b)] (.c (.int .i64 (cmpC a b))) := by
  have hnan : ∀ x : Int, Fa Tryz.prog 136 [.c (.int .i64 x)] (.c (.bool false)) := fun x => by
    refine fa_of_body Tryz.func136 rfl rfl (by simp [Tryz.ntmps136]) fun C hC => ?_
    simp only [initS, Nat.reduceAdd]
    refine xG ?_
    refine xT hC ?_
    exact .one (.c (ler_bool (by simp)))
  unfold cmpC
  refine fa_of_body Tryz.func100 rfl rfl (by simp [Tryz.ntmps100]) fun C hC => ?_
  simp only [initS, Nat.reduceAdd]
  refine xG ?_
  refine xC (hnan a) ?_
  refine xG ?_
  refine xC (hnan b) ?_
  refine xG ?_
  refine xN ?_
  refine xG ?_
  refine xN ?_
  refine xG ?_
  refine xF (fun h1=>?_) fun h1=>?_
  · have h1' := of_decide_eq_true h1
    rw [if_pos h1']
    refine xG ?_
    refine xT hC ?_
    exact .one (.c (ler_int rfl))
  have h1' := of_decide_eq_false h1
  rw [if_neg h1']
  refine xG ?_
  refine xF (fun h2=>?_) fun h2=>?_
  · have h2' := of_decide_eq_true h2
    rw [if_pos (by omega)]
    refine xG ?_
    refine xT hC ?_
    exact .one (.c (ler_int rfl))
  · have h2' := of_decide_eq_false h2
    rw [if_neg (by omega)]
    refine xG ?_
    refine xT hC ?_
    exact .one (.c (ler_int rfl))
set_option maxHeartbeats 800000 in
theorem or_fa (a b : Int) : Fa Tryz.prog 99 [.c (is false [a, b])] (.c (.int .i64 (if a ≠ 0 then a else b))) := by
  refine fa_of_body Tryz.func99 rfl rfl (by simp [Tryz.ntmps99]) fun C hC => ?_
  simp only [initS, Nat.reduceAdd]
  refine xG ?_
  refine aw_lp (fun i : Nat => [(3, .c (.int .i64 0)), (6, .c (is false [a, b])), (7, .c (.int .i64 2)), (8, .c (.int .i64 i))]) (fun _ => []) (fun i => i ≤ 2 ∧ (0 < i → a = 0) ∧ (1 < i → b = 0)) (fun i => 2 - i) 0 eB zZ ⟨by omega, by omega, by omega⟩ ?_
  rintro i ⟨hi, ha, hb⟩
  refine xG ?_
  refine xF (fun h1=>?_) fun h1=>?_
  · have h1' := of_decide_eq_true h1
    refine xG ?_
    refine xF (fun h2=>?_) fun h2=>?_
    · have h2' : ¬ [a, b].getD i 0 = 0 := by simpa using h2
      refine xG ?_
      refine xT hC ?_
      refine .one (.c (ler_int ?_))
      obtain rfl | rfl : i = 0 ∨ i = 1 := by omega
      · exact (if_pos h2').symm
      · rw [if_neg (by simp [ha])]; rfl
    · have h2' : [a, b].getD i 0 = 0 := by simpa using h2
      refine xG ?_
      refine aw_stop ⟨i + 1, by omega, eB, zZ, by omega, fun _ => ?_, fun _ => ?_⟩
      · obtain rfl | rfl : i = 0 ∨ i = 1 := by omega
        · exact h2'
        · exact ha (by omega)
      · obtain rfl : i = 1 := by omega
        exact h2'
  · have h1' := of_decide_eq_false h1
    obtain rfl : i = 2 := by omega
    refine xG ?_
    refine xT hC ?_
    refine .one (.c (ler_int ?_))
    rw [if_neg (by simp [ha]), hb (by omega)]
set_option maxHeartbeats 1600000 in
theorem listCmp_fa (x y : Nat) (hx : x < 16777216) (hy : y < 16777216) : Fa Tryz.prog 98 [.c (.int .i64 x), .c (.int .i64 y)] (.c (.int .i64 (cmpI x y))) := by
  have w1 : wrapZ .u64 (x : Int) = (x : Int) := by rw [wrapZ_eq, IntKind.wrap_u64]; omega
  have w2 : wrapZ .u64 (y : Int) = (y : Int) := by rw [wrapZ_eq, IntKind.wrap_u64]; omega
  unfold cmpI
  refine fa_of_body Tryz.func98 rfl rfl (by simp [Tryz.ntmps98]) fun C hC => ?_
  simp only [initS, Nat.reduceAdd]
  refine yG (oj w1 w2) ?_
  refine yC (oj w1 w2) (ones_fa x hx) ?_
  refine yG (oj w1 w2) ?_
  refine yC (oj w1 w2) (ones_fa y hy) ?_
  refine yG (oj w1 w2) ?_
  refine yC (oj w1 w2) (compare_fa (popN x) (popN y)) ?_
  refine yG (oj w1 w2) ?_
  refine yC (oj w1 w2) (compare_fa x y) ?_
  refine yG (oj w1 w2) ?_
  refine aw_buildSlice (xs := [.tmp 11, .tmp 14]) (cells := [.int .i64 (cmpC (popN x) (popN y)), .int .i64 (cmpC x y)]) rfl rfl rfl (zE (oj w1 w2)) (by refine yS (oj w1 w2) ?_; rfl) rfl (by omega) (by omega) (by intro z hz; simp only [List.mem_cons, List.not_mem_nil, or_false] at hz; rcases hz with rfl | rfl <;> exact ⟨rfl, rfl, rfl⟩) rfl fun g hg => ?_
  refine yS (oj w1 w2) ?_
  refine aw_callq (or_fa (cmpC (popN x) (popN y)) (cmpC x y)) rfl rfl rfl (by refine yS (oj w1 w2) ?_; exact .c (.osl (ty := 3) (m := 2) (f := ofL [.int .i64 (cmpC (popN x) (popN y)), .int .i64 (cmpC x y)]) (by simp [Heap.get]) (by omega) (fun j hj => by match j, hj with | 0, _ => exact .refl _ | 1, _ => exact .refl _))) ?_
  refine yS (oj w1 w2) ?_
  refine yG (oj w1 w2) ?_
  refine yT hC (oj w1 w2) ?_
  exact .one (.c (ler_int rfl))
end Go.Proofs.YtcoflhkcpnoaaaaGreat
namespace Go.Proofs.YtcoflhkcpnoaaaaGreat
open Go.AI Go.PN Go.Sort
theorem cmpLays (blk off size : Nat) (w : World) : Go.Proofs.CmpLays1 Tryz.prog 98 #[] encF cfF blk off size w := by
  intro m os dk _ x y
  refine ((listCmp_fa x.val y.val x.isLt y.isLt).2 (fun _ _ => False) _ [encF x, encF y] (fun _ h => h) (fun _ _ h => h.elim) ⟨rfl, rfl, trivial⟩).mono ?_
  rintro e w' ⟨v, rfl, hr, hfr⟩
  have hv : v = .int .i64 (cmpI x.val y.val) := hr
  refine ⟨by rw [hv]; rfl, ?_⟩
  exact fr_grow hfr
theorem sw_heap {w : World} {g n : Nat} {cs : Array Value} {ty : TypeId} {fr : Nat × Nat} (hb : w.heap[g]? = some (.cells cs ty fr)) (m : Nat) (d : Array SetF) (os : Array Obj) :
    (Go.Proofs.sortWorld encF w g 0 m d os).heap[g]? = some (.cells (putCells encF 0 d cs) ty fr) ∧ (∀ b, b < w.heap.size → b ≠ g → (Go.Proofs.sortWorld encF w g 0 m d os).heap[b]? = w.heap[b]?) ∧ w.heap.size ≤ (Go.Proofs.sortWorld encF w g 0 m d os).heap.size := by
  have hg : g < w.heap.size := (Array.getElem?_eq_some_iff.1 hb).1
  have hsz : (putRow encF (Sort.ahead w m) g 0 d).heap.size = w.heap.size := by simp [putRow, mapBlock, Sort.ahead]
  refine ⟨?_, fun b hbs hne => ?_, ?_⟩
  · unfold Go.Proofs.sortWorld
    rw [heap_grow_old _ _ (by rw [hsz]; exact hg)]
    simp only [putRow, mapBlock, Sort.ahead, Array.getElem?_modify, if_true, hb, Option.map_some]
    rfl
  · unfold Go.Proofs.sortWorld
    rw [heap_grow_old _ _ (by rw [hsz]; exact hbs)]
    simp only [putRow, mapBlock, Sort.ahead, Array.getElem?_modify]
    rw [if_neg (fun e => hne e.symm)]
  · unfold Go.Proofs.sortWorld
    rw [size_grow, hsz]
    omega
set_option maxHeartbeats 1600000 in
theorem sort_fh (g : Nat) (zs : List Nat) (hm : ∀ x ∈ zs, x < 16777216) (hn : zs.Nodup) (hl : zs.length ≤ 1000000000) :
    Fh Tryz.prog 97 [(g, .cells 3 zs.length (isF (zL zs)))] [.c (.osl g 1 0 zs.length), .c (.raw (.func (.func 98) #[] #[]))] (fun x h => x = .tup [] ∧ h = [(g, .cells 3 zs.length (isF (zL (sortN zs))))]) := by
  refine ⟨⟨_, Tryz.func97, rfl, rfl⟩, fun C vs hC hnd ho hr => ?_⟩
  match vs, hr with
  | [v1, v2], ⟨h1, h2, _⟩ =>
    obtain ⟨c, rfl, hnc, hcm, _⟩ : ∃ c, v1 = .slice (some ⟨g, 0, none⟩) zs.length c ∧ zs.length ≤ c ∧ c ≤ maxLen ∧ Has C.w0 g (0 + c * 1) := h1
    obtain rfl : v2 = .func (.func 98) #[] #[] := h2
    obtain ⟨cs, hb, hcs, hj⟩ := ho g _ (List.mem_singleton.2 rfl)
    have hgl : g < C.w0.heap.size := (Array.getElem?_eq_some_iff.1 hb).1
    have hget : ∀ j, j < zs.length → cs[j]? = some (.int .i64 (zs.getD j 0 : Nat)) := fun j hjl => by
      obtain ⟨u, hu, hru⟩ := hj j hjl
      have : u = .int .i64 ((zL zs).getD j 0) := hru
      rw [hu, this, zL_get]
    let d : Array SetF := (zs.map toF).toArray
    have hds : d.size = zs.length := by simp [d]
    have hdj : ∀ j, j < zs.length → encF d[j]! = .int .i64 (zs.getD j 0 : Nat) := fun j hjl => by
      have hjd : j < d.size := by rw [hds]; exact hjl
      rw [getElem!_pos d j hjd]
      have : d[j] = toF zs[j] := by simp [d]
      unfold encF
      rw [this, toF_val (hm _ (List.getElem_mem hjl)), List.getD_eq_getElem?_getD, List.getElem?_eq_getElem hjl]
      rfl
    have hH : Holds encF C.w0 g 0 d := fun j hjl => by
      rw [hds] at hjl
      refine ⟨?_, ?_⟩
      · unfold World.cell?
        simp only [hb, Option.isSome_none, Bool.false_eq_true, if_false, Nat.zero_add]
        rw [hget j hjl, hdj j hjl]
      · unfold World.frozen?
        simp only [hb]
        simp
    have eg : ∀ args w, (callFunc 98 args).run Tryz.prog w = .ok (.enter 98 args) w := fun args w => (listCmp_fa 0 0 (by decide) (by decide)).1.run args w
    have hsz : d.size < 4611686018427387904 := by
      rw [hds]
      unfold maxLen at hcm
      omega
    have hcon := Go.Proofs.Any.slices_SortFunc sortL encF (fun _ => rfl) cfF swoF 98 #[] g 0 c d C.w0 eg (cmpLays g 0 d.size C.w0) hH hgl hsz
    rw [hds] at hcon
    refine hcon.mono ?_
    rintro e w' ⟨rfl, d', n, os, hp, hs, rfl⟩
    obtain ⟨hp1, _, hp3⟩ := hp
    have hd's : d'.size = zs.length := by rw [hp1, hds]
    have hpl : d'.toList.Perm d.toList := by
      rw [← hds] at hp3
      have e1 : d'.extract 0 d.size = d' := by rw [← hp1]; exact Array.extract_size
      have e2 : d.extract 0 d.size = d := Array.extract_size
      rw [e1, e2] at hp3
      exact hp3
    have hdm : d.toList.map (·.val) = zs := by
      show ((zs.map toF).toArray.toList).map (·.val) = zs
      rw [List.toList_toArray, List.map_map]
      conv => rhs; rw [← List.map_id zs]
      exact List.map_congr_left fun x hx => toF_val (hm x hx)
    have hperm : (d'.toList.map (·.val)).Perm zs := by rw [← hdm]; exact hpl.map _
    have hsrt : Srt (d'.toList.map (·.val)) := srt_of (by rw [hp1]; rw [hds]; exact hs) (hperm.nodup_iff.2 hn)
    have hys : d'.toList.map (·.val) = sortN zs := srt_ext hsrt (sort_srt zs) fun x => by rw [sort_mem]; exact hperm.mem_iff
    obtain ⟨q1, q2, q3⟩ := sw_heap (n := 0) hb n d' os
    have hlen : (putCells encF 0 d' cs).size = cs.size := by simp [putCells]
    refine ⟨.tuple #[], .tup [], [(g, .cells 3 zs.length (isF (zL (sortN zs))))], rfl, ⟨rfl, rfl⟩, by simp [Heap.keys], fun g' hg' => ?_, ⟨[], rfl, trivial⟩, fun g' o' hm' => ?_, ?_⟩
    · simp only [Heap.keys, List.map_cons, List.map_nil, List.mem_singleton] at hg'
      subst hg'
      exact .inl ((hC _).2 (by simp [Heap.keys]))
    · rw [List.mem_singleton] at hm'
      injection hm' with e1 e2
      subst e1 e2
      refine ⟨putCells encF 0 d' cs, q1, by rw [hlen]; exact hcs, fun j hjl => ⟨.int .i64 ((sortN zs).getD j 0 : Nat), ?_, ?_⟩⟩
      · have hjc : j < cs.size := Nat.lt_of_lt_of_le hjl hcs
        unfold putCells
        rw [Array.getElem?_mapIdx, Array.getElem?_eq_getElem hjc, Option.map_some, if_pos ⟨Nat.zero_le _, by omega⟩, Nat.sub_zero, getElem!_pos d' j (by omega)]
        unfold encF
        rw [← hys, List.getD_eq_getElem?_getD, List.getElem?_map, List.getElem?_eq_getElem (by simpa using (by omega : j < d'.size))]
        simp
      · show _ = _
        rw [zL_get]
    · refine ⟨rfl, rfl, rfl, q3, ?_, fun b hbs hno => q2 b hbs (fun e => hno ((hC b).2 (by simp [Heap.keys, e]))), fun g' m' hh => ?_⟩
      · show C.w0.drawn ≤ C.w0.drawn + n
        omega
      · by_cases e : g' = g
        · subst e
          obtain ⟨cs', ty', ⟨fr, hc'⟩, hs'⟩ := hh
          rw [hb] at hc'
          injection hc' with hc'
          injection hc' with e1 e2 e3
          subst e1
          exact ⟨_, _, ⟨_, q1⟩, by rw [hlen]; exact hs'⟩
        · have hl := hh.lt
          obtain ⟨cs', ty', ⟨fr, hc'⟩, hs'⟩ := hh
          exact ⟨cs', ty', ⟨fr, (q2 g' hl e).trans hc'⟩, hs'⟩
end Go.Proofs.YtcoflhkcpnoaaaaGreat
namespace Go.Proofs.YtcoflhkcpnoaaaaGreat
open Go.AI Go.PN
attribute [local irreducible] aw Fa Fh DrK
set_option maxHeartbeats 1600000 in
set_option maxRecDepth 10000 in
theorem len64z_fa : Fa Tryz.prog 154 [.c (.int .u64 0)] (.c (.int .i64 0)) := by
  refine fa_of_body Tryz.func154 rfl rfl (by simp [Tryz.ntmps154]) fun C hC => ?_
  simp only [initS, Nat.reduceAdd]
  refine xG ?_
  refine xN ?_
  refine xG ?_
  refine xN ?_
  refine xG ?_
  refine xN ?_
  refine xG ?_
  have w0 : wrapZ .u8 (0 : Int) = ((0 : Nat) : Int) := by rw [wrapZ_eq]; rfl
  refine yS w0 ?_
  refine aw_idx (i := 0) rfl rfl rfl ty_str rfl (zE w0) (by decide +kernel) (by omega) ?_
  refine yS w0 ?_
  refine yG w0 ?_
  refine yT hC w0 ?_
  exact .one (.c (ler_int rfl))
theorem lenz_fa : Fa Tryz.prog 135 [.c (.int .u64 0)] (.c (.int .i64 0)) := by
  refine fa_of_body Tryz.func135 rfl rfl (by simp [Tryz.ntmps135]) fun C hC => ?_
  simp only [initS, Nat.reduceAdd]
  refine xG ?_
  refine aw_condF0 ?_
  refine xG ?_
  refine xC (len64z_fa) ?_
  refine xG ?_
  refine xT hC ?_
  exact .one (.c (ler_int rfl))
set_option maxHeartbeats 1600000 in
theorem insz_fh : Fh Tryz.prog 145 [] [.c .nils, .c (.int .i64 0), .c (.int .i64 0), .c (.raw (.func (.func 98) #[] #[]))] (fun x h => x = .tup [] ∧ h = []) := by
  refine fh_of_body Tryz.func145 rfl rfl (by simp [Tryz.ntmps145]) fun C hC => ?_
  simp only [initS, Nat.reduceAdd]
  refine xG ?_
  refine aw_lp (fun _ : Unit => [(8, .c (.int .i64 1)), (2, .c (.int .i64 0))]) (fun _ => []) (fun _ => (0 : Nat) = 0) (fun _ => 0) () eB zZ rfl ?_
  rintro _ _
  refine xG ?_
  refine xN ?_
  refine xG ?_
  refine xV ?_
  exact ⟨rfl, rfl⟩
set_option maxHeartbeats 1600000 in
theorem pdqz_fh : Fh Tryz.prog 134 [] [.c .nils, .c (.int .i64 0), .c (.int .i64 0), .c (.int .i64 0), .c (.raw (.func (.func 98) #[] #[]))] (fun x h => x = .tup [] ∧ h = []) := by
  refine fh_of_body Tryz.func134 rfl rfl (by simp [Tryz.ntmps134]) fun C hC => ?_
  simp only [initS, Nat.reduceAdd]
  refine xG ?_
  refine aw_lp (fun _ : Unit => [(0, .c .nils), (1, .c (.int .i64 0)), (2, .c (.int .i64 0)), (4, .c (.raw (.func (.func 98) #[] #[])))]) (fun _ => []) (fun _ => (0 : Nat) = 0) (fun _ => 0) () eB zZ rfl ?_
  rintro _ _
  refine xG ?_
  refine xP ?_
  refine xG ?_
  refine aw_callh (hc := []) (hr := []) insz_fh rfl rfl rfl (.refl _) eL ?_
  rintro _ _ ⟨rfl, rfl⟩ _
  refine xS ?_
  refine xG ?_
  refine xU ?_
  exact ⟨rfl, rfl⟩
set_option maxHeartbeats 1600000 in
theorem sortz_fh : Fh Tryz.prog 97 [] [.c .nils, .c (.raw (.func (.func 98) #[] #[]))] (fun x h => x = .tup [] ∧ h = []) := by
  have w0 : wrapZ .u64 ((0 : Nat) : Int) = 0 := by rw [wrapZ_eq]; rfl
  refine fh_of_body Tryz.func97 rfl rfl (by simp [Tryz.ntmps97]) fun C hC => ?_
  simp only [initS, Nat.reduceAdd]
  refine yG w0 ?_
  refine yC w0 (lenz_fa) ?_
  refine yG w0 ?_
  refine aw_callh (hc := []) (hr := []) pdqz_fh rfl rfl rfl (.refl _) (zL w0) ?_
  rintro _ _ ⟨rfl, rfl⟩ _
  refine yS w0 ?_
  refine yG w0 ?_
  refine yV w0 ?_
  exact ⟨rfl, rfl⟩
abbrev LiH (g7 : Nat) (x : Option Nat × List Nat) : Heap := (g7, .cells 22 1 (ofL [gs x.1 1 x.2.length])) :: gh x.1 3 x.2.length (isF (zL x.2))
set_option maxHeartbeats 1600000 in
theorem list1_fh (g7 : Nat) (x : Option Nat × List Nat) (s : Nat) (hx : x.1 = none → x.2.length = 0) (hl : x.2.length ≤ 1000000000) :
    Fh Tryz.prog 96 (LiH g7 x) [.c (.int .i64 s), .c (.optr g7 0)] (fun r h => ∃ y : Option Nat × List Nat, y.2 = x.2 ++ [s] ∧ (y.1 = none → y.2.length = 0) ∧ r = .tup [] ∧ h = LiH g7 y) := by
  obtain ⟨og, l⟩ := x
  dsimp only at hx hl ⊢
  have hp : ∀ j, j < (l.length + 1) * 1 → appF (isF (zL l)) (l.length * 1) (ofL [.int .i64 (s : Int)]) j = isF (zL (l ++ [s])) j := by
    have := is_push (zL_len l) (s : Int)
    rw [zL_push] at this
    exact this
  refine fh_of_body Tryz.func96 rfl rfl (by simp [Tryz.ntmps96]) fun C hC => ?_
  simp only [initS, Nat.reduceAdd]
  refine aw_nd fun hnd => ?_
  refine xG ?_
  refine aw_push (pre := [(g7, .cells 22 1 (ofL [gs og 1 l.length]))]) rfl rfl rfl rfl rfl rfl rfl eE eE (by rfl) (by omega) (by omega) eE (by omega) (by exact hx) eE (by rfl) (by rfl) (by first | rfl | simp only [Nat.mul_one, List.nil_append, List.cons_append] <;> rfl) (by unfold maxLen; omega) (by omega) (by exact hp) fun g hn_g => ?_
  replace hn_g := Heap.ne_of hn_g
  first | dsimp only [Heap.ne, gh] at hn_g | dsimp only [Heap.ne] at hn_g | skip
  refine yS hn_g ?_
  refine yG hn_g ?_
  refine yW hn_g ?_
  refine yS hn_g ?_
  refine yG hn_g ?_
  refine aw_keep [] (LiH g7 (some g, l ++ [s])) (zB hn_g) (by
    unfold LiH
    simp only [List.length_append, List.length_cons, List.length_nil, Nat.zero_add, Nat.mul_one, gs, gh]
    exact List.Sublist.refl _) ?_
  refine yV hn_g ?_
  exact ⟨(some g, l ++ [s]), rfl, some_ne, rfl, rfl⟩
theorem sort_nodup (l : List Nat) : (sortN l).Nodup := (sort_srt l).imp fun h e => by
  subst e
  rw [key_irr] at h
  cases h
theorem sort_perm {l : List Nat} (h : l.Nodup) : (sortN l).Perm l := (List.perm_ext_iff_of_nodup (sort_nodup l) h).2 fun _ => sort_mem
theorem sort_len {l : List Nat} (h : l.Nodup) : (sortN l).length = l.length := (sort_perm h).length_eq
theorem RS_snoc {g7 : Nat} : ∀ {l : List Nat} {x y : Option Nat × List Nat}, RS (fun (a : Option Nat × List Nat) (s : Nat) (b : Option Nat × List Nat) => b.2 = a.2 ++ [s]) x l y → y.2 = x.2 ++ l
  | [], x, y, h => by
    have h : x = y := h
    rw [h, List.append_nil]
  | s :: l, x, y, ⟨z, h1, h2⟩ => by
    rw [RS_snoc (g7 := g7) h2, h1, List.append_assoc]
    rfl
set_option maxRecDepth 100000 in
set_option maxHeartbeats 3200000 in
theorem zlist_fh {n : Nat} {F : Nat → Bool} (z : ZD) (hz : ZOut n F z) (h24 : n ≤ 24) (hn : z.nodes.length ≤ 4096) (hc : cntZ z.nodes z.root ≤ 1024) :
    Fh Tryz.prog 57 [] [.agg (zdc false z)] (fun x h => x = .tup [.c (is true (zL (sortN (setsZ z.nodes z.root 0)))), .c .nilI] ∧ h = []) := by
  have hf : ((cntZ z.nodes z.root > 1024) = False) := eq_false (by omega)
  have hd : decide (cntZ z.nodes z.root > 1024) = false := decide_eq_false (by omega)
  have hlen : (setsZ z.nodes z.root 0).length ≤ 1024 := by unfold cntZ at hc; omega
  have hb0 : ∀ j : Nat, evZ n z.nodes z.root ≤ j → (0 : Nat).testBit j = false := fun j _ => Nat.zero_testBit j
  have hnd := sets_nodup hz.tab z.root hz.ref 0 hb0
  have hm : ∀ s ∈ setsZ z.nodes z.root 0, s < 16777216 := fun s hs => by
    obtain ⟨t, ht, rfl⟩ := (sets_mem hz.tab z.root hz.ref 0 hb0 s).1 hs
    rw [Nat.zero_or]
    have := mem_bits hz.tab z.root hz.ref t ht
    have h1 : t < 2 ^ n := Nat.lt_pow_two_of_testBit _ fun j hj => by
      cases hb : t.testBit j with
      | false => rfl
      | true => have := (this j hb).2; omega
    exact Nat.lt_of_lt_of_le h1 (Nat.pow_le_pow_right (by omega) h24)
  refine fh_of_body Tryz.func57 rfl rfl (by simp [Tryz.ntmps57]) fun C hC => ?_
  simp only [initS, Nat.reduceAdd]
  refine xG ?_
  refine xB fun g1 hn_g1=>?_
  refine yG hn_g1 ?_
  refine aw_buildSlice (xs := [.tmp 9]) (cells := zdc false z) rfl rfl rfl (zE hn_g1) (by refine yS hn_g1 ?_; rfl) rfl (by omega) (by omega) (by intro x hx; simp only [List.mem_singleton] at hx; subst hx; exact ⟨rfl, rfl, rfl⟩) rfl fun g9 hn_g9 => ?_
  replace hn_g9 := Heap.ne_of hn_g9
  dsimp only [Heap.ne] at hn_g9
  refine yS (oj hn_g1 hn_g9) ?_
  refine aw_frzT (t := 10) (zdsF [z]) (zE (oj hn_g1 hn_g9)) (zE (oj hn_g1 hn_g9)) (by omega) (fun h => by have := (hC g9).1 h; simp [Heap.keys] at this) (fun q hq => by match q, hq with | 0, _ => rfl | 1, _ => rfl) rfl (zE (oj hn_g1 hn_g9)) ?_
  refine yS (oj hn_g1 hn_g9) ?_
  refine yG (oj hn_g1 hn_g9) ?_
  refine aw_callh (hc := []) (hr := [(g1, .cells 33 2 (ofL (zdc false z)))]) (zopen_fh z hz h24 hn) rfl rfl rfl (.refl _) (zL (oj hn_g1 hn_g9)) ?_
  rintro _ _ ⟨gT, gU, gM, og, hog, rfl, rfl⟩ _
  have hs : ZS n og z.nodes [] := ⟨hog, hz.tab, fun e he => absurd he List.not_mem_nil⟩
  refine yS (oj hn_g1 hn_g9) ?_
  refine yG (oj hn_g1 hn_g9) ?_
  refine yN (oj hn_g1 hn_g9) ?_
  refine yG (oj hn_g1 hn_g9) ?_
  refine aw_callh (hc := ZHp gT gU gM og z.nodes []) (hr := [(g1, .cells 33 2 (ofL (zdc false z)))]) (zcount_ok n gT gU gM h24 (z.root.toNat + 1) og z.nodes [] z.root hs (by omega) hz.ref (by omega)) rfl rfl rfl (.refl _) (zL (oj hn_g1 hn_g9)) ?_
  rintro _ _ ⟨mm, hzp, rfl, rfl⟩ _
  have hs1 := hzp.zs
  refine yS (oj hn_g1 hn_g9) ?_
  refine yG (oj hn_g1 (oj hn_g9 hd)) ?_
  refine yN (oj hn_g1 (oj hn_g9 hd)) ?_
  refine yG (oj hn_g1 (oj hn_g9 hd)) ?_
  refine aw_perm (List.perm_append_comm (l₂ := [(g1, AObj.cells 33 2 (ofL (zdc false z)))])) ?_
  simp only [List.cons_append, List.nil_append]
  refine yA (oj hn_g1 (oj hn_g9 hd)) fun g7 hn_g7=>?_
  refine yG (oj hn_g1 (oj hn_g9 (oj hd hn_g7))) ?_
  refine aw_makeFunc (gs := [g7]) rfl rfl rfl (zE (oj hn_g1 (oj hn_g9 (oj hd hn_g7)))) ?_
  refine yS (oj hn_g1 (oj hn_g9 (oj hd hn_g7))) ?_
  refine yG (oj hn_g1 (oj hn_g9 (oj hd hn_g7))) ?_
  refine aw_callh (hc := ZHp gT gU gM og z.nodes mm ++ LiH g7 (none, [])) (hr := [(g1, .cells 33 2 (ofL (zdc false z)))]) (zeach_fh (LiH g7) (fun x m => (x.1 = none → x.2.length = 0) ∧ x.2.length + m ≤ 1024) (fun a s b => b.2 = a.2 ++ [s]) 96 [g7] gT gU gM h24 hs1 (by omega) (fun x s m hx hs2 => (list1_fh g7 x s hx.1 (by omega)).mono fun r h ⟨y, h1, h2, h3, h4⟩ => ⟨y, h1, ⟨h2, by rw [h1, List.length_append, List.length_singleton]; omega⟩, h3, h4⟩) hz.ref (none, []) (m := 0) ⟨fun _ => rfl, by simp only [List.length_nil]; omega⟩) rfl rfl rfl (by rw [List.append_assoc]; exact List.perm_append_comm (l₁ := [(g7, _), (g1, _)])) (zL (oj hn_g1 (oj hn_g9 (oj hd hn_g7)))) ?_
  rintro _ _ ⟨⟨og7, l7⟩, hrs, hf7, rfl, rfl⟩ _
  have hl7 : l7 = setsZ z.nodes z.root 0 := by have := RS_snoc (g7 := g7) hrs; simpa using this
  subst hl7
  generalize setsZ z.nodes z.root 0 = l7 at *
  have hsl := sort_len hnd
  refine aw_keep [(7, .c (.optr g7 0))] (LiH g7 (og7, l7)) (zB (oj hn_g1 (oj hn_g9 (oj hd hn_g7)))) ((List.sublist_append_right _ _).trans (List.sublist_append_left _ _)) ?_
  cases og7 with
  | none =>
    obtain rfl : l7 = [] := List.length_eq_zero_iff.1 (hf7.1 rfl)
    simp only [LiH, gs, gh, List.length_nil]
    refine yS (oj hn_g1 (oj hn_g9 (oj hd hn_g7))) ?_
    refine yG (oj hn_g1 (oj hn_g9 (oj hd hn_g7))) ?_
    refine aw_callh (hc := []) (hr := [(g7, .cells 22 1 (ofL [.nils]))]) sortz_fh rfl rfl rfl (.refl _) (zL (oj hn_g1 (oj hn_g9 (oj hd hn_g7)))) ?_
    rintro _ _ ⟨rfl, rfl⟩ _
    refine yS (oj hn_g1 (oj hn_g9 (oj hd hn_g7))) ?_
    refine yG (oj hn_g1 (oj hn_g9 (oj hd hn_g7))) ?_
    refine aw_keep [(2, .c .nils), (3, .c .nilI)] [] (zB (oj hn_g1 (oj hn_g9 (oj hd hn_g7)))) (List.nil_sublist _) ?_
    refine aw_conv (t := 2) (v := .c (is true [])) (fun S w u hr => repC_nil hr) rfl ?_
    refine yS (oj hn_g1 (oj hn_g9 (oj hd hn_g7))) ?_
    refine yU (oj hn_g1 (oj hn_g9 (oj hd hn_g7))) ?_
    exact ⟨rfl, rfl⟩
  | some g =>
    simp only [LiH, gs, gh]
    refine aw_nd fun hnk => ?_
    have hng : ((g7 = g) = False ∧ (g = g7) = False) := by
      have h2 : g7 ∉ [g] := (List.nodup_cons.1 hnk).1
      exact ⟨eq_false fun e => h2 (by rw [e]; simp), eq_false fun e => h2 (by rw [e]; simp)⟩
    refine yS (oj hn_g1 (oj hn_g9 (oj hd (oj hn_g7 hng)))) ?_
    refine yG (oj hn_g1 (oj hn_g9 (oj hd (oj hn_g7 hng)))) ?_
    refine aw_callh (hc := [(g, .cells 3 l7.length (isF (zL l7)))]) (hr := [(g7, .cells 22 1 (ofL [.osl g 1 0 l7.length]))]) (sort_fh g l7 hm hnd (by omega)) rfl rfl rfl (List.perm_append_comm (l₁ := [(g7, _)])) (zL (oj hn_g1 (oj hn_g9 (oj hd (oj hn_g7 hng))))) ?_
    rintro _ _ ⟨rfl, rfl⟩ _
    refine yS (oj hn_g1 (oj hn_g9 (oj hd (oj hn_g7 hng)))) ?_
    refine yG (oj hn_g1 (oj hn_g9 (oj hd (oj hn_g7 hng)))) ?_
    refine aw_keep [(2, .c (.osl g 1 0 l7.length)), (3, .c .nilI)] [(g, .cells 3 l7.length (isF (zL (sortN l7))))] (zB (oj hn_g1 (oj hn_g9 (oj hd (oj hn_g7 hng))))) (List.sublist_append_left _ _) ?_
    refine aw_frzT (t := 2) (isF (zL (sortN l7))) (zE (oj hn_g1 (oj hn_g9 (oj hd (oj hn_g7 hng))))) (zE (oj hn_g1 (oj hn_g9 (oj hd (oj hn_g7 hng))))) (by omega) (fun h => by have := (hC g).1 h; simp [Heap.keys] at this) (fun q hq => by rw [Nat.zero_add]) rfl (zE (oj hn_g1 (oj hn_g9 (oj hd (oj hn_g7 hng))))) ?_
    refine yS (oj hn_g1 (oj hn_g9 (oj hd (oj hn_g7 hng)))) ?_
    refine yU (oj hn_g1 (oj hn_g9 (oj hd (oj hn_g7 hng)))) ?_
    refine ⟨?_, rfl⟩
    show AV.tup [.c (.row true 1 l7.length _), _] = AV.tup [.c (.row true 1 (zL (sortN l7)).length _), _]
    rw [zL_len, hsl]
end Go.Proofs.YtcoflhkcpnoaaaaGreat
namespace Go.PN
open Go.AI
structure ToOk (f : FM) (tl : List Int) (k : Nat) : Prop where
  len : tl.length = f.vars.toNat + f.nodes.length
  at' : ∀ a : Int, 0 ≤ a → a < f.vars + k → (belL f).getD a.toNat false = true → tl.getD a.toNat 0 = toR f a
end Go.PN
namespace Go.Proofs.YtcoflhkcpnoaaaaGreat
open Go.AI Go.PN
theorem toOk_set {f : FM} (v0 : 0 ≤ f.vars) {tl : List Int} {k : Nat} (hk : k < f.nodes.length) (h : ToOk f tl k) : ToOk f (tl.set (f.vars.toNat + k) (f.vars + szTo f k)) (k + 1) := by
  have hl := h.len
  refine ⟨by rw [List.length_set]; exact hl, fun a a0 a1 hm => ?_⟩
  by_cases e : a = f.vars + k
  · subst e
    rw [show (f.vars + (k : Int)).toNat = f.vars.toNat + k from by omega, getZset (by omega)]
    unfold toR
    rw [if_neg (by omega), show (f.vars + (k : Int) - f.vars).toNat = k from by omega]
  · rw [getZset' (by omega)]
    exact h.at' a a0 (by omega) hm
theorem toOk_skip {f : FM} (v0 : 0 ≤ f.vars) {tl : List Int} {k : Nat} (h : ToOk f tl k) (hm : (belL f).getD (f.vars.toNat + k) false = false) : ToOk f tl (k + 1) := by
  refine ⟨h.len, fun a a0 a1 ha => ?_⟩
  by_cases e : a = f.vars + k
  · subst e
    rw [show (f.vars + (k : Int)).toNat = f.vars.toNat + k from by omega, hm] at ha
    cases ha
  · exact h.at' a a0 (by omega) ha
attribute [local irreducible] aw Fa Fh DrK
set_option maxRecDepth 100000 in
set_option maxHeartbeats 6400000 in
theorem ftrim_fh (f : FM) (hn : f.nodes.length ≤ 1099511627776) (ha : ArgsOk f) (hc : fcode f = 0) : Fh Tryz.prog 60 [] [.agg (fmc false f)] (fun x h => h = [] ∧ x = .tup [.agg (fmc true (trimF f)), .c .nilI]) := by
  have ok := fr_ok hc
  have v0 := ok.v0
  have v24 := ok.v24
  have n128 := ok.n128
  have t0 := ok.t0
  have t1 := ok.t1
  have z := ieq_t hc
  have hbl : (belL f).length = f.vars.toNat + f.nodes.length := belTo_len f f.nodes.length
  have htop := bel_top ok f.nodes.length
  refine fh_of_body Tryz.func60 rfl rfl (by simp [Tryz.ntmps60]) fun C hC => ?_
  simp only [initS, Nat.reduceAdd]
  refine yG z ?_
  refine yB z fun g1 hn_g1=>?_
  refine yG (oj z hn_g1) ?_
  refine yA (oj z hn_g1) fun g2 hn_g2=>?_
  refine yG (oj z (oj hn_g1 hn_g2)) ?_
  refine aw_callq (fcheck_fa f hn ha (by omega) (by omega)) rfl rfl rfl (zL (oj z (oj hn_g1 hn_g2))) ?_
  refine yS (oj z (oj hn_g1 hn_g2)) ?_
  refine yG (oj z (oj hn_g1 hn_g2)) ?_
  refine yN (oj z (oj hn_g1 hn_g2)) ?_
  refine yG (oj z (oj hn_g1 hn_g2)) ?_
  refine yA (oj z (oj hn_g1 hn_g2)) fun g5 hn_g5=>?_
  refine yG (oj z (oj hn_g1 (oj hn_g2 hn_g5))) ?_
  refine yW (oj z (oj hn_g1 (oj hn_g2 hn_g5))) ?_
  refine yS (oj z (oj hn_g1 (oj hn_g2 hn_g5))) ?_
  refine yG (oj z (oj hn_g1 (oj hn_g2 hn_g5))) ?_
  refine aw_make (n := f.vars.toNat + f.nodes.length) (c := f.vars.toNat + f.nodes.length) (size := 1) (bytes := 8) (z := [.int .i64 0]) rfl rfl rfl (zE (oj z (oj hn_g1 (oj hn_g2 hn_g5)))) (zE (oj z (oj hn_g1 (oj hn_g2 hn_g5)))) rfl (by omega) (zE (oj z (oj hn_g1 (oj hn_g2 hn_g5)))) (zE (oj z (oj hn_g1 (oj hn_g2 hn_g5)))) (by omega) (by omega) (by omega) (by omega) (by omega) fun g6 hn_g6 => ?_
  simp only [Nat.mul_one]
  rw [make_is]
  replace hn_g6 := Heap.ne_of hn_g6
  dsimp only [Heap.ne] at hn_g6
  refine yS (oj z (oj hn_g1 (oj hn_g2 (oj hn_g5 hn_g6)))) ?_
  refine yG (oj z (oj hn_g1 (oj hn_g2 (oj hn_g5 hn_g6)))) ?_
  obtain ⟨V, hV⟩ : ∃ V : Nat, f.vars = V := ⟨f.vars.toNat, by omega⟩
  have hVt : f.vars.toNat = V := by omega
  refine aw_lp (fun x : Nat × List Int => [(1, .c (.optr g1 0)), (2, .c (.optr g2 0)), (5, .c (.optr g5 0)), (6, .c (.osl g6 1 0 (f.vars.toNat + f.nodes.length))), (31, .c (.int .i64 f.vars)), (32, .c (.int .i64 x.1))]) (fun x => [(g6, .cells 3 (f.vars.toNat + f.nodes.length) (isF x.2)), (g5, .cells 50 3 (ofL [.int .i64 f.vars, .nils, .int .i64 0])), (g2, .cells 50 3 (ofL [.int .i64 0, .nils, .int .i64 0])), (g1, .cells 50 3 (ofL (fmc false f)))]) (fun x => x.1 ≤ V ∧ x.2.length = f.vars.toNat + f.nodes.length ∧ ∀ q : Nat, q < x.1 → x.2.getD q 0 = q) (fun x => V - x.1) (0, List.replicate (f.vars.toNat + f.nodes.length) 0) (zB (oj z (oj hn_g1 (oj hn_g2 (oj hn_g5 hn_g6))))) zZ ⟨Nat.zero_le _, by simp, fun q hq => by omega⟩ ?_
  rintro ⟨i, zs⟩ ⟨hi, hzl, hz⟩
  dsimp only at hi hzl hz ⊢
  refine yG (oj z (oj hn_g1 (oj hn_g2 (oj hn_g5 hn_g6)))) ?_
  refine yF (oj z (oj hn_g1 (oj hn_g2 (oj hn_g5 hn_g6)))) (fun hb1=>?_) fun hb1=>?_
  · have hin : i < V := by have := of_decide_eq_true hb1; omega
    refine yG (oj z (oj hn_g1 (oj hn_g2 (oj hn_g5 hn_g6)))) ?_
    refine yW (oj z (oj hn_g1 (oj hn_g2 (oj hn_g5 hn_g6)))) ?_
    refine yS (oj z (oj hn_g1 (oj hn_g2 (oj hn_g5 hn_g6)))) ?_
    rw [updF_is (by omega)]
    refine yG (oj z (oj hn_g1 (oj hn_g2 (oj hn_g5 hn_g6)))) ?_
    refine aw_stop ⟨(i + 1, zs.set i i), by dsimp only; omega, (zB (oj z (oj hn_g1 (oj hn_g2 (oj hn_g5 hn_g6))))), zZ, by dsimp only; omega, by simpa using hzl, fun k hk => ?_⟩
    dsimp only at hk ⊢
    by_cases hki : k = i
    · subst hki; exact getZset (by omega)
    · rw [getZset' hki]; exact hz k (by omega)
  have hin : i = V := by have := of_decide_eq_false hb1; omega
  subst hin
  have to0 : ToOk f zs 0 := ⟨hzl, fun a a0 a1 _ => by
    have := hz a.toNat (by omega)
    rw [this]
    unfold toR
    rw [if_pos (by omega)]; omega⟩
  clear hz hb1
  refine yG (oj z (oj hn_g1 (oj hn_g2 (oj hn_g5 hn_g6)))) ?_
  refine aw_dr 7 ty_mixed (by kernel_rfl) ?_
  refine yG (oj z (oj hn_g1 (oj hn_g2 (oj hn_g5 hn_g6)))) ?_
  refine yD (oj z (oj hn_g1 (oj hn_g2 (oj hn_g5 hn_g6)))) (below_fa f ok) ?_
  refine yG (oj z (oj hn_g1 (oj hn_g2 (oj hn_g5 hn_g6)))) ?_
  rw [show (belL f).length - f.vars.toNat = f.nodes.length from by omega]
  refine aw_lp (fun x : Nat × Option Nat × List Int => [(1, .c (.optr g1 0)), (2, .c (.optr g2 0)), (5, .c (.optr g5 0)), (6, .c (.osl g6 1 0 (f.vars.toNat + f.nodes.length))), (44, .c (.row true 1 f.nodes.length fun j => .bool ((belL f).getD (f.vars.toNat + j) false))), (45, .c (.int .i64 f.nodes.length)), (46, .c (.int .i64 x.1))])
    (fun x => [(g6, .cells 3 (f.vars.toNat + f.nodes.length) (isF x.2.2)), (g5, .cells 50 3 (ofL [.int .i64 f.vars, gs x.2.1 3 (szTo f x.1), .int .i64 0])), (g2, .cells 50 3 (ofL [.int .i64 0, .nils, .int .i64 0])), (g1, .cells 50 3 (ofL (fmc false f)))] ++ gh x.2.1 101 (szTo f x.1 * 3) (fnsF (trTo f x.1)))
    (fun x => x.1 ≤ f.nodes.length ∧ (x.2.1 = none → szTo f x.1 = 0) ∧ ToOk f x.2.2 x.1) (fun x => f.nodes.length - x.1) (0, none, zs) (zB (oj z (oj hn_g1 (oj hn_g2 (oj hn_g5 hn_g6))))) (by simp only [gh, List.append_nil]; exact List.Sublist.refl _) ⟨Nat.zero_le _, fun _ => rfl, to0⟩ ?_
  clear hzl to0
  rintro ⟨k, oN, tl⟩ ⟨hk, hoN, hto⟩
  dsimp only at hk hoN hto ⊢
  have htl := hto.len
  have hsz := szTo_le f k
  simp only [List.cons_append, List.nil_append]
  refine yG (oj z (oj hn_g1 (oj hn_g2 (oj hn_g5 hn_g6)))) ?_
  refine yF (oj z (oj hn_g1 (oj hn_g2 (oj hn_g5 hn_g6)))) (fun h1=>?_) fun h1=>?_
  · have h1' : k < f.nodes.length := by have := of_decide_eq_true h1; omega
    have hln := ok.len h1'
    have hs1 : szTo f (k + 1) = szTo f k + if (belL f).getD (f.vars.toNat + k) false then 1 else 0 := rfl
    have hr1 : trTo f (k + 1) = if (belL f).getD (f.vars.toNat + k) false then trTo f k ++ [⟨(f.nodes.getD k fn0).kind, (f.nodes.getD k fn0).k, (f.nodes.getD k fn0).args.map (toR f)⟩] else trTo f k := rfl
    refine yG (oj z (oj hn_g1 (oj hn_g2 (oj hn_g5 hn_g6)))) ?_
    refine yF (oj z (oj hn_g1 (oj hn_g2 (oj hn_g5 hn_g6)))) (fun hm=>?_) fun hm=>?_
    · have hm' : (belL f).getD (f.vars.toNat + k) false = false := by simpa using hm
      rw [if_neg (by rw [hm']; simp)] at hs1 hr1
      refine yG (oj z (oj hn_g1 (oj hn_g2 (oj hn_g5 hn_g6)))) ?_
      refine aw_stop ⟨(k + 1, oN, tl), by dsimp only; omega, (zB (oj z (oj hn_g1 (oj hn_g2 (oj hn_g5 hn_g6))))), ?_, by dsimp only; omega, by dsimp only; rw [hs1]; exact hoN, toOk_skip v0 hto hm'⟩
      dsimp only
      rw [hs1, hr1]
      exact List.Sublist.refl _
    have hm' : (belL f).getD (f.vars.toNat + k) false = true := by simpa using hm
    rw [if_pos hm'] at hs1 hr1
    have hargs : ∀ j, j < (f.nodes.getD k fn0).args.length → 0 ≤ (f.nodes.getD k fn0).args.getD j 0 ∧ (f.nodes.getD k fn0).args.getD j 0 < f.vars + k ∧ tl.getD ((f.nodes.getD k fn0).args.getD j 0).toNat 0 = toR f ((f.nodes.getD k fn0).args.getD j 0) := fun j hj => by
      obtain ⟨a0, a1⟩ := ok.at h1' hj
      refine ⟨a0, a1, hto.at' _ a0 a1 (bel_arg ok h1' hm' ?_)⟩
      rw [getDZ hj]; exact List.getElem_mem hj
    refine yG (oj z (oj hn_g1 (oj hn_g2 (oj hn_g5 hn_g6)))) ?_
    generalize hx : f.nodes.getD k fn0 = x at *
    refine yA (oj z (oj hn_g1 (oj hn_g2 (oj hn_g5 (oj hn_g6 hx))))) fun g10 hn_g10=>?_
    refine yG (oj z (oj hn_g1 (oj hn_g2 (oj hn_g5 (oj hn_g6 (oj hx hn_g10)))))) ?_
    refine yW (oj z (oj hn_g1 (oj hn_g2 (oj hn_g5 (oj hn_g6 (oj hx hn_g10)))))) ?_
    refine yS (oj z (oj hn_g1 (oj hn_g2 (oj hn_g5 (oj hn_g6 (oj hx hn_g10)))))) ?_
    refine yG (oj z (oj hn_g1 (oj hn_g2 (oj hn_g5 (oj hn_g6 (oj hx hn_g10)))))) ?_
    refine yA (oj z (oj hn_g1 (oj hn_g2 (oj hn_g5 (oj hn_g6 (oj hx hn_g10)))))) fun g11 hn_g11=>?_
    refine yG (oj z (oj hn_g1 (oj hn_g2 (oj hn_g5 (oj hn_g6 (oj hx (oj hn_g10 hn_g11))))))) ?_
    refine yW (oj z (oj hn_g1 (oj hn_g2 (oj hn_g5 (oj hn_g6 (oj hx (oj hn_g10 hn_g11))))))) ?_
    refine yS (oj z (oj hn_g1 (oj hn_g2 (oj hn_g5 (oj hn_g6 (oj hx (oj hn_g10 hn_g11))))))) ?_
    refine yG (oj z (oj hn_g1 (oj hn_g2 (oj hn_g5 (oj hn_g6 (oj hx (oj hn_g10 hn_g11))))))) ?_
    refine aw_lp (fun y : Nat × Option Nat => [(1, .c (.optr g1 0)), (2, .c (.optr g2 0)), (5, .c (.optr g5 0)), (6, .c (.osl g6 1 0 (f.vars.toNat + f.nodes.length))), (44, .c (.row true 1 f.nodes.length fun j => .bool ((belL f).getD (f.vars.toNat + j) false))), (45, .c (.int .i64 f.nodes.length)), (46, .c (.int .i64 k)), (8, .c (.int .i64 k)), (11, .c (.optr g11 0)), (64, .c (is true x.args)), (65, .c (.int .i64 x.args.length)), (66, .c (.int .i64 y.1))])
      (fun y => ((g11, .cells 101 3 (ofL [.int .i64 x.kind, .int .i64 x.k, gs y.2 1 y.1])) :: (g6, .cells 3 (f.vars.toNat + f.nodes.length) (isF tl)) :: (g5, .cells 50 3 (ofL [.int .i64 f.vars, gs oN 3 (szTo f k), .int .i64 0])) :: (g2, .cells 50 3 (ofL [.int .i64 0, .nils, .int .i64 0])) :: (g1, .cells 50 3 (ofL (fmc false f))) :: gh oN 101 (szTo f k * 3) (fnsF (trTo f k))) ++ gh y.2 3 y.1 (isF ((x.args.take y.1).map (toR f))))
      (fun y => y.1 ≤ x.args.length ∧ (y.2 = none → y.1 = 0)) (fun y => x.args.length - y.1) (0, none) (zB (oj z (oj hn_g1 (oj hn_g2 (oj hn_g5 (oj hn_g6 (oj hx (oj hn_g10 hn_g11)))))))) (by
        simp only [gh, gs, List.append_nil]
        exact List.Sublist.cons_cons _ (List.Sublist.cons _ (List.Sublist.refl _))) ⟨Nat.zero_le _, fun _ => rfl⟩ ?_
    rintro ⟨j, oa⟩ ⟨hj, hoa⟩
    dsimp only at hj hoa ⊢
    simp only [List.cons_append]
    refine yG (oj z (oj hn_g1 (oj hn_g2 (oj hn_g5 (oj hn_g6 (oj hx (oj hn_g10 hn_g11))))))) ?_
    refine yF (oj z (oj hn_g1 (oj hn_g2 (oj hn_g5 (oj hn_g6 (oj hx (oj hn_g10 hn_g11))))))) (fun h2=>?_) fun h2=>?_
    · have h2' : j < x.args.length := by have := of_decide_eq_true h2; omega
      obtain ⟨a0, a1, a2⟩ := hargs j h2'
      obtain ⟨i2, hi2⟩ := Int.eq_ofNat_of_zero_le a0
      rw [hi2] at a1
      have a2' := a2
      rw [hi2, Int.toNat_natCast] at a2'
      have htk : x.args.take (j + 1) = x.args.take j ++ [x.args.getD j 0] := by rw [getDZ h2', List.take_succ_eq_append_getElem h2']
      have hlk : ((x.args.take j).map (toR f)).length = j := by rw [List.length_map, List.length_take]; omega
      refine yG (oj z (oj hn_g1 (oj hn_g2 (oj hn_g5 (oj hn_g6 (oj hx (oj hn_g10 (oj hn_g11 hi2)))))))) ?_
      refine aw_drB 7 ty_mixed (by kernel_rfl) ?_
      repeat first | (refine drb_2q true rfl (fun R hR => ?_); simp only [go_sem, z, hn_g1, hn_g2, hn_g5, hn_g6, hx, hn_g10, hn_g11, hi2]; (with_reducible refine hR _ _ ?_ ?_); (focus (((try simp only [inRange]) <;> and_intros <;> first | exact True.intro | omega | trivial); done)); clear hR R) | fail
      refine drb_new rfl (NewX.buildSlice (xs := [.tmp 75]) (cells := [.int .i64 (tl.getD i2 0)]) rfl rfl rfl (zE (oj z (oj hn_g1 (oj hn_g2 (oj hn_g5 (oj hn_g6 (oj hx (oj hn_g10 (oj hn_g11 hi2))))))))) (by refine yS (oj z (oj hn_g1 (oj hn_g2 (oj hn_g5 (oj hn_g6 (oj hx (oj hn_g10 (oj hn_g11 hi2)))))))) ?_; rfl) rfl (by omega) (by omega) (by intro x hx; simp only [List.mem_singleton] at hx; subst hx; exact ⟨rfl, rfl, rfl⟩) rfl (by simp [Op.operands])) (by kernel_rfl) ?_
      refine yS (oj z (oj hn_g1 (oj hn_g2 (oj hn_g5 (oj hn_g6 (oj hx (oj hn_g10 (oj hn_g11 hi2)))))))) ?_
      refine drb_nil fun γ => ?_
      refine yS (oj z (oj hn_g1 (oj hn_g2 (oj hn_g5 (oj hn_g6 (oj hx (oj hn_g10 (oj hn_g11 hi2)))))))) ?_
      rw [a2']
      generalize γ 6 = gt
      refine aw_push2 (e := 3) (size := 1) (bytes := 8) (n := j) (z := [.int .i64 0]) (og := oa) (f := isF ((x.args.take j).map (toR f))) (pre := (g11, .cells 101 3 (ofL [.int .i64 x.kind, .int .i64 x.k, gs oa 1 j])) :: (g6, .cells 3 (f.vars.toNat + f.nodes.length) (isF tl)) :: (g5, .cells 50 3 (ofL [.int .i64 f.vars, gs oN 3 (szTo f k), .int .i64 0])) :: (g2, .cells 50 3 (ofL [.int .i64 0, .nils, .int .i64 0])) :: (g1, .cells 50 3 (ofL (fmc false f))) :: gh oN 101 (szTo f k * 3) (fnsF (trTo f k))) (f' := isF ((x.args.take (j + 1)).map (toR f))) (v := .c (.int .i64 (toR f i2))) rfl rfl rfl (zE (oj z (oj hn_g1 (oj hn_g2 (oj hn_g5 (oj hn_g6 (oj hx (oj hn_g10 (oj hn_g11 hi2))))))))) (zE (oj z (oj hn_g1 (oj hn_g2 (oj hn_g5 (oj hn_g6 (oj hx (oj hn_g10 (oj hn_g11 hi2))))))))) rfl (by omega) (by omega) (zE (oj z (oj hn_g1 (oj hn_g2 (oj hn_g5 (oj hn_g6 (oj hx (oj hn_g10 (oj hn_g11 hi2))))))))) (zE (oj z (oj hn_g1 (oj hn_g2 (oj hn_g5 (oj hn_g6 (oj hx (oj hn_g10 (oj hn_g11 hi2))))))))) hoa (by rfl) (by rfl) (by simp only [Nat.mul_one, List.cons_append]; rfl) (by unfold maxLen; omega) (by omega) (by rw [htk, List.map_append, hi2]; exact is_push hlk _) fun g hn_g => ?_
      refine yS (oj z (oj hn_g1 (oj hn_g2 (oj hn_g5 (oj hn_g6 (oj hx (oj hn_g10 (oj hn_g11 hi2)))))))) ?_
      try simp only [List.cons_append, Nat.mul_one]
      refine yH (oj z (oj hn_g1 (oj hn_g2 (oj hn_g5 (oj hn_g6 (oj hx (oj hn_g10 (oj hn_g11 hi2)))))))) ?_
      refine yW (oj z (oj hn_g1 (oj hn_g2 (oj hn_g5 (oj hn_g6 (oj hx (oj hn_g10 (oj hn_g11 hi2)))))))) ?_
      refine yS (oj z (oj hn_g1 (oj hn_g2 (oj hn_g5 (oj hn_g6 (oj hx (oj hn_g10 (oj hn_g11 hi2)))))))) ?_
      refine yG (oj z (oj hn_g1 (oj hn_g2 (oj hn_g5 (oj hn_g6 (oj hx (oj hn_g10 (oj hn_g11 hi2)))))))) ?_
      refine aw_stop ⟨(j + 1, some g), by dsimp only; omega, (zB (oj z (oj hn_g1 (oj hn_g2 (oj hn_g5 (oj hn_g6 (oj hx (oj hn_g10 (oj hn_g11 hi2))))))))), ?_, by dsimp only; omega, fun e => by cases e⟩
      exact List.Sublist.refl _
    · have h2' : j = x.args.length := by have := of_decide_eq_false h2; omega
      subst h2'
      rw [List.take_length]
      refine aw_perm (h' := (g11, .cells 101 3 (ofL [.int .i64 x.kind, .int .i64 x.k, gs oa 1 x.args.length])) :: (gh oa 3 (x.args.length * 1) (isF (x.args.map (toR f))) ++ ((g6, .cells 3 (f.vars.toNat + f.nodes.length) (isF tl)) :: (g5, .cells 50 3 (ofL [.int .i64 f.vars, gs oN 3 (szTo f k), .int .i64 0])) :: (g2, .cells 50 3 (ofL [.int .i64 0, .nils, .int .i64 0])) :: (g1, .cells 50 3 (ofL (fmc false f))) :: gh oN 101 (szTo f k * 3) (fnsF (trTo f k))))) (by
        rw [Nat.mul_one]
        exact List.Perm.cons _ (List.perm_append_comm (l₁ := (g6, .cells 3 (f.vars.toNat + f.nodes.length) (isF tl)) :: (g5, .cells 50 3 (ofL [.int .i64 f.vars, gs oN 3 (szTo f k), .int .i64 0])) :: (g2, .cells 50 3 (ofL [.int .i64 0, .nils, .int .i64 0])) :: (g1, .cells 50 3 (ofL (fmc false f))) :: gh oN 101 (szTo f k * 3) (fnsF (trTo f k))))) ?_
      refine aw_frzG (j0 := 2) (og := oa) (s := 1) (n := x.args.length) (f' := ofL [.int .i64 x.kind, .int .i64 x.k, is true (x.args.map (toR f))]) rfl (by show CV.row true 1 (x.args.map (toR f)).length _ = _; rw [List.length_map]) (fun j hj hne => ?_) hoa (fun g e => ?_) ?_
      · match j, hj, hne with
        | 0, _, _ => rfl
        | 1, _, _ => rfl
        | 2, _, hne => exact absurd rfl hne
      · exact fun h => by have := (hC g).1 h; simp [Heap.keys] at this
      have hvk : f.vars + (k : Int) = ((i + k : Nat) : Int) := by omega
      have hlen := lenCV_gs (s := 3) hoN
      repeat first|apply wa1|apply wa2|apply wa3|apply wa4|apply wa5 rfl|apply wa6|apply wa7|(refine wb1 rfl fun R r=>?_;simp only[go_sem, z, hn_g1, hn_g2, hn_g5, hn_g6, hx, hn_g10, hn_g11, hvk, ↓hlen];with_reducible refine r _ _ ?_;clear r R)
      refine aw_store rfl rfl rfl rfl (by simp only[go_sem, z, hn_g1, hn_g2, hn_g5, hn_g6, hx, hn_g10, hn_g11, hvk, ↓hlen]<;>rfl) (by simp only[go_sem, z, hn_g1, hn_g2, hn_g5, hn_g6, hx, hn_g10, hn_g11, hvk, ↓hlen]<;>rfl) (by simp only[go_sem, z, hn_g1, hn_g2, hn_g5, hn_g6, hx, hn_g10, hn_g11, hvk, ↓hlen]<;>rfl) (by simp only[go_sem, z, hn_g1, hn_g2, hn_g5, hn_g6, hx, hn_g10, hn_g11, hvk, ↓hlen]<;>rfl) (fun _ e => by cases e) (by first | rfl | exact solid_gs3 | exact solid_gs2) (by rfl) (by first|omega|simp) rfl ?_
      (try simp only[go_sem, z, hn_g1, hn_g2, hn_g5, hn_g6, hx, hn_g10, hn_g11, hvk, ↓hlen])
      rw [updF_is (by omega)]
      repeat first|apply wa1|apply wa2|apply wa3|apply wa4|apply wa5 rfl|apply wa6|apply wa7|(refine wb1 rfl fun R r=>?_;simp only[go_sem, z, hn_g1, hn_g2, hn_g5, hn_g6, hx, hn_g10, hn_g11, hvk, ↓hlen];with_reducible refine r _ _ ?_;clear r R)
      refine aw_push (pre := [(g11, .cells 101 3 (ofL [.int .i64 x.kind, .int .i64 x.k, is true (x.args.map (toR f))])), (g6, .cells 3 (f.vars.toNat + f.nodes.length) (isF (tl.set (i + k) (f.vars + szTo f k)))), (g5, .cells 50 3 (ofL [.int .i64 f.vars, gs oN 3 (szTo f k), .int .i64 0])), (g2, .cells 50 3 (ofL [.int .i64 0, .nils, .int .i64 0])), (g1, .cells 50 3 (ofL (fmc false f)))]) rfl rfl rfl rfl rfl rfl rfl (by simp only[go_sem, z, hn_g1, hn_g2, hn_g5, hn_g6, hx, hn_g10, hn_g11, hvk, ↓hlen]<;>rfl) (by simp only[go_sem, z, hn_g1, hn_g2, hn_g5, hn_g6, hx, hn_g10, hn_g11, hvk, ↓hlen]<;>rfl) (by rfl) (by omega) (by omega) (by simp only[go_sem, z, hn_g1, hn_g2, hn_g5, hn_g6, hx, hn_g10, hn_g11, hvk, ↓hlen]<;>rfl) (by omega) (by exact hoN) (by simp only[go_sem, z, hn_g1, hn_g2, hn_g5, hn_g6, hx, hn_g10, hn_g11, hvk, ↓hlen]<;>rfl) (by rfl) (by rfl) (by first | rfl | simp only [Nat.mul_one, List.nil_append, List.cons_append] <;> rfl) (by unfold maxLen; omega) (by omega) (by exact lf_push (xs := trTo f k) (trTo_len f k) (⟨x.kind, x.k, x.args.map (toR f)⟩ : FN) (by omega)) fun g hn_g => ?_
      replace hn_g := Heap.ne_of hn_g
      first | dsimp only [Heap.ne, gh] at hn_g | dsimp only [Heap.ne] at hn_g | skip
      (try simp only[go_sem, z, hn_g1, hn_g2, hn_g5, hn_g6, hx, hn_g10, hn_g11, hvk, ↓hlen, hn_g])
      repeat first|apply wa1|apply wa2|apply wa3|apply wa4|apply wa5 rfl|apply wa6|apply wa7|(refine wb1 rfl fun R r=>?_;simp only[go_sem, z, hn_g1, hn_g2, hn_g5, hn_g6, hx, hn_g10, hn_g11, hvk, ↓hlen, hn_g];with_reducible refine r _ _ ?_;clear r R)
      refine aw_store rfl rfl rfl rfl (by simp only[go_sem, z, hn_g1, hn_g2, hn_g5, hn_g6, hx, hn_g10, hn_g11, hvk, ↓hlen, hn_g]<;>rfl) (by simp only[go_sem, z, hn_g1, hn_g2, hn_g5, hn_g6, hx, hn_g10, hn_g11, hvk, ↓hlen, hn_g]<;>rfl) (by simp only[go_sem, z, hn_g1, hn_g2, hn_g5, hn_g6, hx, hn_g10, hn_g11, hvk, ↓hlen, hn_g]<;>rfl) (by simp only[go_sem, z, hn_g1, hn_g2, hn_g5, hn_g6, hx, hn_g10, hn_g11, hvk, ↓hlen, hn_g]<;>rfl) (fun _ e => by cases e) (by first | rfl | exact solid_gs3 | exact solid_gs2) (by rfl) (by first|omega|simp) rfl ?_
      (try simp only[go_sem, z, hn_g1, hn_g2, hn_g5, hn_g6, hx, hn_g10, hn_g11, hvk, ↓hlen, hn_g])
      repeat first|apply wa1|apply wa2|apply wa3|apply wa4|apply wa5 rfl|apply wa6|apply wa7|(refine wb1 rfl fun R r=>?_;simp only[go_sem, z, hn_g1, hn_g2, hn_g5, hn_g6, hx, hn_g10, hn_g11, hvk, ↓hlen, hn_g];with_reducible refine r _ _ ?_;clear r R)
      refine aw_stop ⟨(k + 1, some g, tl.set (i + k) (f.vars + szTo f k)), by dsimp only; omega, (by simp only[go_sem, z, hn_g1, hn_g2, hn_g5, hn_g6, hx, hn_g10, hn_g11, hvk, ↓hlen, hn_g]<;>and_intros<;>first|exact True.intro|(with_reducible rfl)|exact c_int (by omega)|rfl), ?_, by dsimp only; omega, fun e => (by cases e), ?_⟩
      · dsimp only
        rw [hs1, hr1]
        exact List.Sublist.cons _ (List.Sublist.refl _)
      · have := toOk_set v0 h1' hto
        rwa [hVt] at this
  · have h1' : k = f.nodes.length := by have := of_decide_eq_false h1; omega
    subst h1'
    obtain ⟨tp, htp⟩ := Int.eq_ofNat_of_zero_le t0
    have htt := hto.at' f.top t0 t1 htop
    rw [htp, Int.toNat_natCast, ← htp] at htt
    refine yG (oj z (oj hn_g1 (oj hn_g2 (oj hn_g5 (oj hn_g6 htp))))) ?_
    refine yW (oj z (oj hn_g1 (oj hn_g2 (oj hn_g5 (oj hn_g6 htp))))) ?_
    refine yS (oj z (oj hn_g1 (oj hn_g2 (oj hn_g5 (oj hn_g6 htp))))) ?_
    rw [htt]
    refine aw_perm (h' := (g5, .cells 50 3 (ofL [.int .i64 f.vars, gs oN 3 (szTo f f.nodes.length), .int .i64 (toR f f.top)])) :: (gh oN 101 (szTo f f.nodes.length * 3) (fnsF (trTo f f.nodes.length)) ++ [(g6, .cells 3 (f.vars.toNat + f.nodes.length) (isF tl)), (g2, .cells 50 3 (ofL [.int .i64 0, .nils, .int .i64 0])), (g1, .cells 50 3 (ofL (fmc false f)))])) ((List.Perm.swap _ _ _).trans (List.Perm.cons _ (List.perm_append_comm (l₁ := ([(g6, .cells 3 (f.vars.toNat + f.nodes.length) (isF tl)), (g2, .cells 50 3 (ofL [.int .i64 0, .nils, .int .i64 0])), (g1, .cells 50 3 (ofL (fmc false f)))] : Heap))))) ?_
    refine aw_frzG (j0 := 1) (og := oN) (s := 3) (n := szTo f f.nodes.length) (f' := ofL (fmc true (trimF f))) rfl (by show CV.row true 3 (trTo f f.nodes.length).length _ = _; rw [trTo_len]; rfl) (fun j hj hne => ?_) hoN (fun g e => ?_) ?_
    · match j, hj, hne with
      | 0, _, _ => rfl
      | 1, _, hne => exact absurd rfl hne
      | 2, _, _ => rfl
    · exact fun h => by have := (hC g).1 h; simp [Heap.keys] at this
    refine yG (oj z (oj hn_g1 (oj hn_g2 (oj hn_g5 (oj hn_g6 htp))))) ?_
    refine yW (oj z (oj hn_g1 (oj hn_g2 (oj hn_g5 (oj hn_g6 htp))))) ?_
    refine yS (oj z (oj hn_g1 (oj hn_g2 (oj hn_g5 (oj hn_g6 htp))))) ?_
    refine yG (oj z (oj hn_g1 (oj hn_g2 (oj hn_g5 (oj hn_g6 htp))))) ?_
    refine aw_rethw (h' := []) rfl (List.nil_sublist _) (fun R hR => ?_)
    simp only [go_sem, z, hn_g1, hn_g2, hn_g5, hn_g6, htp]
    refine hR _ rfl ?_
    exact ⟨rfl, rfl⟩
end Go.Proofs.YtcoflhkcpnoaaaaGreat
namespace Go.AI
section
variable {E : Env} {K : List It} {σ σ' : Sl} {h : Heap} {all rest : List Oper} {o : Oper}
def fnB (f : FuncId) (g : Nat) : CV := .raw (.func (.func f) #[.pointer (some ⟨g, 0, none⟩)] #[])
theorem aw_makeFuncB {f : FuncId} {x : Operand} {g : Nat} (hop : o.op = .makeFunc (.func f) #[x] #[]) (hw : wantA all σ o = some true) (hd : dstOk E.N o.dst = true) (hx : ev σ x = .c (.optr g 0))
    (k : aw E (.ops all rest :: K) (σ.setO o.dst (.c (fnB f g))) h) : aw E (.ops all (o :: rest) :: K) σ h := by
  refine aw_step hw (fun a w s => ?_) k
  have h1 := ev_rep s x
  rw [hx] at h1
  have h1' : a.eval x = .pointer (some ⟨g, 0, none⟩) := h1
  refine ⟨.func (.func f) #[.pointer (some ⟨g, 0, none⟩)] #[], w, .inl ?_, s.put hd rfl⟩
  have h2 : Array.map a.eval #[x] = #[.pointer (some ⟨g, 0, none⟩)] := by simp [h1']
  have h3 : Array.map a.eval #[] = #[] := by simp
  simp only [execOp, hop, Instr.makeFunc, h2, h3]
  rfl
theorem aw_callhB {f : FuncId} {x : Operand} {g : Nat} {xs : List Operand} {ts : Array TypeId} {hc hr : Heap} {args : List AV} {Q : AV → Heap → Prop} (hf : Fh E.P f hc (.c (.optr g 0) :: args) Q) (hop : o.op = .call { callee := .value x, args := xs.toArray, argTypes := ts }) (hw : wantA all σ o = some true) (hd : dstOk E.N o.dst = true) (hx : ev σ x = .c (fnB f g))
    (hp : h.Perm (hc ++ hr)) (le : LeA [] (xs.map (ev σ)) args) (k : ∀ r h', Q r h' → (∀ g ∈ h'.keys, g ∉ hr.keys) → aw E (.ops all rest :: K) (σ.setO o.dst r) (h' ++ hr)) : aw E (.ops all (o :: rest) :: K) σ h := fun a w s => by
  show wpList _ _ _ _ _ _
  unfold wpList
  rw [if_pos (s.wanted hw)]
  refine .inl ?_
  unfold Oper.wp
  have hv : a.eval x = .func (.func f) #[.pointer (some ⟨g, 0, none⟩)] #[] := by
    have := ev_rep s x
    rw [hx] at this
    exact this
  have hrun : (execOp a.eval o).run E.P w = .ok (.enter f (.pointer (some ⟨g, 0, none⟩) :: xs.map a.eval).toArray) w := by
    simp only [execOp, hop, resolve, hv, Deferred.ofValue, invoke, Sem.run_bind]
    have := hf.1.run (#[.pointer (some ⟨g, 0, none⟩)] ++ (Array.map a.eval xs.toArray) ++ #[]) w
    simp only [Sem.run_pure, Result.andThen_ok]
    rw [show ((Value.pointer (some ⟨g, 0, none⟩) :: xs.map a.eval).toArray) = (#[.pointer (some ⟨g, 0, none⟩)] ++ (Array.map a.eval xs.toArray) ++ #[]) from by simp]
    exact this
  rw [hrun]
  show Calls _ _ _ _ _
  refine (hf.use s hp (show RepT (Stab E.C h w) w (.c (.optr g 0) :: args) (Value.pointer (some ⟨g, 0, none⟩) :: xs.map a.eval) from ⟨rfl, LeA.rep0 s le⟩)).mono ?_
  rintro e w' ⟨v, r, h', rfl, hq, hfr, s', hrep⟩
  exact k r h' hq hfr _ _ (s'.put hd hrep)
end
end Go.AI
namespace Go.Proofs.YtcoflhkcpnoaaaaGreat
open Go.AI Go.PN
attribute [local irreducible] aw Fa Fh DrK
def OpOk (f : FuncId) (g : Bool → Bool → Bool) : Prop := ∀ (gT gU gM : Nat) {o pl : List Int} (_ : OdOk o pl) {og : Option Nat} {ns : List DN} {mm : Mem3} (_ : TS o og ns mm) (_ : ns.length + 2 ^ (o.length + 2) ≤ 1000000000) {a b : Int} (_ : RefOk ns a) (_ : RefOk ns b),
  Fh Tryz.prog f (THp gT gU gM og o pl ns mm) [.c (.optr gT 0), .c (.int .i64 a), .c (.int .i64 b)] (OpQ gT gU gM o pl ns (2 ^ (o.length + 2)) fun s => g (evalD ns s a) (evalD ns s b))
theorem OpQ.more {gT gU gM : Nat} {o pl : List Int} {ns : List DN} {n m : Nat} {f : Nat → Bool} (h : n ≤ m) {x : AV} {hp : Heap} : OpQ gT gU gM o pl ns n f x hp → OpQ gT gU gM o pl ns m f x hp := by
  rintro ⟨og', ns', mm', r, h1, h2, h3⟩
  exact ⟨og', ns', mm', r, h1, ⟨h2.tab, h2.pre, by have := h2.len; omega⟩, h3⟩
theorem and_opok : OpOk 105 fun a b => a && b := fun gT gU gM o pl ho og ns mm hs hn a b ha hb => by
  have hB : 2 ^ (o.length + 2) = 2 ^ (o.length + 1) * 2 := Nat.pow_succ ..
  exact (tand_fh gT gU gM ho hs (by omega) ha hb).mono fun x h => OpQ.more (by omega)
theorem or_opok : OpOk 106 fun a b => a || b := fun gT gU gM o pl ho og ns mm hs hn a b ha hb => by
  have hB : 2 ^ (o.length + 2) = 2 ^ (o.length + 1) * 2 := Nat.pow_succ ..
  exact (tor_fh gT gU gM ho hs (by omega) ha hb).mono fun x h => OpQ.more (by omega)
theorem xor_opok : OpOk 107 fun a b => a != b := fun gT gU gM o pl ho og ns mm hs hn a b ha hb => by
  have hB : 2 ^ (o.length + 2) = 2 ^ (o.length + 1) * 2 := Nat.pow_succ ..
  exact (txor_fh gT gU gM ho hs (by omega) ha hb).mono fun x h => OpQ.more (by omega)
set_option maxRecDepth 100000 in
set_option maxHeartbeats 3200000 in
theorem join_fh {F : FuncId} {g : Bool → Bool → Bool} (hF : OpOk F g) (gT gU gM : Nat) {o pl : List Int} (ho : OdOk o pl) {og : Option Nat} {ns : List DN} {mm : Mem3} (hs : TS o og ns mm) (refs : List Int) (hl : refs.length ≤ 1000) (hn : ns.length + refs.length * 2 ^ (o.length + 2) ≤ 1000000000) {a : Int} (ha : RefOk ns a) (hr : ∀ r ∈ refs, RefOk ns r) :
    Fh Tryz.prog 104 (THp gT gU gM og o pl ns mm) [.c (is true refs), .c (.int .i64 a), .c (fnB F gT)] (OpQ gT gU gM o pl ns (refs.length * 2 ^ (o.length + 2)) fun s => refs.foldl (fun b r => g b (evalD ns s r)) (evalD ns s a)) := by
  refine fh_of_body Tryz.func104 rfl rfl (by simp [Tryz.ntmps104]) fun C hC => ?_
  simp only [initS, Nat.reduceAdd]
  refine xG ?_
  refine aw_lp (fun y : Nat × Option Nat × List DN × Mem3 × Int => [(1, .c (.int .i64 y.2.2.2.2)), (2, .c (fnB F gT)), (9, .c (is true refs)), (10, .c (.int .i64 refs.length)), (11, .c (.int .i64 y.1))]) (fun y => THp gT gU gM y.2.1 o pl y.2.2.1 y.2.2.2.1)
    (fun y => y.1 ≤ refs.length ∧ TS o y.2.1 y.2.2.1 y.2.2.2.1 ∧ Later o ns y.2.2.1 (y.1 * 2 ^ (o.length + 2)) ∧ RefOk y.2.2.1 y.2.2.2.2 ∧ ∀ s, evalD y.2.2.1 s y.2.2.2.2 = (refs.take y.1).foldl (fun b r => g b (evalD ns s r)) (evalD ns s a)) (fun y => refs.length - y.1) (0, og, ns, mm, a) eB zZ ⟨Nat.zero_le _, hs, Later.refl hs.tab _, ha, fun s => rfl⟩ ?_
  rintro ⟨j, og1, ns1, mm1, a1⟩ ⟨hj, h1, h2, h3, h4⟩
  dsimp only at hj h1 h2 h3 h4 ⊢
  refine xG ?_
  refine xF (fun hb=>?_) fun hb=>?_
  · have hb' : j < refs.length := by have := of_decide_eq_true hb; omega
    have hmul : (j + 1) * 2 ^ (o.length + 2) = j * 2 ^ (o.length + 2) + 2 ^ (o.length + 2) := Nat.succ_mul ..
    have hle : (j + 1) * 2 ^ (o.length + 2) ≤ refs.length * 2 ^ (o.length + 2) := Nat.mul_le_mul_right _ hb'
    have hl2 := h2.len
    have hrj : RefOk ns (refs.getD j 0) := by rw [getDZ hb']; exact hr _ (List.getElem_mem hb')
    refine xG ?_
    refine aw_callhB (hr := []) (hF gT gU gM ho h1 (by omega) h3 (h2.ref hrj)) rfl rfl rfl eE (by rw [List.append_nil]) eL ?_
    rintro _ _ ⟨og2, ns2, mm2, r, e1, e2, e3, e4, rfl, rfl⟩ _
    rw [List.append_nil]
    refine xS ?_
    refine xG ?_
    refine aw_stop ⟨(j + 1, og2, ns2, mm2, r), by dsimp only; omega, eB, zZ, by dsimp only; omega, e1, h2.trans e2 (by dsimp only; omega), e3, fun s => ?_⟩
    dsimp only
    rw [e4]
    dsimp only
    rw [h4, h2.eval hs.tab hrj, List.take_succ_eq_append_getElem hb', List.foldl_append, getDZ hb']
    rfl
  · have hb' : j = refs.length := by have := of_decide_eq_false hb; omega
    subst hb'
    rw [List.take_length] at h4
    refine xG ?_
    refine xU ?_
    exact ⟨og1, ns1, mm1, a1, h1, h2, h3, h4, rfl, rfl⟩
end Go.Proofs.YtcoflhkcpnoaaaaGreat
