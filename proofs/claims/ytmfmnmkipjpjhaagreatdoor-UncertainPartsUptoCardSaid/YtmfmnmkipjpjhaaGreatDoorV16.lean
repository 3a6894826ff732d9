/- Texts of one proof, laid one behind the other by a program (merge.py): Shan2, POrd, Ord, Dia1, Dia2, Dia3, Shan3, AiMap, AiFun, Shan4, Dia4, Dia5, Dia6, Dia7, PLaw. -/
import Derived.Test.YtmfmnmkipjpjhaaGreatDoorV15
import Derived.Test.YtmfmnmkipjpjhaaGreatDoorV02
import Derived.Test.YtmfmnmkipjpjhaaGreatDoorV08
import Derived.MapKept
import Derived.Carry
import Derived.Laws.Cover3
set_option linter.unusedSimpArgs false
set_option linter.unusedVariables false
/- faultlineref15: value, Value, Table; faultlineref37: State, Table, Probability. -/
namespace Go.Proofs.YtmfmnmkipjpjhaaGreatDoor
open Go.AI Go.PN
attribute [local irreducible] aw Fa Fh DrK
set_option maxHeartbeats 800000 in
theorem state_fa (ps : List RD) (s : Nat) (hs : s < 2 ^ ps.length) (L : Nat) (hL : 1 ≤ L) (hL2 : L ≤ 1000000) (hp : ∀ r ∈ ps, r.wf L) (hl : ps.length ≤ 30) :
    Fa Tryz.prog 124 [.c (rats false ps), .c (.int .i64 s)] (.agg (rdc (rd (stQ ps s)))) := by
  have h63 := pow_lt_63 (n := ps.length) (by omega)
  have e1 := shl_one ps.length (by omega)
  have e2 : ((2 ^ ps.length : Nat) : Int) - 1 - (s : Int) = ((2 ^ ps.length - 1 - s : Nat) : Int) := by omega
  refine fa_of_body Tryz.func124 rfl rfl (by simp [Tryz.ntmps124]) fun C hC => ?_
  simp only [initS, Nat.reduceAdd]
  refine xG ?_
  refine xA fun g4 hn_g4=>?_
  refine yG (oj hn_g4 e1) ?_
  rw [e2]
  refine yC (oj hn_g4 e1) (weightR_fa s (2 ^ ps.length - 1 - s) ps ?_ ?_ L hL hL2 hp ?_) ?_
  · omega
  · omega
  · omega
  refine yG (oj hn_g4 e1) ?_
  refine yW (oj hn_g4 e1) ?_
  refine yS (oj hn_g4 e1) ?_
  refine yG (oj hn_g4 e1) ?_
  refine yT hC (oj hn_g4 e1) ?_
  exact ler_rd rfl
set_option maxHeartbeats 1600000 in
theorem table37_fa (tb : List Bool) (ps : List RD) (L : Nat) (hL : 1 ≤ L) (hL2 : L ≤ 1000) (hp : ∀ r ∈ ps, r.wf L) (hl : ps.length ≤ 12) (ht : tb.length = 2 ^ ps.length) :
    Fa Tryz.prog 80 [.c (bs false tb), .c (rats false ps)] (.agg (rdc (rd (sumQ ps tb tb.length)))) := by
  have hp12 : 2 ^ ps.length ≤ 4096 := by
    have h3 : 2 ^ ps.length ≤ 2 ^ 12 := Nat.pow_le_pow_right (by omega) hl
    have h4 : (2 : Nat) ^ 12 = 4096 := by decide
    omega
  refine fa_of_body Tryz.func80 rfl rfl (by simp [Tryz.ntmps80]) fun C hC => ?_
  simp only [initS, Nat.reduceAdd]
  refine xG ?_
  refine xA fun g4 hn_g4=>?_
  refine yG hn_g4 ?_
  refine yA hn_g4 fun g5 hn_g5=>?_
  refine yG (oj hn_g4 hn_g5) ?_
  refine yW (oj hn_g4 hn_g5) ?_
  refine yS (oj hn_g4 hn_g5) ?_
  refine yG (oj hn_g4 hn_g5) ?_
  refine aw_convR zero_rd ?_
  refine aw_lp (fun k : Nat => [(0, .c (bs false tb)), (1, .c (rats false ps)), (4, .c (.optr g4 0)), (5, .c (.optr g5 0)), (6, .c (.int .i64 k))]) (fun k => [(g5, .cells 30 3 (ofL (rdc (rd (sumQ ps tb k))))), (g4, .cells 30 3 (ofL [.bool false, .nils, .nils]))])
    (fun k => k ≤ tb.length) (fun k => tb.length - k) 0 (zB (oj hn_g4 hn_g5)) zZ (Nat.zero_le _) ?_
  rintro k hk
  have hfk := fits_sum (tb := tb) hL hp k
  have hbk : ((2 * L + 2) * ps.length + 2) * k + 1 ≤ 200000000 := by
    have h1 := Nat.mul_le_mul (show 2 * L + 2 ≤ 2002 from by omega) (show ps.length ≤ 12 from hl)
    have h2 := Nat.mul_le_mul (show (2 * L + 2) * ps.length + 2 ≤ 24026 from by omega) (show k ≤ 4096 from by omega)
    omega
  refine yG (oj hn_g4 hn_g5) ?_
  refine yF (oj hn_g4 hn_g5) (fun hb=>?_) fun hb=>?_
  · have hin : k < tb.length := by have := of_decide_eq_true hb; omega
    have hfs : fits (stQ ps k) 100000 := by
      refine fits_mono (fits_wt hL hp _) ?_
      have h1 := Nat.mul_le_mul (show 2 * L + 2 ≤ 2002 from by omega) (show ps.length ≤ 12 from hl)
      omega
    refine yG (oj hn_g4 hn_g5) ?_
    refine yF (oj hn_g4 hn_g5) (fun hc=>?_) fun hc=>?_
    · refine yG (oj hn_g4 hn_g5) ?_
      refine aw_dr 5 ty_mixed (by kernel_rfl) ?_
      refine yG (oj hn_g4 hn_g5) ?_
      refine yD (oj hn_g4 hn_g5) (state_fa ps k ?_ L hL ?_ hp ?_) ?_
      · omega
      · omega
      · omega
      refine yG (oj hn_g4 hn_g5) ?_
      refine yD (oj hn_g4 hn_g5) (sadd_fa _ _ ?_ ?_) ?_
      · exact rd_wf (fits_mono hfk (by omega))
      · exact rd_wf (fits_mono hfs (by omega))
      rw [rd_q, rd_q]
      refine yG (oj hn_g4 hn_g5) ?_
      refine yW (oj hn_g4 hn_g5) ?_
      refine yS (oj hn_g4 hn_g5) ?_
      refine yG (oj hn_g4 hn_g5) ?_
      have e : sumQ ps tb (k + 1) = sumQ ps tb k + stQ ps k := by rw [sumQ, if_pos hc]
      rw [← e]
      exact aw_stop ⟨k + 1, by omega, (zB (oj hn_g4 hn_g5)), zZ, by omega⟩
    · refine yG (oj hn_g4 hn_g5) ?_
      have e : sumQ ps tb (k + 1) = sumQ ps tb k := by rw [sumQ, if_neg (by rw [hc]; simp)]
      rw [← e]
      exact aw_stop ⟨k + 1, by omega, (zB (oj hn_g4 hn_g5)), zZ, by omega⟩
  · have hin : k = tb.length := by have := of_decide_eq_false hb; omega
    subst hin
    refine yG (oj hn_g4 hn_g5) ?_
    refine yW (oj hn_g4 hn_g5) ?_
    refine yS (oj hn_g4 hn_g5) ?_
    refine yG (oj hn_g4 hn_g5) ?_
    refine yT hC (oj hn_g4 hn_g5) ?_
    exact ler_rd rfl
end Go.Proofs.YtmfmnmkipjpjhaaGreatDoor

/- Orders: the first error, places. No program in sight. -/
namespace Go.PN
def oscan (vars : Int) (seen : List Int) : List Int → Int
  | [] => 0
  | x :: xs => if x < 0 ∨ vars ≤ x then 3 else if x ∈ seen then 6 else oscan vars (seen ++ [x]) xs
/-- The number of the first error of an order. -/
def ocode (o : List Int) (vars : Int) : Int := if vars < 0 ∨ 24 < vars then 3 else if (o.length : Int) ≠ vars then 11 else oscan vars [] o
def placeZ (l : List Int) (n : Int) : Int := if n ∈ l then (l.idxOf n : Int) else -1

theorem getDZ {xs : List Int} {i : Nat} (h : i < xs.length) : xs.getD i 0 = xs[i] := by
  rw [List.getD_eq_getElem?_getD, List.getElem?_eq_getElem h]; rfl
theorem oscan_step {vars : Int} {o : List Int} {i : Nat} (h : i < o.length) : oscan vars (o.take i) (o.drop i) = if o.getD i 0 < 0 ∨ vars ≤ o.getD i 0 then 3 else if o.getD i 0 ∈ o.take i then 6 else oscan vars (o.take (i + 1)) (o.drop (i + 1)) := by
  rw [List.drop_eq_getElem_cons h, oscan, getDZ h, List.take_succ_eq_append_getElem h]
/-- What an order without error is. -/
structure Perm0 (o : List Int) : Prop where
  range : ∀ x ∈ o, 0 ≤ x ∧ x < o.length
  nodup : o.Nodup
theorem oscan_ok {vars : Int} : ∀ (o seen : List Int), oscan vars seen o = 0 → seen.Nodup → (∀ x ∈ o, 0 ≤ x ∧ x < vars) ∧ (seen ++ o).Nodup
  | [], seen, _, hs => ⟨by simp, by simpa using hs⟩
  | x :: o, seen, h, hs => by
    rw [oscan] at h
    split at h
    · cases h
    · split at h
      · cases h
      · rename_i h1 h2
        have hn : (seen ++ [x]).Nodup := by
          rw [List.nodup_append]
          exact ⟨hs, by simp, fun a ha b hb e => h2 (by simp only [List.mem_singleton] at hb; rw [← hb, ← e]; exact ha)⟩
        obtain ⟨h3, h4⟩ := oscan_ok o (seen ++ [x]) h hn
        refine ⟨fun y hy => ?_, by simpa using h4⟩
        rcases List.mem_cons.1 hy with rfl | hy
        · omega
        · exact h3 y hy
theorem ocode_ok {o : List Int} (h : ocode o o.length = 0) : Perm0 o ∧ o.length ≤ 24 := by
  unfold ocode at h
  split at h
  · cases h
  · rename_i h1
    rw [if_neg (by simp)] at h
    obtain ⟨h2, h3⟩ := oscan_ok o [] h (by simp)
    exact ⟨⟨h2, by simpa using h3⟩, by omega⟩
theorem nodup_le : ∀ {l m : List Int}, l.Nodup → (∀ x ∈ l, x ∈ m) → l.length ≤ m.length
  | [], m, _, _ => by simp
  | a :: l, m, hn, hs => by
    simp only [List.nodup_cons] at hn
    have ha := hs a (by simp)
    have := nodup_le (l := l) (m := m.erase a) hn.2 fun x hx => (List.mem_erase_of_ne (fun e => hn.1 (by rw [← e]; exact hx))).2 (hs x (by simp [hx]))
    rw [List.length_erase_of_mem ha] at this
    have : 0 < m.length := List.length_pos_of_mem ha
    simp only [List.length_cons]
    omega
theorem Perm0.all {o : List Int} (h : Perm0 o) {j : Nat} (hj : j < o.length) : (j : Int) ∈ o := by
  by_cases hm : (j : Int) ∈ o
  · exact hm
  · exfalso
    have := nodup_le (l := (j : Int) :: o) (m := (List.range o.length).map (fun k : Nat => (k : Int))) (by simp only [List.nodup_cons]; exact ⟨hm, h.nodup⟩) (fun x hx => by
      rw [List.mem_map]
      rcases List.mem_cons.1 hx with rfl | hx
      · exact ⟨j, by simpa using hj, rfl⟩
      · obtain ⟨h1, h2⟩ := h.range x hx
        exact ⟨x.toNat, by simp; omega, by omega⟩)
    simp at this
    omega
theorem place_get {o : List Int} (hn : o.Nodup) {k : Nat} (hk : k < o.length) : placeZ o (o.getD k 0) = k := by
  unfold placeZ
  rw [getDZ hk, if_pos (List.getElem_mem hk)]
  congr 1
  exact hn.idxOf_getElem k hk
/-- The places of the events. -/
def placesL (o : List Int) : List Int := (List.range o.length).map fun j : Nat => placeZ o (j : Int)
theorem placesL_len (o : List Int) : (placesL o).length = o.length := by simp [placesL]
theorem placesL_get {o : List Int} {j : Nat} (hj : j < o.length) : (placesL o).getD j 0 = placeZ o j := by
  rw [getDZ (by rw [placesL_len]; exact hj)]
  simp [placesL]
theorem places_end {o zs : List Int} (h : Perm0 o) (hl : zs.length = o.length) (hz : ∀ k, k < o.length → zs.getD (o.getD k 0).toNat 0 = k) : zs = placesL o := by
  apply List.ext_getElem (by rw [placesL_len]; exact hl)
  intro j h1 h2
  rw [← getDZ h1, ← getDZ h2, placesL_get (by omega)]
  have hm := h.all (j := j) (by omega)
  obtain ⟨k, hk, e⟩ := List.mem_iff_getElem.1 hm
  have h3 := hz k hk
  rw [getDZ hk, e] at h3
  have h4 := place_get h.nodup hk
  rw [getDZ hk, e] at h4
  rw [h4, ← h3]; simp
end Go.PN

/- faultlineref14: Place, Check; order: Check, places, Positions. -/
namespace Go.AI
open Go.PN
theorem updF_is {zs : List Int} {i : Nat} {v : Int} (hi : i < zs.length) : updF (isF zs) i [.int .i64 v] = isF (zs.set i v) := by
  funext j
  simp only [updF]
  by_cases e : j = i
  · subst e; simp [hi, isF]
  · rw [if_neg e]
    show CV.int .i64 (zs.getD j 0) = CV.int .i64 ((zs.set i v).getD j 0)
    rw [List.getD_eq_getElem?_getD, List.getD_eq_getElem?_getD, List.getElem?_set_ne (fun h => e h.symm)]
theorem updF_bs {zs : List Bool} {i : Nat} {v : Bool} (hi : i < zs.length) : updF (bsF zs) i [.bool v] = bsF (zs.set i v) := by
  funext j
  simp only [updF]
  by_cases e : j = i
  · subst e; simp [hi, bsF]
  · rw [if_neg e]
    show CV.bool (zs.getD j false) = CV.bool ((zs.set i v).getD j false)
    rw [List.getD_eq_getElem?_getD, List.getD_eq_getElem?_getD, List.getElem?_set_ne (fun h => e h.symm)]
theorem make_is (n : Nat) : (fun j => ofL [CV.int .i64 0] (j % 1)) = isF (List.replicate n 0) := by
  funext j
  show ofL [CV.int .i64 0] (j % 1) = CV.int .i64 ((List.replicate n 0).getD j 0)
  rw [Nat.mod_one, List.getD_eq_getElem?_getD, List.getElem?_replicate]
  split <;> rfl
theorem make_bs (n : Nat) : (fun j => ofL [CV.bool false] (j % 1)) = bsF (List.replicate n false) := by
  funext j
  show ofL [CV.bool false] (j % 1) = CV.bool ((List.replicate n false).getD j false)
  rw [Nat.mod_one, List.getD_eq_getElem?_getD, List.getElem?_replicate]
  split <;> rfl
end Go.AI
namespace Go.Proofs.YtmfmnmkipjpjhaaGreatDoor
open Go.AI Go.PN
attribute [local irreducible] aw Fa Fh DrK
theorem place_at {l : List Int} {n : Int} {i : Nat} (hi : i < l.length) (he : l.getD i 0 = n) (h : ∀ j, j < i → l.getD j 0 ≠ n) : placeZ l n = i := by
  unfold placeZ
  have hm : n ∈ l := by rw [← he, getDZ hi]; exact List.getElem_mem hi
  rw [if_pos hm]
  congr 1
  have h1 : l.idxOf n < l.length := List.idxOf_lt_length_of_mem hm
  have h2 : l[l.idxOf n] = n := List.getElem_idxOf h1
  rcases Nat.lt_trichotomy (l.idxOf n) i with hlt | heq | hgt
  · exact absurd (by rw [getDZ h1]; exact h2) (h _ hlt)
  · exact heq
  · have := List.not_of_lt_findIdx (p := fun x => x == n) (xs := l) (i := i) hgt
    rw [getDZ hi] at he
    simp [he] at this
set_option maxHeartbeats 1600000 in
theorem ocheck_fa (o : List Int) (vars : Int) (hl : o.length ≤ 1099511627776) : Fa Tryz.prog 103 [.c (is false o), .c (.int .i64 vars)] (.c (errA (ocode o vars))) := by
  refine fa_of_body Tryz.func103 rfl rfl (by simp [Tryz.ntmps103]) fun C hC => ?_
  simp only [initS, Nat.reduceAdd]
  refine xG ?_
  by_cases hv0 : vars < 0
  · have e1 : decide (vars < 0) = true := by simp [hv0]
    refine yG e1 ?_
    refine yP e1 ?_
    refine yG e1 ?_
    refine yT hC e1 ?_
    exact .one (.c (ler_errN (by unfold ocode; rw [if_pos (.inl hv0)]) (by unfold ocode; rw [if_pos (.inl hv0)]; omega)))
  have e1 : decide (vars < 0) = false := by simp [hv0]
  refine yG e1 ?_
  refine yF e1 (fun hb=>?_) fun hb=>?_
  · have := of_decide_eq_true hb
    refine yG e1 ?_
    refine yT hC e1 ?_
    exact .one (.c (ler_errN (by unfold ocode; rw [if_pos (.inr (by omega))]) (by unfold ocode; rw [if_pos (.inr (by omega))]; omega)))
  have hv24 : vars ≤ 24 := by have := of_decide_eq_false hb; omega
  refine yG e1 ?_
  refine yF e1 (fun hc=>?_) fun hc=>?_
  · have hne : (o.length : Int) ≠ vars := fun e => by rw [e] at hc; simp at hc
    refine yG e1 ?_
    refine yT hC e1 ?_
    exact .one (.c (ler_errN (by unfold ocode; rw [if_neg (by omega), if_pos hne]) (by unfold ocode; rw [if_neg (by omega), if_pos hne]; omega)))
  have hlen : (o.length : Int) = vars := by
    have : ((o.length : Int) == vars) = true := by simpa [bne] using hc
    exact eq_of_beq this
  have hcode : ocode o vars = oscan vars [] o := by unfold ocode; rw [if_neg (by omega), if_neg (by omega)]
  rw [hcode]
  refine yG e1 ?_
  refine aw_make (n := o.length) (c := o.length) (size := 1) (z := [.bool false]) rfl rfl rfl (zE e1) (zE e1) rfl (by omega) (zE e1) (zE e1) hlen.symm hlen.symm (by omega) (by omega) (by omega) fun g hg => ?_
  rw [make_bs o.length]
  refine yS e1 ?_
  refine yG e1 ?_
  refine aw_lp (fun x : Nat × List Bool => [(1, .c (.int .i64 vars)), (5, .c (.osl g 1 0 o.length)), (24, .c (is false o)), (25, .c (.int .i64 o.length)), (26, .c (.int .i64 x.1))]) (fun x => [(g, .cells 4 o.length (bsF x.2))])
    (fun x => x.1 ≤ o.length ∧ oscan vars (o.take x.1) (o.drop x.1) = oscan vars [] o ∧ x.2.length = o.length ∧ ∀ j : Nat, j < o.length → (x.2.getD j false = decide ((j : Int) ∈ o.take x.1))) (fun x => o.length - x.1) (0, List.replicate o.length false) (zB e1) zZ ⟨Nat.zero_le _, by simp, by simp, fun j hj => by rw [List.getD_eq_getElem?_getD, List.getElem?_replicate]; simp [hj]⟩ ?_
  rintro ⟨i, zs⟩ ⟨hi, hs, hzl, hz⟩
  dsimp only at hi hs hzl hz ⊢
  refine yG e1 ?_
  refine yF e1 (fun hb1=>?_) fun hb1=>?_
  · have hin : i < o.length := by have := of_decide_eq_true hb1; omega
    rw [oscan_step hin] at hs
    refine yG e1 ?_
    by_cases hx0 : o.getD i 0 < 0
    · have e2 : decide (o.getD i 0 < 0) = true := decide_eq_true hx0
      refine yG (oj e1 e2) ?_
      refine yP (oj e1 e2) ?_
      refine yG (oj e1 e2) ?_
      refine yT hC (oj e1 e2) ?_
      rw [if_pos (.inl hx0)] at hs
      exact .one (.c (ler_errN hs (by omega)))
    have e2 : decide (o.getD i 0 < 0) = false := decide_eq_false hx0
    refine yG (oj e1 e2) ?_
    refine yF (oj e1 e2) (fun hx1=>?_) fun hx1=>?_
    · have hx1' := of_decide_eq_true hx1
      refine yG (oj e1 e2) ?_
      refine yT hC (oj e1 e2) ?_
      rw [if_pos (.inr hx1')] at hs
      exact .one (.c (ler_errN hs (by omega)))
    have hx1' : ¬ vars ≤ o.getD i 0 := of_decide_eq_false hx1
    rw [if_neg (by omega)] at hs
    have hzi := hz (o.getD i 0).toNat (by omega)
    rw [show (((o.getD i 0).toNat : Nat) : Int) = o.getD i 0 from by omega] at hzi
    refine yG (oj e1 e2) ?_
    refine yF (oj e1 e2) (fun ht=>?_) fun ht=>?_
    · rw [ht] at hzi
      have hm := of_decide_eq_true hzi.symm
      refine yG (oj e1 e2) ?_
      refine yT hC (oj e1 e2) ?_
      rw [if_pos hm] at hs
      exact .one (.c (ler_errN hs (by omega)))
    · rw [ht] at hzi
      have hm := of_decide_eq_false hzi.symm
      rw [if_neg hm] at hs
      refine yG (oj e1 e2) ?_
      refine yW (oj e1 e2) ?_
      refine yS (oj e1 e2) ?_
      rw [updF_bs (by omega)]
      refine yG (oj e1 e2) ?_
      refine aw_stop ⟨(i + 1, zs.set (o.getD i 0).toNat true), by dsimp only; omega, (zB (oj e1 e2)), zZ, by dsimp only; omega, hs, by simpa using hzl, fun j hj => ?_⟩
      dsimp only
      rw [List.take_succ_eq_append_getElem hin, List.getD_eq_getElem?_getD]
      by_cases hje : j = (o.getD i 0).toNat
      · subst hje
        rw [List.getElem?_set_self (by omega)]
        have : (((o.getD i 0).toNat : Nat) : Int) ∈ o.take i ++ [o[i]] := by
          rw [← getDZ hin, show (((o.getD i 0).toNat : Nat) : Int) = o.getD i 0 from by omega]; simp
        exact (decide_eq_true this).symm
      · rw [List.getElem?_set_ne (fun e => hje e.symm), ← List.getD_eq_getElem?_getD, hz j hj]
        have : ((j : Int) ∈ o.take i ++ [o[i]]) ↔ (j : Int) ∈ o.take i := by
          rw [← getDZ hin]
          simp only [List.mem_append, List.mem_singleton]
          exact ⟨fun h => h.resolve_right (by omega), .inl⟩
        simp only [this]
  · have hin : i = o.length := by have := of_decide_eq_false hb1; omega
    subst hin
    refine yG e1 ?_
    refine yT hC e1 ?_
    exact .one (.c (ler_err0 (by rw [← hs, List.drop_length]; rfl)))
end Go.Proofs.YtmfmnmkipjpjhaaGreatDoor

/- faultlineref15: behind, node. -/
namespace Go.PN
open Go.AI
def behindB (d : DG) (r e : Int) : Bool := decide (r < 2) || decide (placeZ d.order (d.nodes.getD (r - 2).toNat dn0).v > placeZ d.order e)
/-- Out of range? -/
def nrange (d : DG) (i : Nat) (x : DN) : Prop := x.v < 0 ∨ (d.order.length : Int) ≤ x.v ∨ x.lo < 0 ∨ (i : Int) + 1 < x.lo ∨ x.hi < 0 ∨ (i : Int) + 1 < x.hi
instance (d : DG) (i : Nat) (x : DN) : Decidable (nrange d i x) := by unfold nrange; infer_instance
/-- The number of the error of node i. -/
def ncode (d : DG) (i : Nat) : Int :=
  if nrange d i (d.nodes.getD i dn0) then 10 else if (d.nodes.getD i dn0).lo = (d.nodes.getD i dn0).hi then 2
  else if !(behindB d (d.nodes.getD i dn0).lo (d.nodes.getD i dn0).v) || !(behindB d (d.nodes.getD i dn0).hi (d.nodes.getD i dn0).v) then 13
  else if d.nodes.getD i dn0 ∈ d.nodes.take i then 6 else 0
theorem getDN {xs : List DN} {i : Nat} (h : i < xs.length) : xs.getD i dn0 = xs[i] := by
  rw [List.getD_eq_getElem?_getD, List.getElem?_eq_getElem h]; rfl
theorem take_memN {o : List DN} {i : Nat} {x : DN} : x ∈ o.take i ↔ ∃ k, k < i ∧ k < o.length ∧ o.getD k dn0 = x := by
  constructor
  · intro h
    obtain ⟨k, hk, e⟩ := List.mem_iff_getElem.1 h
    simp only [List.length_take] at hk
    refine ⟨k, by omega, by omega, ?_⟩
    rw [getDN (by omega), ← e, List.getElem_take]
  · rintro ⟨k, h1, h2, rfl⟩
    rw [getDN h2]
    exact List.mem_iff_getElem.2 ⟨k, by simp; omega, by rw [List.getElem_take]⟩
theorem nok_of {d : DG} {i : Nat} (h : ¬ nrange d i (d.nodes.getD i dn0)) : NodeOk d.order.length i (d.nodes.getD i dn0) := by
  unfold nrange at h
  constructor <;> omega
end Go.PN
namespace Go.Proofs.YtmfmnmkipjpjhaaGreatDoor
open Go.AI Go.PN
attribute [local irreducible] aw Fa Fh DrK
end Go.Proofs.YtmfmnmkipjpjhaaGreatDoor

/- faultlineref15: number, Check. -/
namespace Go.PN
open Go.AI
/-- The nodes below a reference, kids first, those of b left out. -/
def numF (ns : List DN) : Nat → Int → List Int → List Int
  | 0, _, b => b
  | k + 1, r, b => if r < 2 ∨ r ∈ b then b else numF ns k (ns.getD (r - 2).toNat dn0).hi (numF ns k (ns.getD (r - 2).toNat dn0).lo b) ++ [r]
theorem nodup_range {n : Nat} {b : List Int} (h : b.Nodup) (hb : ∀ x ∈ b, 2 ≤ x ∧ x < n + 2) : b.length ≤ n := by
  have := nodup_le (m := (List.range n).map fun (i : Nat) => (i : Int) + 2) h (fun x hx => by
    have h1 := hb x hx
    refine List.mem_map.2 ⟨(x - 2).toNat, List.mem_range.2 (by omega), by omega⟩)
  simpa using this
end Go.PN
namespace Go.Proofs.YtmfmnmkipjpjhaaGreatDoor
open Go.AI Go.PN
attribute [local irreducible] aw Fa Fh DrK
end Go.Proofs.YtmfmnmkipjpjhaaGreatDoor

/- faultlineref15.Check. -/
namespace Go.PN
open Go.AI
def nfirst (d : DG) : Nat → Nat → Int
  | _, 0 => 0
  | i, k + 1 => if ncode d i ≠ 0 then ncode d i else nfirst d (i + 1) k
def numsL (n : Nat) : List Int := (List.range n).map fun (i : Nat) => (i : Int) + 2
/-- The number of the first error of a diagram. -/
def dcode (d : DG) : Int :=
  if ocode d.order d.order.length ≠ 0 then ocode d.order d.order.length else if 4096 < d.nodes.length then 4
  else if nfirst d 0 d.nodes.length ≠ 0 then nfirst d 0 d.nodes.length else if d.root < 0 ∨ 1 + (d.nodes.length : Int) < d.root then 10
  else if numF d.nodes d.root.toNat d.root [] = numsL d.nodes.length then 0 else 2
theorem nok_all {d : DG} (h : ∀ j, j < d.nodes.length → ncode d j = 0) : NsOk d.order.length d.nodes := fun i hi => by
  refine nok_of (d := d) (i := i) fun hr => ?_
  have := h i hi
  unfold ncode at this
  rw [if_pos hr] at this
  cases this
end Go.PN
namespace Go.AI
section
variable {E : Env} {K : List It} {σ σ' : Sl} {h : Heap}
/-- A slice that has grown is given up. -/
theorem aw_frzg {t s n e : Nat} {og : Option Nat} {f : Nat → CV} {pre : Heap} (ht : σ.get t = .c (gs og s n)) (hog : og = none → n = 0) (hh : h = pre ++ gh og e (n * s) f) (hp : ∀ g, og = some g → g ∉ pre.keys) (hn : ∀ g, ¬ E.C.own0 g) (hσ : σ.set t (.c (.row true s n f)) = σ') (k : aw E K σ' pre) : aw E K σ h := by
  subst hσ hh
  cases og with
  | none =>
    have hn0 := hog rfl
    subst hn0
    refine aw_conv (t := t) (v := .c (.row true s 0 f)) (fun S w u hr => ?_) rfl (by simpa [gh] using k)
    rw [ht] at hr
    obtain ⟨A, hv⟩ := hr
    exact ⟨A, 0, hv, by omega, fun h0 => absurd h0 (by omega)⟩
  | some g =>
    refine aw_frz (ty := e) (m := n * s) (f := f) ht (Heap.get_app (hp g rfl)) (by omega) (hn g) rfl (Heap.del_app (hp g rfl)) ?_
    simpa only [Nat.zero_add] using k
end
end Go.AI
namespace Go.Proofs.YtmfmnmkipjpjhaaGreatDoor
open Go.AI Go.PN
attribute [local irreducible] aw Fa Fh DrK
end Go.Proofs.YtmfmnmkipjpjhaaGreatDoor

/- faultlineref37: Check, CheckDiagram, CheckGiven, Given. -/
namespace Go.PN
open Go.AI
/-- The number of the first error of probabilities. -/
def pcode (p : List RD) (vars : Int) : Int := if (p.length : Int) ≠ vars then 11 else if p.all RD.prob then 0 else 3
/-- Of a diagram and probabilities. -/
def dpcode (d : DG) (p : List RD) : Int := if dcode d ≠ 0 then dcode d else pcode p d.order.length
end Go.PN
namespace Go.AI
open Go.PN
end Go.AI
namespace Go.Proofs.YtmfmnmkipjpjhaaGreatDoor
open Go.AI Go.PN
attribute [local irreducible] aw Fa Fh DrK
end Go.Proofs.YtmfmnmkipjpjhaaGreatDoor

/- Maps of the call's own: made, asked, added to. -/
namespace Go.AI

/-- What is found for a key. -/
def fAsk {α : Type} [DecidableEq α] (a : α) : List α → List MapEntry → Nat → Option (Nat × Value)
  | k :: ks, e :: es, i => if a = k then some (i, e.val) else fAsk a ks es (i + 1)
  | _, _, _ => none
/-- Keys of type kt, told by K. -/
structure KeyOk (P : Program) (kt : TypeId) {α : Type} [DecidableEq α] (K : α → Value) : Prop where
  check : ∀ b a w, (Instr.checkKey b 10000 kt (K a)).run P w = .ok () w
  find : ∀ (a : α) (ks : List α) (es : List MapEntry) w, es.map (·.key) = ks.map K → (Instr.findKey kt (K a) es).run P w = .ok (fAsk a ks es 0) w

section
variable {P : Program}
theorem run_findAsking {α : Type} [DecidableEq α] {K : α → Value} {kt : TypeId} (heq : ∀ a b w, (Op.equal kt (K a) (K b)).run P w = .ok (decide (a = b)) w) (a : α) : ∀ (ks : List α) (es : List MapEntry) (i : Nat) (w : World), es.map (·.key) = ks.map K → (Instr.findAsking kt (K a) es i).run P w = .ok (fAsk a ks es i) w
  | [], [], i, w, _ => by simp [Instr.findAsking, fAsk]
  | k :: ks, e :: es, i, w, h => by
    simp only [List.map_cons, List.cons.injEq] at h
    simp only [Instr.findAsking, fAsk, Sem.run_bind, h.1, heq, Result.andThen_ok]
    by_cases hk : a = k
    · simp [hk]
    · simp only [hk, decide_false, Bool.false_eq_true, if_false]
      exact run_findAsking heq a ks es (i + 1) w h.2
  | [], e :: es, i, w, h => by simp at h
  | k :: ks, [], i, w, h => by simp at h

/-- Keys that are structs of ints. -/
def keyZ (ns : List Int) : Value := .agg (ns.map (Value.int .i64)).toArray
theorem run_checkFields {n : Nat} {ns : List Int} (w : World) (b : Bool) : ∀ (fs : List Field) (k : Nat), (fs.zipIdx k).all (fun p => p.1.name != "_" && p.1.offset == p.2 && (tInt P p.1.type).isSome) = true → k + fs.length ≤ ns.length →
    (forIn fs PUnit.unit (fun f (_ : PUnit) => (do
      if f.name ≠ "_" then
        let __do_lift ← part f.type (ns.map (Value.int .i64)).toArray f.offset
        Instr.checkKey b (n + 1) f.type __do_lift
      pure (ForInStep.yield PUnit.unit) : Sem (ForInStep PUnit)))).run P w = .ok PUnit.unit w
  | [], k, _, _ => by simp
  | f :: fs, k, hf, hk => by
    simp only [List.zipIdx_cons, List.all_cons, Bool.and_eq_true, bne_iff_ne, ne_eq, beq_iff_eq] at hf
    obtain ⟨⟨⟨hn, ho⟩, hi⟩, hr⟩ := hf
    simp only [List.length_cons] at hk
    have hka : k < ns.length := by omega
    obtain ⟨kk, hkk⟩ := Option.isSome_iff_exists.1 hi
    have hu := tInt_spec hkk
    have hag : (isAgg f.type).run P w = .ok false w := by simp [isAgg, run_underlying hu]
    have e1 : (ns.map (Value.int .i64)).toArray[k]? = some (Value.int .i64 (ns[k])) := by simp [hka]
    have p1 : (part f.type (ns.map (Value.int .i64)).toArray f.offset).run P w = .ok (.int .i64 (ns[k])) w := by
      unfold part
      simp only [Sem.run_bind, hag, Result.andThen_ok, Bool.false_eq_true, if_false, ho, e1, Sem.run_pure]
    have p2 : (Instr.checkKey b (n + 1) f.type (.int .i64 (ns[k]))).run P w = .ok () w := by
      simp [Instr.checkKey, run_underlying hu]
    have ih := run_checkFields (n := n) (ns := ns) w b fs (k + 1) (by simpa using hr) (by omega)
    rw [List.forIn_cons]
    simp only [hn, not_false_eq_true, if_true, Sem.run_bind, p1, p2, Result.andThen_ok, Sem.run_pure, ne_eq]
    exact ih
theorem keyZ_ok {kt n : Nat} (ht : tEqS P kt = some n) : KeyOk P kt (fun ns : { l : List Int // l.length = n } => keyZ ns.1) := by
  have hstr : P.underlying kt = some (.struct (P.fieldsOf kt)) ∧ (P.fieldsOf kt).toList.zipIdx.all (fun p => p.1.name != "_" && p.1.offset == p.2 && (tInt P p.1.type).isSome) = true ∧ (P.fieldsOf kt).size = n := by
    unfold tEqS at ht
    split at ht
    · rename_i hc
      simp only [Bool.and_eq_true, Bool.not_eq_true'] at hc
      obtain ⟨⟨⟨h1, h2⟩, h3⟩, h4⟩ := hc
      injection ht with ht
      exact ⟨isStr_spec h4, h3, ht⟩
    · cases ht
  obtain ⟨hu, hf, hs⟩ := hstr
  have heq : ∀ (a b : { l : List Int // l.length = n }) (w : World), (Op.equal kt (keyZ a.1) (keyZ b.1)).run P w = .ok (decide (a = b)) w := fun a b w => by
    have := (tEqS_run ht a.2 b.2 w).1
    unfold Op.equal Op.maxDepth keyZ
    rw [this, eqZ_eq]
    congr 1
    rw [Bool.eq_iff_iff]; simp [Subtype.ext_iff]
  refine ⟨fun b a w => ?_, fun a ks es w h => ?_⟩
  · unfold keyZ
    rw [show (10000 : Nat) = 9999 + 1 from rfl, Instr.checkKey]
    simp only [Sem.run_bind, run_underlying hu, Result.andThen_ok]
    rw [← Array.forIn_toList]
    have := run_checkFields (P := P) (n := 9998) (ns := a.1) w b (P.fieldsOf kt).toList 0 hf (by simp [hs, a.2])
    rw [this]
    rfl
  · unfold Instr.findKey
    simp only [Sem.run_bind, run_underlying hu, Result.andThen_ok]
    cases es with
    | nil =>
      cases ks with
      | nil => simp [Instr.findNow, fAsk]
      | cons k ks => simp at h
    | cons e es =>
      have hn : Instr.findNow (.struct (P.fieldsOf kt)) (keyZ a.1) (e :: es) 0 = none := by
        simp [Instr.findNow, Instr.sameNow]
      rw [hn]
      exact run_findAsking heq a ks (e :: es) 0 w h

/-- A map's entries. -/
def MapI {α : Type} (K : α → Value) (kv : List (α × Value)) (o : Obj) : Prop := ∃ es c, o = .map es c ∧ es.toList.map (fun e => (e.key, e.val)) = kv.map (fun p => (K p.1, p.2))
def kvGet {α : Type} [DecidableEq α] (a : α) : List (α × Value) → Option Value
  | [] => none
  | p :: kv => if a = p.1 then some p.2 else kvGet a kv
theorem fAsk_get {α : Type} [DecidableEq α] {K : α → Value} (a : α) : ∀ (kv : List (α × Value)) (es : List MapEntry) (i : Nat), es.map (fun e => (e.key, e.val)) = kv.map (fun p => (K p.1, p.2)) → (fAsk a (kv.map (·.1)) es i).map (·.2) = kvGet a kv
  | [], [], i, _ => rfl
  | p :: kv, e :: es, i, h => by
    simp only [List.map_cons, List.cons.injEq, Prod.mk.injEq] at h
    simp only [List.map_cons, fAsk, kvGet]
    split
    · simp [h.1.2]
    · exact fAsk_get a kv es (i + 1) h.2
  | [], e :: es, i, h => by simp at h
  | p :: kv, [], i, h => by simp at h
def tMap (P : Program) (t : TypeId) : Option (TypeId × TypeId) := match P.underlying t with
  | some (.map k e) => some (k, e)
  | _ => none
theorem tMap_spec {t k e : TypeId} (h : tMap P t = some (k, e)) : P.underlying t = some (.map k e) := by
  unfold tMap at h
  split at h
  · rename_i hu; simp only [Option.some.injEq, Prod.mk.injEq] at h; rw [hu, h.1, h.2]
  · cases h
/-- The zero of a type of one cell. -/
def tZ1 (P : Program) (t : TypeId) : Option Value := match (P.info? t).bind (·.zero) with
  | some (.int k n) => some (.int k n)
  | some (.bool b) => some (.bool b)
  | _ => none
theorem tZ1_run {t : TypeId} {z : Value} (h : tZ1 P t = some z) (w : World) : (zeroValue t).run P w = .ok z w := by
  unfold tZ1 at h
  cases hi : P.info? t with
  | none => simp [hi] at h
  | some i =>
    cases hz : i.zero with
    | none => simp [hi, hz] at h
    | some v =>
      simp only [hi, hz, Option.bind_some] at h
      split at h
      · rename_i he; injection he with he; injection h with h; subst h; simp [zeroValue, typeInfo, hi, hz, he]
      · rename_i he; injection he with he; injection h with h; subst h; simp [zeroValue, typeInfo, hi, hz, he]
      · cases h

theorem runGet {w : World} {r : Nat} {es : Array MapEntry} {c : Nat} (hb : w.heap[r]? = some (.map es c)) : (getObj r).run P w = .ok (.map es c) w := by simp [getObj, Sem.run, hb]
theorem runSet {w : World} {r : Nat} {es : Array MapEntry} {c : Nat} (o' : Obj) (hb : w.heap[r]? = some (.map es c)) : (setObj r o').run P w = .ok () { w with heap := w.heap.setIfInBounds r o' } := by simp [setObj, Sem.run, hb]
variable {E : Env} {K : List It} {σ σ' : Sl} {h : Heap} {all rest : List Oper} {o : Oper}
theorem aw_makeMap {α : Type} {Kf : α → Value} {t : TypeId} (hop : o.op = .makeMap t none) (hw : wantA all σ o = some true) (hd : dstOk E.N o.dst = true)
    (k : ∀ g, g ∉ h.keys → aw E (.ops all rest :: K) (σ.setO o.dst (.c (.raw (.map (some g))))) ((g, .gen (MapI Kf [])) :: h)) : aw E (.ops all (o :: rest) :: K) σ h := by
  refine aw_new (r := fun g => .c (.raw (.map (some g)))) (ob := .gen (MapI Kf [])) hw hd (fun a w s => ?_) k
  refine ⟨.map (some w.heap.size), w.alloc (.map #[] 0), ?_, Fr.alloc _ _ _, by simp, ⟨_, heap_alloc_new w _, _, _, rfl, rfl⟩, rfl⟩
  simp only [execOp, hop]
  rfl
/-- m[k] -/
theorem aw_lookup {α : Type} [DecidableEq α] {Kf : α → Value} {t kt et g : TypeId} {kv : List (α × Value)} {x ky : Operand} {ck : AV} {a : α} {z : Value} (hop : o.op = .lookup t x ky false) (hw : wantA all σ o = some true) (hd : dstOk E.N o.dst = true)
    (ht : tMap E.P t = some (kt, et)) (hK : KeyOk E.P kt Kf) (hz : tZ1 E.P et = some z) (hx : ev σ x = .c (.raw (.map (some g)))) (hg : h.get g = some (.gen (MapI Kf kv))) (hk : ev σ ky = ck) (hka : ∀ S w v, Rep S w ck v → v = Kf a)
    (k : aw E (.ops all rest :: K) (σ.setO o.dst (.c (cstC ((kvGet a kv).getD z)))) h) : aw E (.ops all (o :: rest) :: K) σ h := by
  refine aw_step hw (fun ac w s => ?_) k
  have h1 := ev_rep s x
  rw [hx] at h1
  have h1' : ac.eval x = .map (some g) := h1
  have h2 := ev_rep s ky
  rw [hk] at h2
  have h2' := hka _ _ _ h2
  obtain ⟨ob, hb, es, c, rfl, hes⟩ := s.heap g _ (Heap.get_mem hg)
  have hkeys : es.toList.map (·.key) = (kv.map (·.1)).map Kf := by
    have := congrArg (List.map Prod.fst) hes
    rw [List.map_map, List.map_map] at this
    rw [List.map_map]
    exact this
  have hfind := hK.find a (kv.map (·.1)) es.toList w hkeys
  have hget := fAsk_get (K := Kf) a kv es.toList 0 hes
  refine ⟨(kvGet a kv).getD z, w, .inl ?_, s.put hd (cstC_rep _ _ _)⟩
  have hlk : (Instr.lookup t (ac.eval x) (ac.eval ky) false).run E.P w = .ok ((kvGet a kv).getD z) w := by
    rw [h1', h2']
    unfold Instr.lookup
    simp only [Sem.run_bind, run_underlying (tMap_spec ht), Result.andThen_ok, runGet hb, Sem.run_pure, hK.check, hfind]
    rw [← hget]
    cases hf : fAsk a (kv.map (·.1)) es.toList 0 with
    | none => simp [tZ1_run hz]
    | some p => obtain ⟨i, v⟩ := p; simp
  simp only [execOp, hop, Sem.run_bind, hlk, Result.andThen_ok]
  rfl
/-- m[k] = v, a new key. -/
theorem aw_mapNew {α : Type} [DecidableEq α] {Kf : α → Value} {t kt et g : TypeId} {kv : List (α × Value)} {x ky vl : Operand} {ck cv : AV} {a : α} {v : Value} (hop : o.op = .mapUpdate t x ky vl) (hdn : o.dst = none) (hw : wantA all σ o = some true)
    (ht : tMap E.P t = some (kt, et)) (hK : KeyOk E.P kt Kf) (hx : ev σ x = .c (.raw (.map (some g)))) (hg : h.get g = some (.gen (MapI Kf kv))) (hk : ev σ ky = ck) (hka : ∀ S w u, Rep S w ck u → u = Kf a) (hv : ev σ vl = cv) (hva : ∀ S w u, Rep S w cv u → u = v)
    (hnew : kvGet a kv = none) {h' : Heap} (hh : h.set g (.gen (MapI Kf (kv ++ [(a, v)]))) = h') (k : aw E (.ops all rest :: K) σ h') : aw E (.ops all (o :: rest) :: K) σ h := by
  subst hh
  refine aw_step hw (fun ac w s => ?_) k
  have h1 := ev_rep s x
  rw [hx] at h1
  have h1' : ac.eval x = .map (some g) := h1
  have h2 := ev_rep s ky
  rw [hk] at h2
  have h2' := hka _ _ _ h2
  have h3 := ev_rep s vl
  rw [hv] at h3
  have h3' := hva _ _ _ h3
  obtain ⟨ob, hb, es, c, rfl, hes⟩ := s.heap g _ (Heap.get_mem hg)
  have hkeys : es.toList.map (·.key) = (kv.map (·.1)).map Kf := by
    have := congrArg (List.map Prod.fst) hes
    rw [List.map_map, List.map_map] at this
    rw [List.map_map]
    exact this
  have hfind := hK.find a (kv.map (·.1)) es.toList w hkeys
  have hget := fAsk_get (K := Kf) a kv es.toList 0 hes
  have hnone : fAsk a (kv.map (·.1)) es.toList 0 = none := by
    cases hf : fAsk a (kv.map (·.1)) es.toList 0 with
    | none => rfl
    | some p => rw [hf, hnew] at hget; cases hget
  have hgl : g < w.heap.size := (Array.getElem?_eq_some_iff.1 hb).1
  let w' : World := { w with heap := w.heap.setIfInBounds g (.map (es.push { key := Kf a, val := v, born := c }) (c + 1)) }
  have hrun : (Instr.mapUpdate t (ac.eval x) (ac.eval ky) (ac.eval vl)).run E.P w = .ok () w' := by
    rw [h1', h2', h3']
    unfold Instr.mapUpdate
    simp only [Sem.run_bind, run_underlying (tMap_spec ht), Result.andThen_ok, runGet hb, hK.check, hfind, hnone, runSet _ hb]
    rfl
  refine ⟨undef, w', .inr ⟨?_, rfl⟩, ?_⟩
  · simp only [execOp, hop, Sem.run_bind, hrun, Result.andThen_ok]
    rfl
  · rw [hdn]
    have hfr : Fr (fun b => b = g) w w' := by
      refine ⟨rfl, rfl, rfl, by simp [w'], fun b _ hne => ?_, fun g' m hh => ?_⟩
      · simp only [w']; rw [Array.getElem?_setIfInBounds_ne (fun e => hne e.symm)]
      · obtain ⟨cs, ty, ⟨fr, hc⟩, hs⟩ := hh
        refine ⟨cs, ty, ⟨fr, ?_⟩, hs⟩
        have hne : g' ≠ g := fun e => by rw [e, hb] at hc; cases hc
        simp only [w']
        rw [Array.getElem?_setIfInBounds_ne (fun e => hne e.symm)]; exact hc
    refine s.setObj hg hfr ⟨_, by simp only [w']; rw [Array.getElem?_setIfInBounds_self_of_lt hgl], _, _, rfl, ?_⟩
    simp only [Array.toList_push, List.map_append, List.map_cons, List.map_nil, hes]
end
end Go.AI

/- Function values, and slices against nil. -/
namespace Go.AI
section
variable {E : Env} {K : List It} {σ σ' : Sl} {h : Heap} {all rest : List Oper} {o : Oper}

/-- Pointers to its own blocks, as a function value holds them. -/
def ptrs (gs : List Nat) : List Value := gs.map fun g => .pointer (some ⟨g, 0, none⟩)
def fnC (f : FuncId) (gs : List Nat) : CV := .raw (.func (.func f) #[] (ptrs gs).toArray)
theorem aw_makeFunc {f : FuncId} {cs : List Operand} {gs : List Nat} (hop : o.op = .makeFunc (.func f) #[] cs.toArray) (hw : wantA all σ o = some true) (hd : dstOk E.N o.dst = true) (hc : cs.map (ev σ) = gs.map fun g => .c (.optr g 0))
    (k : aw E (.ops all rest :: K) (σ.setO o.dst (.c (fnC f gs))) h) : aw E (.ops all (o :: rest) :: K) σ h := by
  refine aw_step hw (fun a w s => ?_) k
  have hev : ∀ (cs : List Operand) (gs : List Nat), cs.map (ev σ) = gs.map (fun g => AV.c (.optr g 0)) → cs.map a.eval = ptrs gs := by
    intro cs
    induction cs with
    | nil => intro gs hg; cases gs with
      | nil => rfl
      | cons g gs => cases hg
    | cons x cs ih => intro gs hg; cases gs with
      | nil => cases hg
      | cons g gs =>
        simp only [List.map_cons, List.cons.injEq] at hg
        have h1 := ev_rep s x
        rw [hg.1] at h1
        have h1' : a.eval x = .pointer (some ⟨g, 0, none⟩) := h1
        simp only [List.map_cons, ptrs]
        rw [h1', ih gs hg.2]
        rfl
  refine ⟨.func (.func f) #[] (ptrs gs).toArray, w, .inl ?_, s.put hd rfl⟩
  simp only [execOp, hop, Instr.makeFunc, List.map_toArray, hev cs gs hc]
  rfl
theorem RepT.ptrs {S : Bool → Nat → Prop} {w : World} : ∀ {A : List AV} {vs : List Value} (gs : List Nat), RepT S w A vs → RepT S w (A ++ gs.map fun g => .c (.optr g 0)) (vs ++ AI.ptrs gs)
  | [], [], gs, _ => by
    induction gs with
    | nil => trivial
    | cons g gs ih => exact ⟨rfl, ih⟩
  | _ :: _, _ :: _, gs, h => ⟨h.1, RepT.ptrs gs h.2⟩
  | [], _ :: _, _, h => h.elim
  | _ :: _, [], _, h => h.elim
/-- A call of a function value that is handed blocks. -/
theorem aw_callhv {f : FuncId} {x : Operand} {gs : List Nat} {xs : List Operand} {ts : Array TypeId} {hc hr : Heap} {args : List AV} {Q : AV → Heap → Prop} (hf : Fh E.P f hc (args ++ gs.map fun g => .c (.optr g 0)) Q) (hop : o.op = .call { callee := .value x, args := xs.toArray, argTypes := ts }) (hw : wantA all σ o = some true) (hd : dstOk E.N o.dst = true) (hx : ev σ x = .c (fnC f gs))
    (hp : h.Perm (hc ++ hr)) (le : LeA [] (xs.map (ev σ)) args) (k : ∀ r h', Q r h' → (∀ g ∈ h'.keys, g ∉ hr.keys) → aw E (.ops all rest :: K) (σ.setO o.dst r) (h' ++ hr)) : aw E (.ops all (o :: rest) :: K) σ h := fun a w s => by
  show wpList _ _ _ _ _ _
  unfold wpList
  rw [if_pos (s.wanted hw)]
  refine .inl ?_
  unfold Oper.wp
  have hv : a.eval x = .func (.func f) #[] (ptrs gs).toArray := by
    have := ev_rep s x
    rw [hx] at this
    exact this
  have hrun : (execOp a.eval o).run E.P w = .ok (.enter f (xs.map a.eval ++ ptrs gs).toArray) w := by
    simp only [execOp, hop, resolve, hv, Deferred.ofValue, invoke, Sem.run_bind]
    have := hf.1.run (#[] ++ (Array.map a.eval xs.toArray) ++ (ptrs gs).toArray) w
    simp only [Sem.run_pure, Result.andThen_ok]
    rw [show ((xs.map a.eval ++ ptrs gs).toArray) = (#[] ++ (Array.map a.eval xs.toArray) ++ (ptrs gs).toArray) from by simp]
    exact this
  rw [hrun]
  show Calls _ _ _ _ _
  refine (hf.use s hp (RepT.ptrs gs (LeA.rep0 s le))).mono ?_
  rintro e w' ⟨v, r, h', rfl, hq, hfr, s', hrep⟩
  exact k r h' hq hfr _ _ (s'.put hd hrep)
/-- A call of a function value that holds nothing. -/
theorem aw_callqv {f : FuncId} {x : Operand} {xs : List Operand} {ts : Array TypeId} {args : List AV} {r : AV} (hf : Fa E.P f args r) (hop : o.op = .call { callee := .value x, args := xs.toArray, argTypes := ts }) (hw : wantA all σ o = some true) (hd : dstOk E.N o.dst = true) (hx : ev σ x = .c (.raw (.func (.func f) #[] #[])))
    (le : LeA h (xs.map (ev σ)) args) (k : aw E (.ops all rest :: K) (σ.setO o.dst r) h) : aw E (.ops all (o :: rest) :: K) σ h := fun a w s => by
  show wpList _ _ _ _ _ _
  unfold wpList
  rw [if_pos (s.wanted hw)]
  refine .inl ?_
  unfold Oper.wp
  have hv : a.eval x = .func (.func f) #[] #[] := by
    have := ev_rep s x
    rw [hx] at this
    exact this
  have hrun : (execOp a.eval o).run E.P w = .ok (.enter f (xs.map a.eval).toArray) w := by
    simp only [execOp, hop, resolve, hv, Deferred.ofValue, invoke, Sem.run_bind]
    have := hf.1.run (#[] ++ (Array.map a.eval xs.toArray) ++ #[]) w
    simp only [Sem.run_pure, Result.andThen_ok]
    rw [show ((xs.map a.eval).toArray) = (#[] ++ (Array.map a.eval xs.toArray) ++ #[]) from by simp]
    exact this
  rw [hrun]
  show Calls _ _ _ _ _
  refine (hf.use s le).mono ?_
  rintro e w' ⟨v, rfl, hr, hfr⟩
  exact k _ _ ((s.later hfr).put hd hr)
end
end Go.AI

/- shannon.Check with slices.ContainsFunc; slices.Clone. -/
namespace Go.PN
open Go.AI
theorem first_bad : ∀ p : List RD, p.all RD.prob = true ∨ ∃ i : Nat, i < p.length ∧ (p.getD i rd0).prob = false ∧ ∀ j, j < i → (p.getD j rd0).prob = true
  | [] => .inl rfl
  | x :: p => by
    cases hx : x.prob with
    | false => exact .inr ⟨0, by simp, by simpa using hx, by omega⟩
    | true =>
      rcases first_bad p with h | ⟨i, h1, h2, h3⟩
      · exact .inl (by simp [hx] at h ⊢; exact h)
      · refine .inr ⟨i + 1, by simp; omega, by simpa using h2, fun j hj => ?_⟩
        cases j with
        | zero => simpa using hx
        | succ j => simpa using h3 j (by omega)
end Go.PN
namespace Go.Proofs.YtmfmnmkipjpjhaaGreatDoor
open Go.AI Go.PN
attribute [local irreducible] aw Fa Fh DrK
theorem check1_fa (r : RD) (hw : r.wf 500000000) : Fa Tryz.prog 99 [.agg (rdc r)] (.c (.bool (!r.prob))) := by
  refine fa_of_body Tryz.func99 rfl rfl (by simp [Tryz.ntmps99]) fun C hC => ?_
  simp only [initS, Nat.reduceAdd]
  refine xG ?_
  refine xB fun g1 hn_g1=>?_
  refine yG hn_g1 ?_
  refine yC hn_g1 (rprob_fa r (wf_mono hw ?_)) ?_
  · omega
  refine yG hn_g1 ?_
  refine yT hC hn_g1 ?_
  exact .one (.c (.bool _))
set_option maxHeartbeats 800000 in
theorem indexFunc_fa (p : List RD) (hw : ∀ r ∈ p, r.wf 500000000) (hl : p.length ≤ 1099511627776) : ∃ z : Int, (decide (z ≥ 0) = !(p.all RD.prob)) ∧ Fa Tryz.prog 136 [.c (rats false p), .c (.raw (.func (.func 99) #[] #[]))] (.c (.int .i64 z)) := by
  have hz : ∃ z : Int, (z = -1 ∧ p.all RD.prob = true) ∨ ∃ i : Nat, z = i ∧ i < p.length ∧ (p.getD i rd0).prob = false ∧ ∀ j, j < i → (p.getD j rd0).prob = true := by
    rcases first_bad p with h | ⟨i, h⟩
    · exact ⟨-1, .inl ⟨rfl, h⟩⟩
    · exact ⟨i, .inr ⟨i, rfl, h⟩⟩
  obtain ⟨z, hz⟩ := hz
  refine ⟨z, ?_, ?_⟩
  · rcases hz with ⟨rfl, ha⟩ | ⟨k, rfl, hk, hk1, hk2⟩
    · rw [ha]; rfl
    · rw [decide_eq_true (by omega)]
      cases ha : p.all RD.prob with
      | false => rfl
      | true =>
        have := List.all_eq_true.1 ha (p.getD k rd0) (by rw [List.getD_eq_getElem?_getD, List.getElem?_eq_getElem hk]; exact List.getElem_mem hk)
        rw [this] at hk1; cases hk1
  refine fa_of_body Tryz.func136 rfl rfl (by simp [Tryz.ntmps136]) fun C hC => ?_
  simp only [initS, Nat.reduceAdd]
  refine xG ?_
  refine aw_lp (fun x : Nat => [(0, .c (rats false p)), (1, .c (.raw (.func (.func 99) #[] #[]))), (7, .c (.int .i64 p.length)), (8, .c (.int .i64 x))]) (fun x => []) (fun x => x ≤ p.length ∧ ∀ j, j < x → (p.getD j rd0).prob = true) (fun x => p.length - x) 0 eB zZ ⟨Nat.zero_le _, by omega⟩ ?_
  rintro i ⟨hi, hs⟩
  refine xG ?_
  refine xF (fun h1=>?_) fun h1=>?_
  · have h1' : i < p.length := by have := of_decide_eq_true h1; omega
    refine xG ?_
    refine aw_callqv (check1_fa (p.getD i rd0) (getD_wf hw i)) rfl rfl rfl eE eL ?_
    refine xS ?_
    refine xG ?_
    refine xF (fun h2=>?_) fun h2=>?_
    · have h2' : (p.getD i rd0).prob = false := by simpa using h2
      refine xG ?_
      refine xT hC ?_
      refine .one (.c (ler_int ?_))
      rcases hz with ⟨_, ha⟩ | ⟨k, rfl, hk, hk1, hk2⟩
      · have := List.all_eq_true.1 ha (p.getD i rd0) (by rw [List.getD_eq_getElem?_getD, List.getElem?_eq_getElem h1']; exact List.getElem_mem h1')
        rw [this] at h2'; cases h2'
      · rcases Nat.lt_trichotomy k i with h | h | h
        · rw [hs k h] at hk1; cases hk1
        · rw [h]
        · rw [hk2 i h] at h2'; cases h2'
    · have h2' : (p.getD i rd0).prob = true := by simpa using h2
      refine xG ?_
      refine aw_stop ⟨i + 1, by omega, eB, zZ, by omega, fun j hj => ?_⟩
      rcases Nat.lt_succ_iff_lt_or_eq.1 hj with h | h
      · exact hs j h
      · rw [h, h2']
  · have h1' : i = p.length := by have := of_decide_eq_false h1; omega
    subst h1'
    refine xG ?_
    refine xT hC ?_
    refine .one (.c (ler_int ?_))
    rcases hz with ⟨rfl, ha⟩ | ⟨k, rfl, hk, hk1, hk2⟩
    · rfl
    · rw [hs k hk] at hk1; cases hk1
set_option maxHeartbeats 800000 in
theorem containsFunc_fa (p : List RD) (hw : ∀ r ∈ p, r.wf 500000000) (hl : p.length ≤ 1099511627776) : Fa Tryz.prog 98 [.c (rats false p), .c (.raw (.func (.func 99) #[] #[]))] (.c (.bool (!(p.all RD.prob)))) := by
  obtain ⟨z, hz, hf⟩ := indexFunc_fa p hw hl
  refine fa_of_body Tryz.func98 rfl rfl (by simp [Tryz.ntmps98]) fun C hC => ?_
  simp only [initS, Nat.reduceAdd]
  refine xG ?_
  refine xC (hf) ?_
  refine xG ?_
  refine xT hC ?_
  exact .one (.c (ler_bool hz))
set_option maxHeartbeats 800000 in
theorem scheck_fa (p : List RD) (vars : Int) (hw : ∀ r ∈ p, r.wf 500000000) (hl : p.length ≤ 1099511627776) : Fa Tryz.prog 64 [.c (rats false p), .c (.int .i64 vars)] (.c (errA (pcode p vars))) := by
  unfold pcode
  refine fa_of_body Tryz.func64 rfl rfl (by simp [Tryz.ntmps64]) fun C hC => ?_
  simp only [initS, Nat.reduceAdd]
  refine xG ?_
  refine xF (fun hb=>?_) fun hb=>?_
  · have hb' : (p.length : Int) ≠ vars := by simpa using hb
    refine xG ?_
    refine xT hC ?_
    rw [if_pos hb']
    exact .one (.c (ler_errN rfl (by omega)))
  · have hb' : (p.length : Int) = vars := by simpa using hb
    rw [if_neg (by omega)]
    refine xG ?_
    refine xC (containsFunc_fa p hw hl) ?_
    refine xG ?_
    refine xF (fun h1=>?_) fun h1=>?_
    · have h1' : ¬ p.all RD.prob = true := by simpa using h1
      refine xG ?_
      refine xT hC ?_
      rw [if_neg h1']
      exact .one (.c (ler_errN rfl (by omega)))
    · have h1' : p.all RD.prob = true := by simpa using h1
      refine xG ?_
      refine xT hC ?_
      rw [if_pos h1']
      exact .one (.c (ler_err0 rfl))
end Go.Proofs.YtmfmnmkipjpjhaaGreatDoor

/- diagram.checkNode. -/
namespace Go.PN
open Go.AI
end Go.PN
namespace Go.Proofs.YtmfmnmkipjpjhaaGreatDoor
open Go.AI Go.PN
attribute [local irreducible] aw Fa Fh DrK
end Go.Proofs.YtmfmnmkipjpjhaaGreatDoor

/- diagram.numbered. -/
namespace Go.PN
open Go.AI
theorem getDset {l : List Bool} {i j : Nat} {v : Bool} (h : i ≠ j) : (l.set i v).getD j false = l.getD j false := by
  rw [List.getD_eq_getElem?_getD, List.getElem?_set_ne h, ← List.getD_eq_getElem?_getD]
theorem getDset' {l : List Bool} {i : Nat} {v : Bool} (h : i < l.length) : (l.set i v).getD i false = v := by
  rw [List.getD_eq_getElem?_getD, List.getElem?_set_self h]; rfl
end Go.PN
namespace Go.Proofs.YtmfmnmkipjpjhaaGreatDoor
open Go.AI Go.PN
attribute [local irreducible] aw Fa Fh DrK
@[go_sem] theorem ty_s_fn : tSz Tryz.prog 160 = some (false, 1) := by kernel_rfl
@[go_sem] theorem ty_z_fn : tZero Tryz.prog 160 = some [.raw .nilFunc] := by kernel_rfl
end Go.Proofs.YtmfmnmkipjpjhaaGreatDoor

/- diagram.numbered, Check. -/
namespace Go.PN
open Go.AI
end Go.PN
namespace Go.Proofs.YtmfmnmkipjpjhaaGreatDoor
open Go.AI Go.PN
attribute [local irreducible] aw Fa Fh DrK
end Go.Proofs.YtmfmnmkipjpjhaaGreatDoor

/- diagram.Check. -/
namespace Go.PN
open Go.AI
abbrev DK := { l : List Int // l.length = 3 }
def dk (x : DN) : DK := ⟨[x.v, x.lo, x.hi], rfl⟩
def dkV (k : DK) : Value := keyZ k.1
theorem dk_inj {x y : DN} : dk x = dk y ↔ x = y := by
  cases x; cases y
  simp [dk]
theorem dk_rep {x : DN} : ∀ (S : Bool → Nat → Prop) (w : World) (u : Value), Rep S w (.agg [.int .i64 x.v, .int .i64 x.lo, .int .i64 x.hi]) u → u = dkV (dk x) := by
  rintro S w u ⟨us, rfl, h⟩
  match us, h with
  | [a, b, c], ⟨h1, h2, h3, _⟩ =>
    have h1 : a = _ := h1
    have h2 : b = _ := h2
    have h3 : c = _ := h3
    rw [h1, h2, h3]; rfl
end Go.PN
namespace Go.Proofs.YtmfmnmkipjpjhaaGreatDoor
open Go.AI Go.PN
attribute [local irreducible] aw Fa Fh DrK
theorem ty_key : tEqS Tryz.prog 132 = some 3 := by kernel_rfl
theorem dk_ok : KeyOk Tryz.prog 132 dkV := keyZ_ok ty_key
end Go.Proofs.YtmfmnmkipjpjhaaGreatDoor

/- The plain law: the value at the root is the sum over the true states; how long the values get. No program in sight. -/
namespace Go.PN
open Go.AI
/-- The mean of g when event i happens with p i, over the first m events. -/
def exQ (p : Nat → Rat) : Nat → (Nat → Rat) → Rat
  | 0, g => g 0
  | m + 1, g => (1 - p m) * exQ p m g + p m * exQ p m (fun s => g (s + 2 ^ m))
theorem ex_congr {p : Nat → Rat} : ∀ (m : Nat) (f g : Nat → Rat), (∀ s, s < 2 ^ m → f s = g s) → exQ p m f = exQ p m g
  | 0, f, g, h => h 0 (by simp)
  | m + 1, f, g, h => by
    have e : 2 ^ (m + 1) = 2 ^ m + 2 ^ m := by rw [Nat.pow_succ]; omega
    rw [exQ, exQ, ex_congr m f g fun s hs => h s (by omega), ex_congr m _ (fun s => g (s + 2 ^ m)) fun s hs => h (s + 2 ^ m) (by omega)]
theorem ex_const {p : Nat → Rat} (c : Rat) : ∀ m : Nat, exQ p m (fun _ => c) = c
  | 0 => rfl
  | m + 1 => by
    rw [exQ, ex_const c m]
    grind
/-- f does not look at event v. -/
def Indep (m v : Nat) (f : Nat → Rat) : Prop := ∀ s t, s < 2 ^ m → t < 2 ^ m → (∀ j, j < m → j ≠ v → s.testBit j = t.testBit j) → f s = f t
theorem tb_hi {s m : Nat} (h : s < 2 ^ m) : (s + 2 ^ m).testBit m = true := by
  rw [Nat.add_comm, Nat.testBit_two_pow_add_eq, Nat.testBit_lt_two_pow h]; rfl
theorem tb_lo {s m j : Nat} (h : j < m) : (s + 2 ^ m).testBit j = s.testBit j := by
  rw [Nat.add_comm, Nat.testBit_two_pow_add_gt h]
theorem ex_shan {p : Nat → Rat} {v : Nat} : ∀ (m : Nat) (l h : Nat → Rat), v < m → Indep m v l → Indep m v h → exQ p m (fun s => if s.testBit v then h s else l s) = (1 - p v) * exQ p m l + p v * exQ p m h
  | 0, _, _, hv, _, _ => by omega
  | m + 1, l, h, hv, hl, hh => by
    have e : 2 ^ (m + 1) = 2 ^ m + 2 ^ m := by rw [Nat.pow_succ]; omega
    have shift : ∀ f, Indep (m + 1) v f → Indep m v (fun s => f (s + 2 ^ m)) := fun f hf s t hs ht hb => hf _ _ (by omega) (by omega) fun j hj hjv => by
      by_cases hjm : j < m
      · rw [tb_lo hjm, tb_lo hjm]; exact hb j hjm hjv
      · have : j = m := by omega
        subst this
        rw [tb_hi hs, tb_hi ht]
    by_cases hvm : v = m
    · subst hvm
      have up : ∀ f, Indep (v + 1) v f → exQ p v (fun s => f (s + 2 ^ v)) = exQ p v f := fun f hf => ex_congr v _ _ fun s hs => hf _ _ (by omega) (by omega) fun j hj hjv => tb_lo (by omega)
      rw [exQ, exQ, exQ, up l hl, up h hh]
      have e1 : exQ p v (fun s => if s.testBit v then h s else l s) = exQ p v l := ex_congr v _ _ fun s hs => by rw [Nat.testBit_lt_two_pow hs]; rfl
      have e2 : exQ p v (fun s => if (s + 2 ^ v).testBit v then h (s + 2 ^ v) else l (s + 2 ^ v)) = exQ p v h := by
        rw [← up h hh]
        exact ex_congr v _ _ fun s hs => by rw [tb_hi hs]; rfl
      rw [e1, e2]
      grind
    · have hvm' : v < m := by omega
      have low : ∀ f, Indep (m + 1) v f → Indep m v f := fun f hf s t hs ht hb => hf s t (by omega) (by omega) fun j hj hjv => by
        by_cases hjm : j < m
        · exact hb j hjm hjv
        · have : j = m := by omega
          subst this
          rw [Nat.testBit_lt_two_pow hs, Nat.testBit_lt_two_pow ht]
      rw [exQ, exQ, exQ, ex_shan m l h hvm' (low l hl) (low h hh)]
      have e2 : exQ p m (fun s => if (s + 2 ^ m).testBit v then h (s + 2 ^ m) else l (s + 2 ^ m)) = exQ p m (fun s => if s.testBit v then h (s + 2 ^ m) else l (s + 2 ^ m)) := ex_congr m _ _ fun s hs => by rw [tb_lo hvm']
      rw [e2, ex_shan m _ _ hvm' (shift l hl) (shift h hh)]
      grind
/-- Sums. -/
def sumG (f : Nat → Rat) : Nat → Rat
  | 0 => 0
  | k + 1 => sumG f k + f k
theorem sumG_congr {f g : Nat → Rat} : ∀ n, (∀ s, s < n → f s = g s) → sumG f n = sumG g n
  | 0, _ => rfl
  | n + 1, h => by rw [sumG, sumG, sumG_congr n fun s hs => h s (by omega), h n (by omega)]
theorem sumG_add (f : Nat → Rat) (a : Nat) : ∀ b, sumG f (a + b) = sumG f a + sumG (fun s => f (s + a)) b
  | 0 => by rw [sumG, Nat.add_zero]; grind
  | b + 1 => by
    rw [← Nat.add_assoc, sumG, sumG_add f a b, sumG, Nat.add_comm b a]
    grind
theorem sumG_mul (f : Nat → Rat) (c : Rat) : ∀ n, sumG (fun s => f s * c) n = c * sumG f n
  | 0 => by rw [sumG, sumG]; grind
  | n + 1 => by rw [sumG, sumG, sumG_mul f c n]; grind
def wtP (p : Nat → Rat) (s : Nat) : Nat → Rat
  | 0 => 1
  | k + 1 => wtP p s k * (if s.testBit k then p k else 1 - p k)
theorem wtP_lo {p : Nat → Rat} {s m : Nat} : ∀ k, k ≤ m → wtP p (s + 2 ^ m) k = wtP p s k
  | 0, _ => rfl
  | k + 1, h => by rw [wtP, wtP, wtP_lo k (by omega), tb_lo (by omega)]
theorem sum_ex {p : Nat → Rat} : ∀ (m : Nat) (g : Nat → Rat), sumG (fun s => g s * wtP p s m) (2 ^ m) = exQ p m g
  | 0, g => by
    show sumG (fun s => g s * wtP p s 0) (2 ^ 0) = g 0
    rw [show (2 : Nat) ^ 0 = 0 + 1 from rfl, sumG, sumG, wtP]
    grind
  | m + 1, g => by
    have e : 2 ^ (m + 1) = 2 ^ m + 2 ^ m := by rw [Nat.pow_succ]; omega
    rw [e, sumG_add, exQ, ← sum_ex m g, ← sum_ex m (fun s => g (s + 2 ^ m))]
    rw [← sumG_mul, ← sumG_mul]
    congr 1
    · exact sumG_congr _ fun s hs => by rw [wtP, Nat.testBit_lt_two_pow hs]; simp only [Bool.false_eq_true, if_false]; grind
    · exact sumG_congr _ fun s hs => by rw [wtP, tb_hi hs, wtP_lo m (Nat.le_refl _)]; simp only [if_true]; grind
def prP (ps : List RD) (i : Nat) : Rat := (ps.getD i rd0).q
theorem wtTo_P {ps : List RD} {s m : Nat} (hs : s < 2 ^ m) : ∀ k, k ≤ m → wtTo s (2 ^ m - 1 - s) ps k = wtP (prP ps) s k
  | 0, _ => rfl
  | k + 1, h => by
    rw [wtTo, wtP, wtTo_P hs k (by omega)]
    congr 1
    unfold wfac
    have : (2 ^ m - 1 - s).testBit k = !s.testBit k := by
      rw [show 2 ^ m - 1 - s = 2 ^ m - (s + 1) from by omega, Nat.testBit_two_pow_sub_succ hs]
      simp; omega
    rw [this]
    cases s.testBit k with
    | true => simp [prP]
    | false => simp [prP]
theorem sumQ_G {ps : List RD} {tb : List Bool} : ∀ k, k ≤ 2 ^ ps.length → sumQ ps tb k = sumG (fun s => (if tb.getD s false then 1 else 0) * wtP (prP ps) s ps.length) k
  | 0, _ => rfl
  | k + 1, h => by
    rw [sumQ, sumG, sumQ_G k (by omega)]
    have : stQ ps k = wtP (prP ps) k ps.length := wtTo_P (by omega) _ (Nat.le_refl _)
    rw [this]
    split <;> grind
theorem sumQ_ex (ps : List RD) (tb : List Bool) : sumQ ps tb (2 ^ ps.length) = exQ (prP ps) ps.length (fun s => if tb.getD s false then 1 else 0) := by
  rw [sumQ_G _ (Nat.le_refl _), sum_ex]
end Go.PN
