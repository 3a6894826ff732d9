/- Texts of one proof, laid one behind the other by a program (merge.py): Txt3, Rat4, Spn1, Spn2, Unc1. -/
import Derived.Test.YtmfmnmkipjpjhaaGreatDoorV20
import Derived.Test.YtmfmnmkipjpjhaaGreatDoorV24
set_option linter.unusedSimpArgs false
set_option linter.unusedVariables false
/- natural.Text. -/
namespace Go.PN
open Go.AI
/-- The groups of nine digits, the least first. -/
def grps (n : Nat) : List (List UInt8) := if h : n = 0 then [] else nineL (n % 1000000000) :: grps (n / 1000000000)
termination_by n
decreasing_by omega
theorem grps_zero : grps 0 = [] := by rw [grps]; simp
theorem grps_cons {n : Nat} (h : n ≠ 0) : grps n = nineL (n % 1000000000) :: grps (n / 1000000000) := by rw [grps]; simp [h]
theorem grps_len : ∀ (M n : Nat), n < 536870912 ^ M → (grps n).length ≤ M
  | 0, n, h => by
    have : n = 0 := by simpa using h
    subst this
    rw [grps_zero]; simp
  | M + 1, n, h => by
    by_cases h0 : n = 0
    · subst h0; rw [grps_zero]; simp
    · rw [grps_cons h0, List.length_cons]
      have := grps_len M (n / 1000000000) (by
        rw [Nat.pow_succ] at h
        generalize 536870912 ^ M = K at *
        omega)
      omega
theorem grps_nine : ∀ (M n : Nat), n ≤ M → ∀ g ∈ grps n, g.length = 9
  | 0, n, h, g, hg => by
    have : n = 0 := by omega
    subst this
    rw [grps_zero] at hg; cases hg
  | M + 1, n, h, g, hg => by
    by_cases h0 : n = 0
    · subst h0; rw [grps_zero] at hg; cases hg
    · rw [grps_cons h0, List.mem_cons] at hg
      rcases hg with rfl | hg
      · exact nineL_len _
      · exact grps_nine M _ (by omega) g hg
theorem grps_bound {xs : List Nat} (hx : ∀ x ∈ xs, x < 4294967296) : (grps (val xs)).length ≤ 2 * xs.length := by
  refine grps_len _ _ (Nat.lt_of_lt_of_le (val_lt xs hx) ?_)
  rw [Nat.pow_mul]
  exact Nat.pow_le_pow_left (by decide) _
/-- The strings of a row. -/
def strF (G : List (List UInt8)) (j : Nat) : CV := .str (sB (G.getD j []))
@[go_sem] theorem strF_at (G : List (List UInt8)) (j : Nat) : strF G j = .str (sB (G.getD j [])) := rfl
theorem str_push {zs : List (List UInt8)} {n : Nat} (hn : zs.length = n) (x : List UInt8) : ∀ j, j < (n + 1) * 1 → appF (strF zs) (n * 1) (ofL [.str (sB x)]) j = strF (zs ++ [x]) j := fun j hj => by
  subst hn
  unfold appF
  by_cases h : j < zs.length * 1
  · rw [if_pos h]
    show CV.str (sB (zs.getD j [])) = CV.str (sB ((zs ++ [x]).getD j []))
    rw [List.getD_eq_getElem?_getD, List.getD_eq_getElem?_getD, List.getElem?_append_left (by omega)]
  · have e : j = zs.length := by omega
    subst e
    rw [if_neg h]
    show ofL [.str (sB x)] (zs.length - zs.length * 1) = CV.str (sB ((zs ++ [x]).getD zs.length []))
    rw [Nat.mul_one, Nat.sub_self, List.getD_eq_getElem?_getD, List.getElem?_append_right (Nat.le_refl _), Nat.sub_self]
    rfl
/-- The last i of a list of strings, from the last on. -/
def catTo (G : List (List UInt8)) : Nat → List UInt8
  | 0 => []
  | i + 1 => catTo G i ++ G.getD (G.length - 1 - i) []
theorem catTo_len {G : List (List UInt8)} (h : ∀ g ∈ G, g.length = 9) : ∀ i, i ≤ G.length → (catTo G i).length = 9 * i
  | 0, _ => rfl
  | i + 1, hi => by
    have h1 := catTo_len h i (by omega)
    have h2 : (G.getD (G.length - 1 - i) []).length = 9 := by
      rw [List.getD_eq_getElem?_getD, List.getElem?_eq_getElem (by omega)]
      exact h _ (List.getElem_mem _)
    rw [catTo, List.length_append, h1, h2]; omega
/-- The decimal text of a number. -/
def txtN (n : Nat) : List UInt8 := if ((catTo (grps n) (grps n).length).dropWhile (· == 48)) == [] then [48] else (catTo (grps n) (grps n).length).dropWhile (· == 48)
theorem txtN_len {xs : List Nat} (hx : ∀ x ∈ xs, x < 4294967296) : (txtN (val xs)).length ≤ 18 * xs.length + 1 := by
  have h1 := catTo_len (grps_nine _ (val xs) (Nat.le_refl _)) (grps (val xs)).length (Nat.le_refl _)
  have h2 := grps_bound hx
  have h3 := (List.dropWhile_sublist (· == (48 : UInt8)) (l := catTo (grps (val xs)) (grps (val xs)).length)).length_le
  unfold txtN
  split
  · simp
  · omega
/-- The address that a builder bears after i writes. -/
def bA (gB : Nat) : Nat → CV
  | 0 => .raw (.pointer none)
  | _ + 1 => .optr gB 0
theorem bA_or (gB i : Nat) : bA gB i = .raw (.pointer none) ∨ bA gB i = .optr gB 0 := by cases i; exact .inl rfl; exact .inr rfl
end Go.PN
namespace Go.Proofs.YtmfmnmkipjpjhaaGreatDoor
open Go.AI Go.PN
attribute [local irreducible] aw Fa Fh DrK
set_option maxRecDepth 100000 in
set_option maxHeartbeats 3200000 in
theorem ntext_fa (xs : List Nat) (hx : ∀ x ∈ xs, x < 4294967296) (hl : xs.length ≤ 1000000) : Fa Tryz.prog 72 [.c (ws false xs)] (.c (.str (sB (txtN (val xs))))) := by
  have hgb := grps_bound hx
  have hwl := words_val_len xs hx
  have hnine := grps_nine _ (val xs) (Nat.le_refl _)
  have htx : txtN (val xs) = if ((catTo (grps (val xs)) (grps (val xs)).length).dropWhile (· == 48)) == [] then [48] else (catTo (grps (val xs)) (grps (val xs)).length).dropWhile (· == 48) := rfl
  refine fa_of_body Tryz.func72 rfl rfl (by simp [Tryz.ntmps72]) fun C hC => ?_
  simp only [initS, Nat.reduceAdd]
  refine xG ?_
  refine xC (trim_fa xs hx ?_) ?_
  · omega
  refine xG ?_
  generalize val xs = N at *
  refine aw_lp (fun x : Option Nat × List (List UInt8) × Nat => [(0, .c (ws true (words x.2.2))), (3, .c (gs x.1 1 x.2.1.length))]) (fun x => gh x.1 9 (x.2.1.length * 1) (strF x.2.1))
    (fun x => grps N = x.2.1 ++ grps x.2.2 ∧ x.2.2 ≤ N ∧ (x.1 = none → x.2.1.length = 0)) (fun x => x.2.2) (none, [], N) eB zZ ⟨rfl, Nat.le_refl _, fun _ => rfl⟩ ?_
  rintro ⟨og, G, v⟩ ⟨hG, hv, hog⟩
  dsimp only at hG hv hog ⊢
  have hGl : G.length + (grps v).length ≤ 2 * xs.length := by rw [← List.length_append, ← hG]; exact hgb
  have hvl := words_len_mono hv
  refine xG ?_
  refine xF (fun h1=>?_) fun h1=>?_
  · have h1' : v ≠ 0 := by
      intro e
      subst e
      rw [words_zero] at h1
      simp at h1
    have hst := grps_cons h1'
    have hnl : (nineL (v % 1000000000)).length = 9 := nineL_len _
    refine xG ?_
    have hsm := small_fa (words v) 1000000000 (words_lt v) (by omega) (by omega) (by omega)
    rw [val_words] at hsm
    refine xC (hsm) ?_
    refine xG ?_
    refine xC (nine_fa (v % 1000000000) ?_) ?_
    · omega
    refine xG ?_
    refine aw_push (pre := []) rfl rfl rfl rfl rfl rfl rfl eE eE (by rfl) (by omega) (by omega) eE (by omega) (by exact hog) eE (by rfl) (by rfl) (by first | rfl | simp only [Nat.mul_one, List.nil_append, List.cons_append] <;> rfl) (by unfold maxLen; omega) (by omega) (by exact str_push rfl _) fun g hn_g => ?_
    replace hn_g := Heap.ne_of hn_g
    first | dsimp only [Heap.ne, gh] at hn_g | dsimp only [Heap.ne] at hn_g | skip
    refine yS hn_g ?_
    refine yG hn_g ?_
    have e : (G ++ [nineL (v % 1000000000)]).length = G.length + 1 := by simp
    refine aw_stop ⟨(some g, G ++ [nineL (v % 1000000000)], v / 1000000000), by dsimp only; omega, ?_, ?_, by dsimp only; rw [List.append_assoc, hG, hst]; rfl, by dsimp only; omega, some_ne⟩
    · dsimp only
      rw [e]
      exact (zB hn_g)
    · dsimp only
      rw [e]
      exact zZ
  · have h1' : v = 0 := by
      apply Classical.byContradiction
      intro e
      have := of_decide_eq_false h1
      rw [words_cons e] at this
      simp at this
    subst h1'
    rw [grps_zero, List.append_nil] at hG
    have hcl := catTo_len hnine
    rw [hG] at hgb hnine htx hcl
    refine aw_perm (h' := gh og 9 (G.length * 1) (strF G) ++ []) (by rw [List.append_nil, Nat.mul_one]) ?_
    refine aw_frzGT (t := 3) (f' := strF G) hog rfl eE (fun g _ => hC g) (fun _ _ => rfl) rfl ?_
    refine xS ?_
    refine xG ?_
    refine aw_allocR (vs := [.pointer none, .slice none 0 0]) rfl rfl rfl (by kernel_rfl) fun gB hn_gB => ?_
    refine (?_ : aw _ _ _ [bldO gB (bA gB 0) (gsR none 0)])
    refine xS ?_
    refine xG ?_
    refine aw_lp (fun x : Option Nat × Nat => [(3, .c (.row true 1 G.length (strF G))), (6, .c (.optr gB 0)), (7, .c (.int .i64 ((G.length : Int) - 1 - (x.2 : Int))))]) (fun x => bldO gB (bA gB x.2) (gsR x.1 (catTo G x.2).length) :: gh x.1 5 (catTo G x.2).length (byF (catTo G x.2)))
      (fun x => x.2 ≤ G.length ∧ (x.1 = none → x.2 = 0) ∧ (x.2 = 0 → x.1 = none)) (fun x => G.length - x.2) (none, 0) (by refine xS ?_; simp) zZ ⟨Nat.zero_le _, fun _ => rfl, fun _ => rfl⟩ ?_
    rintro ⟨og2, i⟩ ⟨hi, hn1, hn2⟩
    dsimp only at hi hn1 hn2 ⊢
    have hci := hcl i hi
    refine xG ?_
    refine xF (fun h2=>?_) fun h2=>?_
    · have h2' : i < G.length := by have := of_decide_eq_true h2; omega
      obtain ⟨q, hq⟩ : ∃ q : Nat, q = G.length - 1 - i := ⟨_, rfl⟩
      have hqi : (G.length : Int) - 1 - (i : Int) = (q : Int) := by omega
      have hcat : catTo G (i + 1) = catTo G i ++ G.getD q [] := by rw [catTo, hq]
      have hl9 : (G.getD q []).length = 9 := by
        rw [List.getD_eq_getElem?_getD, List.getElem?_eq_getElem (by omega)]
        exact hnine _ (List.getElem_mem _)
      have hci2 := hcl (i + 1) (by omega)
      rw [hqi]
      refine xG ?_
      refine aw_callh (hc := bldO gB (bA gB i) (gsR og2 (catTo G i).length) :: gh og2 5 (catTo G i).length (byF (catTo G i))) (hr := []) (wstr_fh gB _ (bA_or gB i) og2 (catTo G i) (G.getD q []) (fun e => by rw [hn1 e]; rfl) (by omega)) rfl rfl rfl (by rw [List.append_nil]) eL ?_
      rintro _ _ ⟨og', h3, rfl, rfl⟩ _
      rw [← hcat, List.append_nil] at *
      refine xS ?_
      refine xG ?_
      rw [show (q : Int) - 1 = (G.length : Int) - 1 - ((i + 1 : Nat) : Int) from by omega]
      exact aw_stop ⟨(og', i + 1), by dsimp only; omega, eB, zZ, by dsimp only; omega, fun e => by have := h3 e; omega, fun e => by dsimp only at e; omega⟩
    · have h2' : i = G.length := by have := of_decide_eq_false h2; omega
      subst h2'
      refine xG ?_
      refine aw_callh (hc := bldO gB (bA gB G.length) (gsR og2 (catTo G G.length).length) :: gh og2 5 (catTo G G.length).length (byF (catTo G G.length))) (hr := []) (bstr_fh gB _ og2 (catTo G G.length) (fun e => by rw [hn1 e]; rfl) (fun e => hn2 (by rw [e] at hci; simp only [List.length_nil] at hci; omega)) (by omega)) rfl rfl rfl (by rw [List.append_nil]) eL ?_
      rintro _ _ ⟨rfl, rfl⟩ _
      generalize catTo G G.length = B at *
      refine xS ?_
      refine xG ?_
      refine xC (trimLeft_fa B ?_) ?_
      · omega
      refine xG ?_
      refine xF (fun h5=>?_) fun h5=>?_
      · rw [show (⟨#[]⟩ : ByteArray) = sB [] from rfl, sb_eq] at h5
        refine xG ?_
        rw [htx, if_pos h5]
        refine xT hC ?_
        exact .one (.c (.str _))
      · rw [show (⟨#[]⟩ : ByteArray) = sB [] from rfl, sb_eq] at h5
        refine xG ?_
        rw [htx, if_neg (by rw [h5]; simp)]
        refine xT hC ?_
        exact .one (.c (.str _))
end Go.Proofs.YtmfmnmkipjpjhaaGreatDoor

/- rational: same, Min, Max, Abs, Text; ref02.Abs. -/
namespace Go.PN
open Go.AI
/-- The absolute value. -/
def RD.abs (r : RD) : Rat := sq false r.pn r.pd
theorem abs_fits {r : RD} {L : Nat} (hL : 1 ≤ L) (h : r.wf L) : fits r.abs L := by
  obtain ⟨h1, h2⟩ := RD.p_len h hL
  exact fits_sq (RD.pd_ne h) (Nat.lt_of_lt_of_le (words_pow_lt _) (Nat.pow_le_pow_right (by omega) h1)) (Nat.lt_of_lt_of_le (words_pow_lt _) (Nat.pow_le_pow_right (by omega) h2))
def maxR (a b : Rat) : Rat := if signQ (a - b) ≥ 0 then a else b
theorem min_eq (a b : Rat) : (if signQ (a - b) ≤ 0 then a else b) = minQ a b := by
  unfold minQ
  by_cases h : signQ (a - b) ≤ 0
  · rw [if_pos h, if_neg (by omega)]
  · rw [if_neg h, if_pos (by omega)]
theorem max_eq (a b : Rat) : maxR a b = maxQ a b := by
  have h := signQ_ge (a - b)
  obtain ⟨h1, h2, h3⟩ := max_ge a b
  unfold maxR
  by_cases hs : signQ (a - b) ≥ 0
  · rw [decide_eq_true hs] at h
    have := of_decide_eq_true h.symm
    rw [if_pos hs]
    grind
  · rw [decide_eq_false hs] at h
    have := of_decide_eq_false h.symm
    rw [if_neg hs]
    grind
/-- The text of a fraction. -/
def rtxt (r : RD) : List UInt8 := (if r.ps then [45] ++ txtN r.pn else txtN r.pn) ++ (if r.pd = 1 then [] else [47] ++ txtN r.pd)
theorem txtN_le {n L : Nat} (h : (words n).length ≤ L) : (txtN n).length ≤ 18 * L + 1 := by
  have := txtN_len (words_lt n)
  rw [val_words] at this
  omega
theorem rtxt_len {r : RD} {L : Nat} (hL : 1 ≤ L) (h : r.wf L) : (rtxt r).length ≤ 36 * L + 4 := by
  obtain ⟨h1, h2⟩ := RD.p_len h hL
  have h3 := txtN_le h1
  have h4 := txtN_le h2
  unfold rtxt
  split <;> split <;> simp <;> omega
end Go.PN
namespace Go.Proofs.YtmfmnmkipjpjhaaGreatDoor
open Go.AI Go.PN
attribute [local irreducible] aw Fa Fh DrK
set_option maxHeartbeats 1600000 in
theorem rsame_fa (r : RD) (hw : r.wf 1073741824) : Fa Tryz.prog 165 [.agg (rdc r)] (.agg (rdc (rd r.q))) := by
  obtain ⟨hl1, hl2⟩ := RD.p_len hw (by omega)
  refine fa_of_body Tryz.func165 rfl rfl (by simp [Tryz.ntmps165]) fun C hC => ?_
  simp only [initS, Nat.reduceAdd]
  refine xG ?_
  refine xB fun g1 hn_g1=>?_
  refine yA hn_g1 fun g2 hn_g2=>?_
  refine yG (oj hn_g1 hn_g2) ?_
  refine yC (oj hn_g1 hn_g2) (rparts_fa r hw) ?_
  refine yG (oj hn_g1 hn_g2) ?_
  refine yC (oj hn_g1 hn_g2) (rform_fa _ r.pn r.pd ?_ ?_ (RD.pd_ne hw)) ?_
  · omega
  · omega
  refine yG (oj hn_g1 hn_g2) ?_
  refine yW (oj hn_g1 hn_g2) ?_
  refine yS (oj hn_g1 hn_g2) ?_
  refine yG (oj hn_g1 hn_g2) ?_
  refine yT hC (oj hn_g1 hn_g2) ?_
  exact ler_rd rfl
set_option maxHeartbeats 1600000 in
theorem rabs_fa (r : RD) (hw : r.wf 1073741824) : Fa Tryz.prog 83 [.agg (rdc r)] (.agg (rdc (rd r.abs))) := by
  obtain ⟨hl1, hl2⟩ := RD.p_len hw (by omega)
  refine fa_of_body Tryz.func83 rfl rfl (by simp [Tryz.ntmps83]) fun C hC => ?_
  simp only [initS, Nat.reduceAdd]
  refine xG ?_
  refine xB fun g1 hn_g1=>?_
  refine yA hn_g1 fun g2 hn_g2=>?_
  refine yG (oj hn_g1 hn_g2) ?_
  refine yC (oj hn_g1 hn_g2) (rparts_fa r hw) ?_
  refine yG (oj hn_g1 hn_g2) ?_
  refine yC (oj hn_g1 hn_g2) (rform_fa false r.pn r.pd ?_ ?_ (RD.pd_ne hw)) ?_
  · omega
  · omega
  refine yG (oj hn_g1 hn_g2) ?_
  refine yW (oj hn_g1 hn_g2) ?_
  refine yS (oj hn_g1 hn_g2) ?_
  refine yG (oj hn_g1 hn_g2) ?_
  refine yT hC (oj hn_g1 hn_g2) ?_
  exact ler_rd rfl
set_option maxHeartbeats 1600000 in
theorem sabs_fa (r : RD) (hw : r.wf 1073741824) : Fa Tryz.prog 49 [.agg (rdc r)] (.agg (rdc (rd r.abs))) := by
  obtain ⟨hl1, hl2⟩ := RD.p_len hw (by omega)
  refine fa_of_body Tryz.func49 rfl rfl (by simp [Tryz.ntmps49]) fun C hC => ?_
  simp only [initS, Nat.reduceAdd]
  refine xG ?_
  refine xB fun g1 hn_g1=>?_
  refine yA hn_g1 fun g2 hn_g2=>?_
  refine yG (oj hn_g1 hn_g2) ?_
  refine yC (oj hn_g1 hn_g2) (sparts_fa r hw) ?_
  refine yG (oj hn_g1 hn_g2) ?_
  refine yC (oj hn_g1 hn_g2) (sfromW false r.pn r.pd ?_ ?_ (RD.pd_ne hw)) ?_
  · omega
  · omega
  refine yG (oj hn_g1 hn_g2) ?_
  refine yA (oj hn_g1 hn_g2) fun g6 hn_g6=>?_
  refine yG (oj hn_g1 (oj hn_g2 hn_g6)) ?_
  refine yW (oj hn_g1 (oj hn_g2 hn_g6)) ?_
  refine yS (oj hn_g1 (oj hn_g2 hn_g6)) ?_
  refine yG (oj hn_g1 (oj hn_g2 hn_g6)) ?_
  refine yW (oj hn_g1 (oj hn_g2 hn_g6)) ?_
  refine yS (oj hn_g1 (oj hn_g2 hn_g6)) ?_
  refine yG (oj hn_g1 (oj hn_g2 hn_g6)) ?_
  refine yT hC (oj hn_g1 (oj hn_g2 hn_g6)) ?_
  exact ler_rd rfl
set_option maxHeartbeats 1600000 in
theorem rmin_fa (a b : RD) (ha : a.wf 400000000) (hb : b.wf 400000000) : Fa Tryz.prog 132 [.agg (rdc a), .agg (rdc b)] (.agg (rdc (rd (minQ a.q b.q)))) := by
  have he := min_eq a.q b.q
  refine fa_of_body Tryz.func132 rfl rfl (by simp [Tryz.ntmps132]) fun C hC => ?_
  simp only [initS, Nat.reduceAdd]
  refine xG ?_
  refine xB fun g2 hn_g2=>?_
  refine yB hn_g2 fun g3 hn_g3=>?_
  refine yA (oj hn_g2 hn_g3) fun g4 hn_g4=>?_
  refine yG (oj hn_g2 (oj hn_g3 hn_g4)) ?_
  refine yC (oj hn_g2 (oj hn_g3 hn_g4)) (rcmp_fa a b (wf_mono ha ?_) (wf_mono hb ?_)) ?_
  · omega
  · omega
  refine yG (oj hn_g2 (oj hn_g3 hn_g4)) ?_
  refine yF (oj hn_g2 (oj hn_g3 hn_g4)) (fun hc=>?_) fun hc=>?_
  · rw [if_pos (of_decide_eq_true hc)] at he
    refine yG (oj hn_g2 (oj hn_g3 hn_g4)) ?_
    refine yC (oj hn_g2 (oj hn_g3 hn_g4)) (rsame_fa a (wf_mono ha ?_)) ?_
    · omega
    refine yG (oj hn_g2 (oj hn_g3 hn_g4)) ?_
    refine yW (oj hn_g2 (oj hn_g3 hn_g4)) ?_
    refine yS (oj hn_g2 (oj hn_g3 hn_g4)) ?_
    refine yG (oj hn_g2 (oj hn_g3 hn_g4)) ?_
    refine yT hC (oj hn_g2 (oj hn_g3 hn_g4)) ?_
    exact ler_rd (congrArg rd he)
  · rw [if_neg (of_decide_eq_false hc)] at he
    refine yG (oj hn_g2 (oj hn_g3 hn_g4)) ?_
    refine yC (oj hn_g2 (oj hn_g3 hn_g4)) (rsame_fa b (wf_mono hb ?_)) ?_
    · omega
    refine yG (oj hn_g2 (oj hn_g3 hn_g4)) ?_
    refine yW (oj hn_g2 (oj hn_g3 hn_g4)) ?_
    refine yS (oj hn_g2 (oj hn_g3 hn_g4)) ?_
    refine yG (oj hn_g2 (oj hn_g3 hn_g4)) ?_
    refine yT hC (oj hn_g2 (oj hn_g3 hn_g4)) ?_
    exact ler_rd (congrArg rd he)
set_option maxHeartbeats 1600000 in
theorem rmax_fa (a b : RD) (ha : a.wf 400000000) (hb : b.wf 400000000) : Fa Tryz.prog 133 [.agg (rdc a), .agg (rdc b)] (.agg (rdc (rd (maxQ a.q b.q)))) := by
  have he := max_eq a.q b.q
  unfold maxR at he
  refine fa_of_body Tryz.func133 rfl rfl (by simp [Tryz.ntmps133]) fun C hC => ?_
  simp only [initS, Nat.reduceAdd]
  refine xG ?_
  refine xB fun g2 hn_g2=>?_
  refine yB hn_g2 fun g3 hn_g3=>?_
  refine yA (oj hn_g2 hn_g3) fun g4 hn_g4=>?_
  refine yG (oj hn_g2 (oj hn_g3 hn_g4)) ?_
  refine yC (oj hn_g2 (oj hn_g3 hn_g4)) (rcmp_fa a b (wf_mono ha ?_) (wf_mono hb ?_)) ?_
  · omega
  · omega
  refine yG (oj hn_g2 (oj hn_g3 hn_g4)) ?_
  refine yF (oj hn_g2 (oj hn_g3 hn_g4)) (fun hc=>?_) fun hc=>?_
  · rw [if_pos (of_decide_eq_true hc)] at he
    refine yG (oj hn_g2 (oj hn_g3 hn_g4)) ?_
    refine yC (oj hn_g2 (oj hn_g3 hn_g4)) (rsame_fa a (wf_mono ha ?_)) ?_
    · omega
    refine yG (oj hn_g2 (oj hn_g3 hn_g4)) ?_
    refine yW (oj hn_g2 (oj hn_g3 hn_g4)) ?_
    refine yS (oj hn_g2 (oj hn_g3 hn_g4)) ?_
    refine yG (oj hn_g2 (oj hn_g3 hn_g4)) ?_
    refine yT hC (oj hn_g2 (oj hn_g3 hn_g4)) ?_
    exact ler_rd (congrArg rd he)
  · rw [if_neg (of_decide_eq_false hc)] at he
    refine yG (oj hn_g2 (oj hn_g3 hn_g4)) ?_
    refine yC (oj hn_g2 (oj hn_g3 hn_g4)) (rsame_fa b (wf_mono hb ?_)) ?_
    · omega
    refine yG (oj hn_g2 (oj hn_g3 hn_g4)) ?_
    refine yW (oj hn_g2 (oj hn_g3 hn_g4)) ?_
    refine yS (oj hn_g2 (oj hn_g3 hn_g4)) ?_
    refine yG (oj hn_g2 (oj hn_g3 hn_g4)) ?_
    refine yT hC (oj hn_g2 (oj hn_g3 hn_g4)) ?_
    exact ler_rd (congrArg rd he)
set_option maxHeartbeats 1600000 in
theorem rtext_fa (r : RD) (hw : r.wf 100000) : Fa Tryz.prog 38 [.agg (rdc r)] (.c (.str (sB (rtxt r)))) := by
  obtain ⟨hl1, hl2⟩ := RD.p_len hw (by omega)
  have t1 := ntext_fa (words r.pn) (words_lt _) (by omega)
  have t2 := ntext_fa (words r.pd) (words_lt _) (by omega)
  have z1 := txtN_le hl1
  have z2 := txtN_le hl2
  rw [val_words] at t1 t2
  have hr : rtxt r = (if r.ps then [45] ++ txtN r.pn else txtN r.pn) ++ (if r.pd = 1 then [] else [47] ++ txtN r.pd) := rfl
  generalize txtN r.pn = T1 at *
  generalize txtN r.pd = T2 at *
  have e1 : (⟨#[45]⟩ : ByteArray) = sB [45] := rfl
  have e2 : (⟨#[47]⟩ : ByteArray) = sB [47] := rfl
  have s1 : ∀ l : List UInt8, (sB l).size = l.length := fun _ => rfl
  have s2 : (⟨#[45]⟩ : ByteArray).size = 1 := rfl
  have s3 : (⟨#[47]⟩ : ByteArray).size = 1 := rfl
  have s4 := s1 T1
  have s5 := s1 T2
  refine fa_of_body Tryz.func38 rfl rfl (by simp [Tryz.ntmps38]) fun C hC => ?_
  simp only [initS, Nat.reduceAdd]
  refine xG ?_
  refine xB fun g1 hn_g1=>?_
  refine yG hn_g1 ?_
  refine yC hn_g1 (rparts_fa r (wf_mono hw ?_)) ?_
  · omega
  refine yG hn_g1 ?_
  refine yC hn_g1 (t1) ?_
  refine yG hn_g1 ?_
  have hcm : Fa Tryz.prog 73 [.c (ws false (words r.pd)), .c (ws false [1])] (.c (.int .i64 (cmpN r.pd 1))) := by
    have := cmpW r.pd 1 (by omega) (by rw [words_cons (by omega)]; simp [words_zero])
    rwa [show words 1 = [1] from by rw [words_cons (by omega)]; simp [words_zero]] at this
  refine yF hn_g1 (fun hp=>?_) fun hp=>?_
  · rw [if_pos hp] at hr
    refine yG hn_g1 ?_
    refine aw_pok (POk.addStr (a := sB [45]) (b := sB T1) (by rw [s1, s1]; simp; omega) (by rfl) (zE hn_g1)) rfl rfl ?_
    rw [sb_app]
    refine yS hn_g1 ?_
    have s6 : (sB ([45] ++ T1)).size = T1.length + 1 := by show ([45] ++ T1).length = _; simp
    have s9 : ([45] ++ T1).length = T1.length + 1 := by simp
    replace hr : rtxt r = (45 :: T1) ++ (if r.pd = 1 then [] else [47] ++ T2) := hr
    have s7 : ∀ V : List UInt8, (sB ([47] ++ V)).size = V.length + 1 := fun V => by show ([47] ++ V).length = _; simp
    have s8 := s7 T2
    refine yG hn_g1 ?_
    refine yC hn_g1 (one_fa) ?_
    refine yG hn_g1 ?_
    refine yC hn_g1 (hcm) ?_
    refine yG hn_g1 ?_
    refine yF hn_g1 (fun hd=>?_) fun hd=>?_
    · have hd' : r.pd ≠ 1 := fun e => by rw [e] at hd; simp [cmpN] at hd
      rw [if_neg hd'] at hr
      refine yG hn_g1 ?_
      refine yC hn_g1 (t2) ?_
      refine yG hn_g1 ?_
      refine aw_pok (POk.addStr (a := sB [47]) (b := sB T2) (by rw [s1, s1]; simp; omega) (by rfl) (zE hn_g1)) rfl rfl ?_
      rw [sb_app]
      refine yS hn_g1 ?_
      refine yG hn_g1 ?_
      refine aw_pok (POk.addStr (a := sB (45 :: T1)) (b := sB (47 :: T2)) (by rw [s1, s1]; simp; omega) (zE hn_g1) (zE hn_g1)) rfl rfl ?_
      rw [sb_app, show (47 :: T2) = [47] ++ T2 from rfl, ← hr]
      refine yS hn_g1 ?_
      refine yG hn_g1 ?_
      refine yT hC hn_g1 ?_
      exact .one (.c (.str _))
    · have hd' : r.pd = 1 := by
        apply Classical.byContradiction
        intro e
        unfold cmpN at hd
        rw [if_neg e] at hd
        split at hd <;> simp at hd
      rw [if_pos hd', List.append_nil] at hr
      refine yG hn_g1 ?_
      rw [← hr]
      refine yT hC hn_g1 ?_
      exact .one (.c (.str _))
  · rw [if_neg (by rw [hp]; simp)] at hr
    have s7 : ∀ V : List UInt8, (sB ([47] ++ V)).size = V.length + 1 := fun V => by show ([47] ++ V).length = _; simp
    have s8 := s7 T2
    refine yG hn_g1 ?_
    refine yC hn_g1 (one_fa) ?_
    refine yG hn_g1 ?_
    refine yC hn_g1 (hcm) ?_
    refine yG hn_g1 ?_
    refine yF hn_g1 (fun hd=>?_) fun hd=>?_
    · have hd' : r.pd ≠ 1 := fun e => by rw [e] at hd; simp [cmpN] at hd
      rw [if_neg hd'] at hr
      refine yG hn_g1 ?_
      refine yC hn_g1 (t2) ?_
      refine yG hn_g1 ?_
      refine aw_pok (POk.addStr (a := sB [47]) (b := sB T2) (by rw [s1, s1]; simp; omega) (by rfl) (zE hn_g1)) rfl rfl ?_
      rw [sb_app]
      refine yS hn_g1 ?_
      refine yG hn_g1 ?_
      refine aw_pok (POk.addStr (a := sB T1) (b := sB (47 :: T2)) (by rw [s1, s1]; simp; omega) (zE hn_g1) (zE hn_g1)) rfl rfl ?_
      rw [sb_app, show (47 :: T2) = [47] ++ T2 from rfl, ← hr]
      refine yS hn_g1 ?_
      refine yG hn_g1 ?_
      refine yT hC hn_g1 ?_
      exact .one (.c (.str _))
    · have hd' : r.pd = 1 := by
        apply Classical.byContradiction
        intro e
        unfold cmpN at hd
        rw [if_neg e] at hd
        split at hd <;> simp at hd
      rw [if_pos hd', List.append_nil] at hr
      refine yG hn_g1 ?_
      rw [← hr]
      refine yT hC hn_g1 ?_
      exact .one (.c (.str _))
end Go.Proofs.YtmfmnmkipjpjhaaGreatDoor

/- span: Valid, of, norm. -/
namespace Go.PN
open Go.AI
structure SD where
  lo : RD
  hi : RD
def sd0 : SD := ⟨rd0, rd0⟩
abbrev spc (s : SD) : List CV := [.bool s.lo.neg, ws true s.lo.num, ws true s.lo.den, .bool s.hi.neg, ws true s.hi.num, ws true s.hi.den]
def SD.wf (s : SD) (L : Nat) : Prop := s.lo.wf L ∧ s.hi.wf L
def validS (s : SD) : Bool := s.lo.valid && s.hi.valid && decide (signQ (s.lo.q - s.hi.q) ≤ 0)
def nlo (s : SD) : Rat := if validS s then s.lo.q else 0
def nhi (s : SD) : Rat := if validS s then s.hi.q else 0
abbrev normS (s : SD) : SD := ⟨rd (nlo s), rd (nhi s)⟩
def mnF (a : Rat) (xs : List RD) : Rat := xs.foldl (fun a r => minQ a r.q) a
def mxF (a : Rat) (xs : List RD) : Rat := xs.foldl (fun a r => maxQ a r.q) a
theorem mnF_take {a : Rat} {xs : List RD} {j : Nat} (h : j < xs.length) : mnF a (xs.take (j + 1)) = minQ (mnF a (xs.take j)) (xs.getD j rd0).q := by
  unfold mnF
  rw [List.take_succ_eq_append_getElem h, List.foldl_append, List.getD_eq_getElem?_getD, List.getElem?_eq_getElem h]; rfl
theorem mxF_take {a : Rat} {xs : List RD} {j : Nat} (h : j < xs.length) : mxF a (xs.take (j + 1)) = maxQ (mxF a (xs.take j)) (xs.getD j rd0).q := by
  unfold mxF
  rw [List.take_succ_eq_append_getElem h, List.foldl_append, List.getD_eq_getElem?_getD, List.getElem?_eq_getElem h]; rfl
theorem mnF_fits {L : Nat} (hL : 1 ≤ L) : ∀ {xs : List RD} {a : Rat}, fits a L → (∀ r ∈ xs, r.wf L) → fits (mnF a xs) L
  | [], a, h, _ => h
  | x :: xs, a, h, hx => mnF_fits hL (xs := xs) (Go.Proofs.YtmfmnmkipjpjhaaGreatDoor.min_fits h (RD.fits (hx x (List.mem_cons_self ..)) hL)) fun r hr => hx r (List.mem_cons_of_mem _ hr)
theorem mxF_fits {L : Nat} (hL : 1 ≤ L) : ∀ {xs : List RD} {a : Rat}, fits a L → (∀ r ∈ xs, r.wf L) → fits (mxF a xs) L
  | [], a, h, _ => h
  | x :: xs, a, h, hx => mxF_fits hL (xs := xs) (fits_neg (Go.Proofs.YtmfmnmkipjpjhaaGreatDoor.min_fits (fits_neg h) (fits_neg (RD.fits (hx x (List.mem_cons_self ..)) hL)))) fun r hr => hx r (List.mem_cons_of_mem _ hr)
theorem min_self (a : Rat) : minQ a a = a := by rcases (min_le a a).2.2 with h | h <;> exact h
theorem max_self (a : Rat) : maxQ a a = a := by rcases (max_ge a a).2.2 with h | h <;> exact h
theorem ratsF_tail (x : RD) (xs : List RD) : (fun j => ratsF (x :: xs) (3 + j)) = ratsF xs := funext fun j => by
  show ofL _ ((3 + j) % 3) = ofL _ (j % 3)
  rw [show (3 + j) % 3 = j % 3 from by omega]
  congr 1
  rw [show (3 + j) / 3 = j / 3 + 1 from by omega]
  rfl
theorem valid_le {s : SD} (h : validS s = true) : s.lo.q ≤ s.hi.q := by
  unfold validS at h
  rw [signQ_le] at h
  simp only [Bool.and_eq_true, decide_eq_true_eq] at h
  have := h.2
  grind
theorem min_of_le {a b : Rat} (h : a ≤ b) : minQ a b = a := by obtain ⟨h1, h2, h3⟩ := min_le a b; grind
theorem max_of_le {a b : Rat} (h : a ≤ b) : maxQ a b = b := by obtain ⟨h1, h2, h3⟩ := max_ge a b; grind
theorem norm_fits {s : SD} {L : Nat} (hL : 1 ≤ L) (h : s.wf L) : fits (nlo s) L ∧ fits (nhi s) L := by
  unfold nlo nhi
  split
  · exact ⟨RD.fits h.1 hL, RD.fits h.2 hL⟩
  · exact ⟨fits_mono fits_zero hL, fits_mono fits_zero hL⟩
end Go.PN
namespace Go.Proofs.YtmfmnmkipjpjhaaGreatDoor
open Go.AI Go.PN
attribute [local irreducible] aw Fa Fh DrK
theorem lerl_sp {h : Heap} {s : SD} : LeRL h (spc s) (spc s) := ⟨.bool _, ler_ws, ler_ws, .bool _, ler_ws, ler_ws, trivial⟩
theorem ler_sp {h : Heap} {r s : SD} (e : r = s) : LeRA h (.agg (spc r)) (.agg (spc s)) := by subst e; exact .one (.agg lerl_sp)
set_option maxHeartbeats 1600000 in
theorem spvalid_fa (s : SD) (hw : s.wf 1000000) : Fa Tryz.prog 32 [.agg (spc s)] (.c (.bool (validS s))) := by
  obtain ⟨h1, h2⟩ := hw
  unfold validS
  refine fa_of_body Tryz.func32 rfl rfl (by simp [Tryz.ntmps32]) fun C hC => ?_
  simp only [initS, Nat.reduceAdd]
  refine xG ?_
  refine xB fun g1 hn_g1=>?_
  refine yG hn_g1 ?_
  refine yC hn_g1 (rvalid_fa s.lo (wf_mono h1 ?_)) ?_
  · omega
  refine yG hn_g1 ?_
  refine aw_split 6 (zE hn_g1) (fun hv => ?_) (fun hv => ?_) <;> refine yS hn_g1 ?_
  · refine yG hn_g1 ?_
    refine yC hn_g1 (rvalid_fa s.hi (wf_mono h2 ?_)) ?_
    · omega
    refine yG hn_g1 ?_
    refine aw_split 11 (zE hn_g1) (fun hv2 => ?_) (fun hv2 => ?_) <;> refine yS hn_g1 ?_
    · refine yG hn_g1 ?_
      refine yC hn_g1 (rcmp_fa s.lo s.hi (wf_mono h1 ?_) (wf_mono h2 ?_)) ?_
      · omega
      · omega
      refine yG hn_g1 ?_
      refine yT hC hn_g1 ?_
      exact .one (.c (ler_bool (by rw [hv, hv2]; rfl)))
    · refine yG hn_g1 ?_
      refine yT hC hn_g1 ?_
      exact .one (.c (ler_bool (by rw [hv, hv2]; rfl)))
  · refine yG hn_g1 ?_
    refine aw_split 11 (zE hn_g1) (fun hv2 => ?_) (fun hv2 => ?_) <;> refine yS hn_g1 ?_
    · cases hv2
    refine yG hn_g1 ?_
    refine yT hC hn_g1 ?_
    exact .one (.c (ler_bool (by rw [hv]; rfl)))
set_option maxRecDepth 100000 in
set_option maxHeartbeats 3200000 in
theorem spof_fa (x : RD) (xs : List RD) (hx : x.wf 100000) (hw : ∀ r ∈ xs, r.wf 100000) (hl : xs.length ≤ 1000) : Fa Tryz.prog 92 [.c (rats false (x :: xs))] (.agg (spc ⟨rd (mnF x.q xs), rd (mxF x.q xs)⟩)) := by
  have hfx := RD.fits hx (by omega)
  have m1 := rmin_fa x x (wf_mono hx (by omega)) (wf_mono hx (by omega))
  have m2 := rmax_fa x x (wf_mono hx (by omega)) (wf_mono hx (by omega))
  rw [min_self] at m1
  rw [max_self] at m2
  refine fa_of_body Tryz.func92 rfl rfl (by simp [Tryz.ntmps92]) fun C hC => ?_
  simp only [initS, Nat.reduceAdd]
  refine xG ?_
  refine xA fun g2 hn_g2=>?_
  refine yG hn_g2 ?_
  refine aw_cw ([]) [(0,0),(1,0),(2,0),(3,0),(4,0),(5,0),(6,0),(7,0),(8,0),(9,0),(10,0),(11,0),(12,0),(13,0),(14,0),(15,1),(16,1)] ty_mixed (by kernel_rfl) eI ?_
  refine yG hn_g2 ?_
  refine cw_callq rfl m1 rfl rfl rfl (fun _ _ => (zL hn_g2)) ?_
  refine yS hn_g2 ?_
  refine yG hn_g2 ?_
  refine cw_callq rfl m2 rfl rfl rfl (fun _ _ => (zL hn_g2)) ?_
  refine yS hn_g2 ?_
  refine yG hn_g2 ?_
  refine cw_alloc rfl rfl rfl rfl (zE hn_g2) has0_nil (fun g3 hn_g3 => ?_) (hm := .inr ⟨rfl, rfl⟩)
  replace hn_g3 := Heap.ne_of hn_g3
  dsimp only [Heap.ne] at hn_g3
  refine yS (oj hn_g2 hn_g3) ?_
  refine cw_store rfl rfl rfl rfl rfl (zE (oj hn_g2 hn_g3)) (zE (oj hn_g2 hn_g3)) (zE (oj hn_g2 hn_g3)) (zE (oj hn_g2 hn_g3)) (fun _ e => by cases e) rfl rfl (Nat.le_refl 6) rfl has0_nil ?_ (hm := .inr ⟨rfl, rfl⟩)
  refine yS (oj hn_g2 hn_g3) ?_
  refine yG (oj hn_g2 hn_g3) ?_
  refine aw_conv1 (f' := ofL (spc ⟨rd (mnF x.q (xs.take 0)), rd (mxF x.q (xs.take 0))⟩)) (fun j hj => by match j, hj with | 0, _ => rfl | 1, _ => rfl | 2, _ => rfl | 3, _ => rfl | 4, _ => rfl | 5, _ => rfl) ?_
  rw [ratsF_tail, show xs.length + 1 - 1 = xs.length from rfl]
  refine aw_lp (fun j : Nat => [(2, .c (.optr g2 0)), (3, .c (.optr g3 0)), (22, .c (rats false xs)), (23, .c (.int .i64 xs.length)), (24, .c (.int .i64 j))]) (fun j => [(g3, .cells 32 6 (ofL (spc ⟨rd (mnF x.q (xs.take j)), rd (mxF x.q (xs.take j))⟩))), (g2, .cells 32 6 (ofL [.bool false, .nils, .nils, .bool false, .nils, .nils]))]) (fun j => j ≤ xs.length) (fun j => xs.length - j) 0 (zB (oj hn_g2 hn_g3)) zZ (Nat.zero_le _) ?_
  rintro j hj
  have hmn := mnF_fits (L := 100000) (by omega) hfx (fun r hr => hw r (List.mem_of_mem_take (i := j) hr))
  have hmx := mxF_fits (L := 100000) (by omega) hfx (fun r hr => hw r (List.mem_of_mem_take (i := j) hr))
  refine yG (oj hn_g2 hn_g3) ?_
  refine yF (oj hn_g2 hn_g3) (fun h1=>?_) fun h1=>?_
  · have h1' : j < xs.length := by have := of_decide_eq_true h1; omega
    have hyw : (xs.getD j rd0).wf 100000 := by
      rw [List.getD_eq_getElem?_getD, List.getElem?_eq_getElem h1']
      exact hw _ (List.getElem_mem _)
    have e1 := mnF_take (a := x.q) h1'
    have e2 := mxF_take (a := x.q) h1'
    generalize mnF x.q (xs.take j) = A at *
    generalize mxF x.q (xs.take j) = B at *
    have m1 := rmin_fa (rd A) (xs.getD j rd0) (wf_mono (rd_wf hmn) (by omega)) (wf_mono hyw (by omega))
    have m2 := rmax_fa (rd B) (xs.getD j rd0) (wf_mono (rd_wf hmx) (by omega)) (wf_mono hyw (by omega))
    rw [rd_q, ← e1] at m1
    rw [rd_q, ← e2] at m2
    refine yG (oj hn_g2 hn_g3) ?_
    refine yA (oj hn_g2 hn_g3) fun g5 hn_g5=>?_
    refine yG (oj hn_g2 (oj hn_g3 hn_g5)) ?_
    refine yW (oj hn_g2 (oj hn_g3 hn_g5)) ?_
    refine yS (oj hn_g2 (oj hn_g3 hn_g5)) ?_
    refine aw_conv1 (f' := ofL (rdc (xs.getD j rd0))) (fun j hj => by match j, hj with | 0, _ => rfl | 1, _ => rfl | 2, _ => rfl) ?_
    refine yG (oj hn_g2 (oj hn_g3 hn_g5)) ?_
    generalize xs.getD j rd0 = y at *
    refine aw_cw ([(g5, .cells 30 3 (ofL (rdc y))), (g3, .cells 32 6 (ofL (spc ⟨rd A, rd B⟩)))]) [(0,0),(1,0),(2,0),(3,0),(4,0),(5,0),(6,0),(7,0),(8,0),(9,2),(10,0),(11,1)] ty_mixed (by kernel_rfl) eI ?_
    refine yG (oj hn_g2 (oj hn_g3 hn_g5)) ?_
    refine cw_callq rfl m1 rfl rfl rfl (fun _ _ => (zL (oj hn_g2 (oj hn_g3 hn_g5)))) ?_
    refine yS (oj hn_g2 (oj hn_g3 hn_g5)) ?_
    refine yG (oj hn_g2 (oj hn_g3 hn_g5)) ?_
    refine cw_callq rfl m2 rfl rfl rfl (fun _ _ => (zL (oj hn_g2 (oj hn_g3 hn_g5)))) ?_
    refine yS (oj hn_g2 (oj hn_g3 hn_g5)) ?_
    refine yG (oj hn_g2 (oj hn_g3 hn_g5)) ?_
    refine cw_store (FP' := []) rfl rfl rfl rfl rfl (zE (oj hn_g2 (oj hn_g3 hn_g5))) (zE (oj hn_g2 (oj hn_g3 hn_g5))) (zE (oj hn_g2 (oj hn_g3 hn_g5))) (zE (oj hn_g2 (oj hn_g3 hn_g5))) (fun _ e => by cases e) rfl rfl (by show 0 + 3 ≤ 6; omega) rfl has0_nil ?_
    refine yS (oj hn_g2 (oj hn_g3 hn_g5)) ?_
    refine yG (oj hn_g2 (oj hn_g3 hn_g5)) ?_
    refine cw_store rfl rfl rfl rfl rfl (zE (oj hn_g2 (oj hn_g3 hn_g5))) (zE (oj hn_g2 (oj hn_g3 hn_g5))) (zE (oj hn_g2 (oj hn_g3 hn_g5))) (zE (oj hn_g2 (oj hn_g3 hn_g5))) (fun _ e => by cases e) rfl rfl (by show 3 + 3 ≤ 6; omega) rfl has0_nil ?_ (hm := .inr ⟨rfl, rfl⟩)
    refine yS (oj hn_g2 (oj hn_g3 hn_g5)) ?_
    refine yG (oj hn_g2 (oj hn_g3 hn_g5)) ?_
    refine aw_weak (Sl.le_refl _) (List.sublist_cons_self _ _) ?_
    refine aw_conv1 (f' := ofL (spc ⟨rd (mnF x.q (xs.take (j + 1))), rd (mxF x.q (xs.take (j + 1)))⟩)) (fun j hj => by match j, hj with | 0, _ => rfl | 1, _ => rfl | 2, _ => rfl | 3, _ => rfl | 4, _ => rfl | 5, _ => rfl) ?_
    exact aw_stop ⟨j + 1, by omega, (zB (oj hn_g2 (oj hn_g3 hn_g5))), zZ, by omega⟩
  · have h1' : j = xs.length := by have := of_decide_eq_false h1; omega
    subst h1'
    rw [List.take_length] at *
    refine yG (oj hn_g2 hn_g3) ?_
    refine yW (oj hn_g2 hn_g3) ?_
    refine yS (oj hn_g2 hn_g3) ?_
    refine yG (oj hn_g2 hn_g3) ?_
    refine yT hC (oj hn_g2 hn_g3) ?_
    show LeRA _ (.agg (spc ⟨rd (mnF x.q xs), rd (mxF x.q xs)⟩)) _
    exact ler_sp rfl
theorem zero_sp {h : Heap} : LeRA h (.agg [.bool false, .nils, .nils, .bool false, .nils, .nils]) (.agg (spc ⟨rd 0, rd 0⟩)) := by
  rw [rd_zero]
  exact .one (.agg ⟨.bool _, .nils, .nils, .bool _, .nils, .nils, trivial⟩)
set_option maxRecDepth 100000 in
set_option maxHeartbeats 3200000 in
theorem norm_fa (s : SD) (hw : s.wf 100000) : Fa Tryz.prog 56 [.agg (spc s)] (.agg (spc (normS s))) := by
  have ho := spof_fa s.lo [s.hi] hw.1 (by simpa using hw.2) (by simp)
  refine fa_of_body Tryz.func56 rfl rfl (by simp [Tryz.ntmps56]) fun C hC => ?_
  simp only [initS, Nat.reduceAdd]
  refine xG ?_
  refine xB fun g1 hn_g1=>?_
  refine yA hn_g1 fun g2 hn_g2=>?_
  refine yG (oj hn_g1 hn_g2) ?_
  refine yC (oj hn_g1 hn_g2) (spvalid_fa s ⟨wf_mono hw.1 ?_, wf_mono hw.2 ?_⟩) ?_
  · omega
  · omega
  refine yG (oj hn_g1 hn_g2) ?_
  refine yF (oj hn_g1 hn_g2) (fun hv=>?_) fun hv=>?_
  · have hv' : validS s = false := by simpa using hv
    refine yG (oj hn_g1 hn_g2) ?_
    refine yW (oj hn_g1 hn_g2) ?_
    refine yS (oj hn_g1 hn_g2) ?_
    refine yG (oj hn_g1 hn_g2) ?_
    refine yT hC (oj hn_g1 hn_g2) ?_
    show LeRA _ (.agg [.bool false, .nils, .nils, .bool false, .nils, .nils]) (.agg (spc ⟨rd (nlo s), rd (nhi s)⟩))
    rw [show nlo s = 0 from by unfold nlo; rw [hv']; rfl, show nhi s = 0 from by unfold nhi; rw [hv']; rfl]
    exact zero_sp
  · have hv' : validS s = true := by simpa using hv
    have hle := valid_le hv'
    rw [show mnF s.lo.q [s.hi] = nlo s from by unfold nlo; rw [if_pos hv']; exact min_of_le hle, show mxF s.lo.q [s.hi] = nhi s from by unfold nhi; rw [if_pos hv']; exact max_of_le hle] at ho
    refine yG (oj hn_g1 hn_g2) ?_
    refine aw_buildSlice (xs := [.tmp 8, .tmp 10]) (cells := rdc s.lo ++ rdc s.hi) rfl (zE (oj hn_g1 hn_g2)) rfl (zE (oj hn_g1 hn_g2)) (by refine yS (oj hn_g1 hn_g2) ?_; rfl) rfl (by omega) (by omega) (by intro x hx; simp only [List.mem_cons, List.not_mem_nil, or_false] at hx; rcases hx with rfl | rfl <;> exact ⟨rfl, rfl, rfl⟩) rfl fun g9 hn_g9 => ?_
    replace hn_g9 := Heap.ne_of hn_g9
    dsimp only [Heap.ne] at hn_g9
    refine yS (oj hn_g1 (oj hn_g2 hn_g9)) ?_
    refine aw_frzT (t := 11) (ratsF [s.lo, s.hi]) (zE (oj hn_g1 (oj hn_g2 hn_g9))) (zE (oj hn_g1 (oj hn_g2 hn_g9))) (by omega) (hC g9) (fun q hq => by match q, hq with | 0, _ => rfl | 1, _ => rfl | 2, _ => rfl | 3, _ => rfl | 4, _ => rfl | 5, _ => rfl) rfl (zE (oj hn_g1 (oj hn_g2 hn_g9))) ?_
    refine yS (oj hn_g1 (oj hn_g2 hn_g9)) ?_
    refine yG (oj hn_g1 (oj hn_g2 hn_g9)) ?_
    refine yC (oj hn_g1 (oj hn_g2 hn_g9)) (ho) ?_
    refine yG (oj hn_g1 (oj hn_g2 hn_g9)) ?_
    refine yW (oj hn_g1 (oj hn_g2 hn_g9)) ?_
    refine yS (oj hn_g1 (oj hn_g2 hn_g9)) ?_
    refine yG (oj hn_g1 (oj hn_g2 hn_g9)) ?_
    refine yT hC (oj hn_g1 (oj hn_g2 hn_g9)) ?_
    show LeRA _ (.agg (spc ⟨rd (nlo s), rd (nhi s)⟩)) _
    exact ler_sp rfl
end Go.Proofs.YtmfmnmkipjpjhaaGreatDoor

/- span: Text, Width, Contains, Inside, Point; ref03: Valid, Arg, Contains, Inside. -/
namespace Go.PN
open Go.AI
def spTxt (s : SD) : List UInt8 := rtxt (rd (nlo s)) ++ [46, 46] ++ rtxt (rd (nhi s))
def argS (s : SD) : SD := if validS s then s else ⟨rd 0, rd 0⟩
def containsS (s : SD) (x : Rat) : Bool := decide (signQ (nlo s - x) ≤ 0) && decide (signQ (x - nhi s) ≤ 0)
def insideS (a b : SD) : Bool := containsS b (nlo a) && containsS b (nhi a)
theorem argS_q (s : SD) : (argS s).lo.q = nlo s ∧ (argS s).hi.q = nhi s := by
  unfold argS nlo nhi
  split
  · exact ⟨rfl, rfl⟩
  · exact ⟨rd_q 0, rd_q 0⟩
theorem argS_wf {s : SD} {L : Nat} (hL : 1 ≤ L) (h : s.wf L) : (argS s).wf L := by
  unfold argS
  split
  · exact h
  · exact ⟨rd_wf (fits_mono fits_zero hL), rd_wf (fits_mono fits_zero hL)⟩
end Go.PN
namespace Go.Proofs.YtmfmnmkipjpjhaaGreatDoor
open Go.AI Go.PN
attribute [local irreducible] aw Fa Fh DrK
set_option maxRecDepth 100000 in
set_option maxHeartbeats 1600000 in
theorem sptext_fa (s : SD) (hw : s.wf 100000) : Fa Tryz.prog 34 [.agg (spc s)] (.c (.str (sB (spTxt s)))) := by
  obtain ⟨f1, f2⟩ := norm_fits (by omega) hw
  have w1 := rd_wf f1
  have w2 := rd_wf f2
  have t1 := rtext_fa _ w1
  have t2 := rtext_fa _ w2
  have l1 := rtxt_len (by omega) w1
  have l2 := rtxt_len (by omega) w2
  have n1 := norm_fa s hw
  have s1 : ∀ l : List UInt8, (sB l).size = l.length := fun _ => rfl
  unfold spTxt
  generalize rtxt (rd (nlo s)) = T1 at *
  generalize rtxt (rd (nhi s)) = T2 at *
  refine fa_of_body Tryz.func34 rfl rfl (by simp [Tryz.ntmps34]) fun C hC => ?_
  simp only [initS, Nat.reduceAdd]
  refine xG ?_
  refine xB fun g1 hn_g1=>?_
  refine yG hn_g1 ?_
  refine yC hn_g1 (n1) ?_
  refine yG hn_g1 ?_
  refine yW hn_g1 ?_
  refine yS hn_g1 ?_
  refine aw_conv1 (f' := ofL (spc (normS s))) (fun j hj => by match j, hj with | 0, _ => rfl | 1, _ => rfl | 2, _ => rfl | 3, _ => rfl | 4, _ => rfl | 5, _ => rfl) ?_
  refine yG hn_g1 ?_
  refine aw_dr 9 ty_mixed (by kernel_rfl) ?_
  refine yG hn_g1 ?_
  refine yD hn_g1 (t1) ?_
  refine yG hn_g1 ?_
  refine drk_pok (POk.addStr (a := sB T1) (b := sB [46, 46]) (by rw [s1, s1]; simp; omega) (zE hn_g1) (by rfl)) rfl rfl ?_
  rw [sb_app]
  refine yS hn_g1 ?_
  refine yG hn_g1 ?_
  refine yD hn_g1 (t2) ?_
  refine yG hn_g1 ?_
  refine drk_pok (POk.addStr (a := sB (T1 ++ [46, 46])) (b := sB T2) (by rw [s1, s1]; simp; omega) (zE hn_g1) (zE hn_g1)) rfl rfl ?_
  rw [sb_app]
  refine yS hn_g1 ?_
  refine yG hn_g1 ?_
  refine yT hC hn_g1 ?_
  exact .one (.c (.str _))
set_option maxHeartbeats 1600000 in
theorem spwidth_fa (s : SD) (hw : s.wf 100000) : Fa Tryz.prog 27 [.agg (spc s)] (.agg (rdc (rd (nhi s - nlo s)))) := by
  obtain ⟨f1, f2⟩ := norm_fits (by omega) hw
  have n1 := norm_fa s hw
  have h1 := rsub_fa (rd (nhi s)) (rd (nlo s)) (wf_mono (rd_wf f2) (by omega)) (wf_mono (rd_wf f1) (by omega))
  rw [rd_q, rd_q] at h1
  refine fa_of_body Tryz.func27 rfl rfl (by simp [Tryz.ntmps27]) fun C hC => ?_
  simp only [initS, Nat.reduceAdd]
  refine xG ?_
  refine xB fun g1 hn_g1=>?_
  refine yA hn_g1 fun g2 hn_g2=>?_
  refine yG (oj hn_g1 hn_g2) ?_
  refine yC (oj hn_g1 hn_g2) (n1) ?_
  refine yG (oj hn_g1 hn_g2) ?_
  refine yW (oj hn_g1 hn_g2) ?_
  refine yS (oj hn_g1 hn_g2) ?_
  refine yG (oj hn_g1 hn_g2) ?_
  refine yC (oj hn_g1 hn_g2) (h1) ?_
  refine yG (oj hn_g1 hn_g2) ?_
  refine yW (oj hn_g1 hn_g2) ?_
  refine yS (oj hn_g1 hn_g2) ?_
  refine yG (oj hn_g1 hn_g2) ?_
  refine yT hC (oj hn_g1 hn_g2) ?_
  exact ler_rd rfl
set_option maxHeartbeats 1600000 in
theorem spvalidR_fa (s : SD) (hw : s.wf 1000000) : Fa Tryz.prog 77 [.agg (spc s)] (.c (.bool (validS s))) := by
  obtain ⟨h1, h2⟩ := hw
  unfold validS
  refine fa_of_body Tryz.func77 rfl rfl (by simp [Tryz.ntmps77]) fun C hC => ?_
  simp only [initS, Nat.reduceAdd]
  refine xG ?_
  refine xB fun g1 hn_g1=>?_
  refine yG hn_g1 ?_
  refine yC hn_g1 (svalid_fa s.lo (wf_mono h1 ?_)) ?_
  · omega
  refine yG hn_g1 ?_
  refine aw_split 6 (zE hn_g1) (fun hv => ?_) (fun hv => ?_) <;> refine yS hn_g1 ?_
  · refine yG hn_g1 ?_
    refine yC hn_g1 (svalid_fa s.hi (wf_mono h2 ?_)) ?_
    · omega
    refine yG hn_g1 ?_
    refine aw_split 11 (zE hn_g1) (fun hv2 => ?_) (fun hv2 => ?_) <;> refine yS hn_g1 ?_
    · refine yG hn_g1 ?_
      refine yC hn_g1 (scmp_fa s.lo s.hi (wf_mono h1 ?_) (wf_mono h2 ?_)) ?_
      · omega
      · omega
      refine yG hn_g1 ?_
      refine yT hC hn_g1 ?_
      exact .one (.c (ler_bool (by rw [hv, hv2]; rfl)))
    · refine yG hn_g1 ?_
      refine yT hC hn_g1 ?_
      exact .one (.c (ler_bool (by rw [hv, hv2]; rfl)))
  · refine yG hn_g1 ?_
    refine aw_split 11 (zE hn_g1) (fun hv2 => ?_) (fun hv2 => ?_) <;> refine yS hn_g1 ?_
    · cases hv2
    refine yG hn_g1 ?_
    refine yT hC hn_g1 ?_
    exact .one (.c (ler_bool (by rw [hv]; rfl)))
set_option maxHeartbeats 1600000 in
theorem sparg_fa (s : SD) (hw : s.wf 100000) : Fa Tryz.prog 122 [.agg (spc s)] (.agg (spc (argS s))) := by
  unfold argS
  refine fa_of_body Tryz.func122 rfl rfl (by simp [Tryz.ntmps122]) fun C hC => ?_
  simp only [initS, Nat.reduceAdd]
  refine xG ?_
  refine xB fun g1 hn_g1=>?_
  refine yA hn_g1 fun g2 hn_g2=>?_
  refine yG (oj hn_g1 hn_g2) ?_
  refine yC (oj hn_g1 hn_g2) (spvalidR_fa s ⟨wf_mono hw.1 ?_, wf_mono hw.2 ?_⟩) ?_
  · omega
  · omega
  refine yG (oj hn_g1 hn_g2) ?_
  refine yF (oj hn_g1 hn_g2) (fun hv=>?_) fun hv=>?_
  · have hv' : validS s = false := by simpa using hv
    rw [if_neg (by rw [hv']; simp)]
    refine yG (oj hn_g1 hn_g2) ?_
    refine yW (oj hn_g1 hn_g2) ?_
    refine yS (oj hn_g1 hn_g2) ?_
    refine yG (oj hn_g1 hn_g2) ?_
    refine yT hC (oj hn_g1 hn_g2) ?_
    show LeRA _ (.agg [.bool false, .nils, .nils, .bool false, .nils, .nils]) _
    exact zero_sp
  · have hv' : validS s = true := by simpa using hv
    rw [if_pos hv']
    refine yG (oj hn_g1 hn_g2) ?_
    refine yW (oj hn_g1 hn_g2) ?_
    refine yS (oj hn_g1 hn_g2) ?_
    refine yG (oj hn_g1 hn_g2) ?_
    refine yT hC (oj hn_g1 hn_g2) ?_
    show LeRA _ (.agg (spc s)) _
    exact ler_sp rfl
set_option maxHeartbeats 1600000 in
theorem spcontainsR_fa (s : SD) (x : RD) (hw : s.wf 100000) (hx : x.wf 100000) : Fa Tryz.prog 123 [.agg (spc s), .agg (rdc x)] (.c (.bool (containsS s x.q))) := by
  obtain ⟨f1, f2⟩ := argS_wf (by omega) hw
  obtain ⟨q1, q2⟩ := argS_q s
  have n1 := sparg_fa s hw
  have h1 := scmp_fa (argS s).lo x (wf_mono f1 (by omega)) (wf_mono hx (by omega))
  have h2 := scmp_fa x (argS s).hi (wf_mono hx (by omega)) (wf_mono f2 (by omega))
  rw [q1] at h1
  rw [q2] at h2
  unfold containsS
  refine fa_of_body Tryz.func123 rfl rfl (by simp [Tryz.ntmps123]) fun C hC => ?_
  simp only [initS, Nat.reduceAdd]
  refine xG ?_
  refine xB fun g2 hn_g2=>?_
  refine yB hn_g2 fun g3 hn_g3=>?_
  refine yG (oj hn_g2 hn_g3) ?_
  refine yC (oj hn_g2 hn_g3) (n1) ?_
  refine yG (oj hn_g2 hn_g3) ?_
  refine yW (oj hn_g2 hn_g3) ?_
  refine yS (oj hn_g2 hn_g3) ?_
  refine yG (oj hn_g2 hn_g3) ?_
  refine yC (oj hn_g2 hn_g3) (h1) ?_
  refine yG (oj hn_g2 hn_g3) ?_
  refine aw_split 12 (zE (oj hn_g2 hn_g3)) (fun hc => ?_) (fun hc => ?_) <;> refine yS (oj hn_g2 hn_g3) ?_
  · refine yG (oj hn_g2 hn_g3) ?_
    refine yC (oj hn_g2 hn_g3) (h2) ?_
    refine yG (oj hn_g2 hn_g3) ?_
    refine yT hC (oj hn_g2 hn_g3) ?_
    exact .one (.c (ler_bool (by rw [hc]; rfl)))
  · refine yG (oj hn_g2 hn_g3) ?_
    refine yT hC (oj hn_g2 hn_g3) ?_
    exact .one (.c (ler_bool (by rw [hc]; rfl)))
set_option maxHeartbeats 1600000 in
theorem spinsideR_fa (a b : SD) (ha : a.wf 100000) (hb : b.wf 100000) : Fa Tryz.prog 78 [.agg (spc a), .agg (spc b)] (.c (.bool (insideS a b))) := by
  obtain ⟨f1, f2⟩ := argS_wf (by omega) ha
  obtain ⟨q1, q2⟩ := argS_q a
  have n1 := sparg_fa a ha
  have h1 := spcontainsR_fa b (argS a).lo hb f1
  have h2 := spcontainsR_fa b (argS a).hi hb f2
  rw [q1] at h1
  rw [q2] at h2
  unfold insideS
  refine fa_of_body Tryz.func78 rfl rfl (by simp [Tryz.ntmps78]) fun C hC => ?_
  simp only [initS, Nat.reduceAdd]
  refine xG ?_
  refine xB fun g2 hn_g2=>?_
  refine yB hn_g2 fun g3 hn_g3=>?_
  refine yG (oj hn_g2 hn_g3) ?_
  refine yC (oj hn_g2 hn_g3) (n1) ?_
  refine yG (oj hn_g2 hn_g3) ?_
  refine yW (oj hn_g2 hn_g3) ?_
  refine yS (oj hn_g2 hn_g3) ?_
  refine yG (oj hn_g2 hn_g3) ?_
  refine yC (oj hn_g2 hn_g3) (h1) ?_
  refine yG (oj hn_g2 hn_g3) ?_
  refine aw_split 11 (zE (oj hn_g2 hn_g3)) (fun hc => ?_) (fun hc => ?_) <;> refine yS (oj hn_g2 hn_g3) ?_
  · refine yG (oj hn_g2 hn_g3) ?_
    refine yC (oj hn_g2 hn_g3) (h2) ?_
    refine yG (oj hn_g2 hn_g3) ?_
    refine yT hC (oj hn_g2 hn_g3) ?_
    exact .one (.c (ler_bool (by rw [hc]; rfl)))
  · refine yG (oj hn_g2 hn_g3) ?_
    refine yT hC (oj hn_g2 hn_g3) ?_
    exact .one (.c (ler_bool (by rw [hc]; rfl)))
end Go.Proofs.YtmfmnmkipjpjhaaGreatDoor

/- Rows of spans; ends; results of functions that hand back only what is new or kept. -/
namespace Go.AI
/-- All rows in it may be kept. -/
def tagsC : CV → Prop
  | .row t _ _ f => t = true ∧ ∀ j, tagsC (f j)
  | .ifc _ x => tagsC x
  | .rptr _ _ => False
  | _ => True
def tagsL : List CV → Prop
  | [] => True
  | x :: xs => tagsC x ∧ tagsL xs
def tags0 : AV → Prop
  | .c x => tagsC x
  | .agg xs => tagsL xs
  | .tup _ => False
def tagsT : List AV → Prop
  | [] => True
  | x :: xs => tags0 x ∧ tagsT xs
def tagsA : AV → Prop
  | .tup xs => tagsT xs
  | x => tags0 x
theorem tagsC_rep {S S' : Bool → Nat → Prop} {w : World} (hS : ∀ b, S true b → S' true b) : ∀ {x : CV} {v : Value}, tagsC x → RepC S w x v → RepC S' w x v := by
  intro x
  induction x with
  | any => intro v _ _; trivial
  | int k n => intro v _ hr; exact hr
  | bool b => intro v _ hr; exact hr
  | str s => intro v _ hr; exact hr
  | nilI => intro v _ hr; exact hr
  | nils => intro v _ hr; exact hr
  | ifc t x ih => intro v ht hr; obtain ⟨u, hu, hx⟩ := hr; exact ⟨u, hu, ih ht hx⟩
  | row t size n f ih =>
    intro v ht hr
    obtain ⟨rfl, ht⟩ := ht
    obtain ⟨A, c, hv, hc, hn⟩ := hr
    refine ⟨A, c, hv, hc, fun h0 => ?_⟩
    obtain ⟨ad, hA, hSb, hj⟩ := hn h0
    refine ⟨ad, hA, hS _ hSb, fun j hjl => ?_⟩
    obtain ⟨u, hu, hf⟩ := hj j hjl
    exact ⟨u, hu, ih j (ht j) hf⟩
  | osl g size off n => intro v _ hr; exact hr
  | optr g off => intro v _ hr; exact hr
  | rptr n f ih => intro v ht _; exact ht.elim
  | raw u => intro v _ hr; exact hr
theorem tagsL_rep {S S' : Bool → Nat → Prop} {w : World} (hS : ∀ b, S true b → S' true b) : ∀ {xs : List CV} {us : List Value}, tagsL xs → RepL S w xs us → RepL S' w xs us
  | [], [], _, _ => trivial
  | _ :: _, _ :: _, ht, hr => ⟨tagsC_rep hS ht.1 hr.1, tagsL_rep hS ht.2 hr.2⟩
  | [], _ :: _, _, hr => hr.elim
  | _ :: _, [], _, hr => hr.elim
theorem tags0_rep {S S' : Bool → Nat → Prop} {w : World} (hS : ∀ b, S true b → S' true b) {x : AV} {v : Value} (ht : tags0 x) (hr : Rep0 S w x v) : Rep0 S' w x v := by
  cases x with
  | c x => exact tagsC_rep hS ht hr
  | agg cs => obtain ⟨us, hv, hu⟩ := hr; exact ⟨us, hv, tagsL_rep hS ht hu⟩
  | tup xs => exact hr.elim
theorem tagsT_rep {S S' : Bool → Nat → Prop} {w : World} (hS : ∀ b, S true b → S' true b) : ∀ {xs : List AV} {us : List Value}, tagsT xs → RepT S w xs us → RepT S' w xs us
  | [], [], _, _ => trivial
  | _ :: _, _ :: _, ht, hr => ⟨tags0_rep hS ht.1 hr.1, tagsT_rep hS ht.2 hr.2⟩
  | [], _ :: _, _, hr => hr.elim
  | _ :: _, [], _, hr => hr.elim
theorem tagsA_rep {S S' : Bool → Nat → Prop} {w : World} (hS : ∀ b, S true b → S' true b) {x : AV} {v : Value} (ht : tagsA x) (hr : Rep S w x v) : Rep S' w x v := by
  cases x with
  | c x => exact tags0_rep (x := .c x) hS ht hr
  | agg cs => exact tags0_rep (x := .agg cs) hS ht hr
  | tup xs => obtain ⟨us, hv, hu⟩ := hr; exact ⟨us, hv, tagsT_rep hS ht hu⟩
/-- A function that hands back one thing, and no block to change. -/
theorem fa_of_fh {P : Program} {f : FuncId} {args : List AV} {Q : AV → Heap → Prop} {x : AV} (hx : tagsA x) (hf : Fh P f [] args Q) (hQ : ∀ y h, Q y h → h = [] ∧ y = x) : Fa P f args x := by
  refine ⟨hf.1, fun S w vs hS hlt hr => ?_⟩
  refine (hf.2 ⟨w, S, fun _ => False, hS, fun _ _ _ h => h, hlt⟩ vs (fun b => by simp [Heap.keys]) (by simp [Heap.keys]) (fun g o hm => by cases hm) hr).mono ?_
  rintro e w' ⟨v, r, h', he, hq, _, _, hrep, _, hfr⟩
  obtain ⟨rfl, rfl⟩ := hQ _ _ hq
  exact ⟨v, he, tagsA_rep (fun b hb => ⟨hb.1, hb.2.1⟩) hx hrep, hfr⟩
end Go.AI
namespace Go.PN
open Go.AI
def spsF (xs : List SD) : Nat → CV := lf 6 spc sd0 xs
abbrev sps (t : Bool) (xs : List SD) : CV := .row t 6 xs.length (spsF xs)
@[go_sem] theorem spsF_0 (xs : List SD) (i : Nat) : spsF xs (i * 6) = .bool (xs.getD i sd0).lo.neg := by
  have := lf_at (s := 6) (c := spc) (d := sd0) (xs := xs) (i := i) (k := 0) (by omega)
  exact this
@[go_sem] theorem spsF_1 (xs : List SD) (i : Nat) : spsF xs (i * 6 + 1) = ws true (xs.getD i sd0).lo.num := by
  have := lf_at (s := 6) (c := spc) (d := sd0) (xs := xs) (i := i) (k := 1) (by omega)
  exact this
@[go_sem] theorem spsF_2 (xs : List SD) (i : Nat) : spsF xs (i * 6 + 2) = ws true (xs.getD i sd0).lo.den := by
  have := lf_at (s := 6) (c := spc) (d := sd0) (xs := xs) (i := i) (k := 2) (by omega)
  exact this
@[go_sem] theorem spsF_3 (xs : List SD) (i : Nat) : spsF xs (i * 6 + 3) = .bool (xs.getD i sd0).hi.neg := by
  have := lf_at (s := 6) (c := spc) (d := sd0) (xs := xs) (i := i) (k := 3) (by omega)
  exact this
@[go_sem] theorem spsF_4 (xs : List SD) (i : Nat) : spsF xs (i * 6 + 4) = ws true (xs.getD i sd0).hi.num := by
  have := lf_at (s := 6) (c := spc) (d := sd0) (xs := xs) (i := i) (k := 4) (by omega)
  exact this
@[go_sem] theorem spsF_5 (xs : List SD) (i : Nat) : spsF xs (i * 6 + 5) = ws true (xs.getD i sd0).hi.den := by
  have := lf_at (s := 6) (c := spc) (d := sd0) (xs := xs) (i := i) (k := 5) (by omega)
  exact this
/-- The upper ends of the events of a set, the lower ends of the others. -/
def endTo (s : List SD) (u : Nat) (k : Nat) : List RD := (List.range k).map fun i => if u.testBit i then (s.getD i sd0).hi else (s.getD i sd0).lo
theorem endTo_len (s : List SD) (u k : Nat) : (endTo s u k).length = k := by simp [endTo]
theorem endTo_succ (s : List SD) (u k : Nat) : endTo s u (k + 1) = endTo s u k ++ [if u.testBit k then (s.getD k sd0).hi else (s.getD k sd0).lo] := by simp [endTo, List.range_succ]
end Go.PN
namespace Go.Proofs.YtmfmnmkipjpjhaaGreatDoor
open Go.AI Go.PN
attribute [local irreducible] aw Fa Fh DrK
set_option maxRecDepth 100000 in
set_option maxHeartbeats 1600000 in
theorem ends_fa (s : List SD) (u : Nat) (hu : u < 9223372036854775808) (hl : s.length ≤ 60) : Fa Tryz.prog 40 [.c (sps false s), .c (.int .i64 u)] (.c (rats true (endTo s u s.length))) := by
  refine fa_of_body Tryz.func40 rfl rfl (by simp [Tryz.ntmps40]) fun C hC => ?_
  simp only [initS, Nat.reduceAdd]
  refine xG ?_
  refine aw_lp (fun x : Option Nat × Nat => [(1, .c (.int .i64 u)), (5, .c (gs x.1 3 x.2)), (8, .c (sps false s)), (9, .c (.int .i64 s.length)), (10, .c (.int .i64 x.2))]) (fun x => gh x.1 30 (x.2 * 3) (ratsF (endTo s u x.2)))
    (fun x => x.2 ≤ s.length ∧ (x.1 = none → x.2 = 0)) (fun x => s.length - x.2) (none, 0) eB zZ ⟨Nat.zero_le _, fun _ => rfl⟩ ?_
  rintro ⟨og, k⟩ ⟨hk, hog⟩
  dsimp only at hk hog ⊢
  refine xG ?_
  refine xF (fun h1=>?_) fun h1=>?_
  · have h1' : k < s.length := by have := of_decide_eq_true h1; omega
    have e1 := endTo_succ s u k
    have b1 := shrZ_nat u k (by omega)
    have b2 := and_one_nat (u / 2 ^ k) (Nat.lt_of_le_of_lt (Nat.div_le_self _ _) hu)
    have b3 := bit_eq u k
    refine yG (oj b1 (oj b2 b3)) ?_
    refine yA (oj b1 (oj b2 b3)) fun g7 hn_g7=>?_
    generalize s.getD k sd0 = y at *
    refine yG (oj b1 (oj b2 (oj b3 hn_g7))) ?_
    refine yW (oj b1 (oj b2 (oj b3 hn_g7))) ?_
    refine yS (oj b1 (oj b2 (oj b3 hn_g7))) ?_
    refine aw_conv1 (f' := ofL (spc y)) (fun j hj => by match j, hj with | 0, _ => rfl | 1, _ => rfl | 2, _ => rfl | 3, _ => rfl | 4, _ => rfl | 5, _ => rfl) ?_
    refine yG (oj b1 (oj b2 (oj b3 hn_g7))) ?_
    refine yF (oj b1 (oj b2 (oj b3 hn_g7))) (fun hb=>?_) fun hb=>?_
    · rw [if_pos hb] at e1
      refine yG (oj b1 (oj b2 (oj b3 hn_g7))) ?_
      refine aw_push (pre := [(g7, .cells 32 6 (ofL (spc y)))]) rfl rfl rfl rfl rfl rfl rfl (zE (oj b1 (oj b2 (oj b3 hn_g7)))) (zE (oj b1 (oj b2 (oj b3 hn_g7)))) (by rfl) (by omega) (by omega) (zE (oj b1 (oj b2 (oj b3 hn_g7)))) (by omega) (by exact hog) (zE (oj b1 (oj b2 (oj b3 hn_g7)))) (by rfl) (by rfl) (by first | rfl | simp only [Nat.mul_one, List.nil_append, List.cons_append] <;> rfl) (by unfold maxLen; omega) (by omega) (by exact rats_push (endTo_len s u k) _) fun g hn_g => ?_
      replace hn_g := Heap.ne_of hn_g
      first | dsimp only [Heap.ne, gh] at hn_g | dsimp only [Heap.ne] at hn_g | skip
      refine yS (oj b1 (oj b2 (oj b3 (oj hn_g7 hn_g)))) ?_
      refine yG (oj b1 (oj b2 (oj b3 (oj hn_g7 hn_g)))) ?_
      rw [← e1]
      exact aw_stop ⟨(some g, k + 1), by dsimp only; omega, (zB (oj b1 (oj b2 (oj b3 (oj hn_g7 hn_g))))), .cons _ (.refl _), by dsimp only; omega, some_ne⟩
    · rw [if_neg (by rw [hb]; simp)] at e1
      refine yG (oj b1 (oj b2 (oj b3 hn_g7))) ?_
      refine aw_push (pre := [(g7, .cells 32 6 (ofL (spc y)))]) rfl rfl rfl rfl rfl rfl rfl (zE (oj b1 (oj b2 (oj b3 hn_g7)))) (zE (oj b1 (oj b2 (oj b3 hn_g7)))) (by rfl) (by omega) (by omega) (zE (oj b1 (oj b2 (oj b3 hn_g7)))) (by omega) (by exact hog) (zE (oj b1 (oj b2 (oj b3 hn_g7)))) (by rfl) (by rfl) (by first | rfl | simp only [Nat.mul_one, List.nil_append, List.cons_append] <;> rfl) (by unfold maxLen; omega) (by omega) (by exact rats_push (endTo_len s u k) _) fun g hn_g => ?_
      replace hn_g := Heap.ne_of hn_g
      first | dsimp only [Heap.ne, gh] at hn_g | dsimp only [Heap.ne] at hn_g | skip
      refine yS (oj b1 (oj b2 (oj b3 (oj hn_g7 hn_g)))) ?_
      refine yG (oj b1 (oj b2 (oj b3 (oj hn_g7 hn_g)))) ?_
      rw [← e1]
      exact aw_stop ⟨(some g, k + 1), by dsimp only; omega, (zB (oj b1 (oj b2 (oj b3 (oj hn_g7 hn_g))))), .cons _ (.refl _), by dsimp only; omega, some_ne⟩
  · have h1' : k = s.length := by have := of_decide_eq_false h1; omega
    subst h1'
    refine xG ?_
    refine xT hC ?_
    exact .one (.c (ler_gsr (pre := []) hog (fun g e => by simp [Heap.keys]) (endTo_len s u _)))
set_option maxRecDepth 100000 in
set_option maxHeartbeats 1600000 in
theorem endsR_fa (s : List SD) (u : Nat) (hu : u < 9223372036854775808) (hl : s.length ≤ 60) : Fa Tryz.prog 82 [.c (sps false s), .c (.int .i64 u)] (.c (rats true (endTo s u s.length))) := by
  refine fa_of_body Tryz.func82 rfl rfl (by simp [Tryz.ntmps82]) fun C hC => ?_
  simp only [initS, Nat.reduceAdd]
  refine xG ?_
  refine aw_lp (fun x : Option Nat × Nat => [(1, .c (.int .i64 u)), (5, .c (gs x.1 3 x.2)), (8, .c (sps false s)), (9, .c (.int .i64 s.length)), (10, .c (.int .i64 x.2))]) (fun x => gh x.1 30 (x.2 * 3) (ratsF (endTo s u x.2)))
    (fun x => x.2 ≤ s.length ∧ (x.1 = none → x.2 = 0)) (fun x => s.length - x.2) (none, 0) eB zZ ⟨Nat.zero_le _, fun _ => rfl⟩ ?_
  rintro ⟨og, k⟩ ⟨hk, hog⟩
  dsimp only at hk hog ⊢
  refine xG ?_
  refine xF (fun h1=>?_) fun h1=>?_
  · have h1' : k < s.length := by have := of_decide_eq_true h1; omega
    have e1 := endTo_succ s u k
    have b1 := shrZ_nat u k (by omega)
    have b2 := and_one_nat (u / 2 ^ k) (Nat.lt_of_le_of_lt (Nat.div_le_self _ _) hu)
    have b3 := bit_eq u k
    refine yG (oj b1 (oj b2 b3)) ?_
    refine yA (oj b1 (oj b2 b3)) fun g7 hn_g7=>?_
    generalize s.getD k sd0 = y at *
    refine yG (oj b1 (oj b2 (oj b3 hn_g7))) ?_
    refine yW (oj b1 (oj b2 (oj b3 hn_g7))) ?_
    refine yS (oj b1 (oj b2 (oj b3 hn_g7))) ?_
    refine aw_conv1 (f' := ofL (spc y)) (fun j hj => by match j, hj with | 0, _ => rfl | 1, _ => rfl | 2, _ => rfl | 3, _ => rfl | 4, _ => rfl | 5, _ => rfl) ?_
    refine yG (oj b1 (oj b2 (oj b3 hn_g7))) ?_
    refine yF (oj b1 (oj b2 (oj b3 hn_g7))) (fun hb=>?_) fun hb=>?_
    · rw [if_pos hb] at e1
      refine yG (oj b1 (oj b2 (oj b3 hn_g7))) ?_
      refine aw_push (pre := [(g7, .cells 32 6 (ofL (spc y)))]) rfl rfl rfl rfl rfl rfl rfl (zE (oj b1 (oj b2 (oj b3 hn_g7)))) (zE (oj b1 (oj b2 (oj b3 hn_g7)))) (by rfl) (by omega) (by omega) (zE (oj b1 (oj b2 (oj b3 hn_g7)))) (by omega) (by exact hog) (zE (oj b1 (oj b2 (oj b3 hn_g7)))) (by rfl) (by rfl) (by first | rfl | simp only [Nat.mul_one, List.nil_append, List.cons_append] <;> rfl) (by unfold maxLen; omega) (by omega) (by exact rats_push (endTo_len s u k) _) fun g hn_g => ?_
      replace hn_g := Heap.ne_of hn_g
      first | dsimp only [Heap.ne, gh] at hn_g | dsimp only [Heap.ne] at hn_g | skip
      refine yS (oj b1 (oj b2 (oj b3 (oj hn_g7 hn_g)))) ?_
      refine yG (oj b1 (oj b2 (oj b3 (oj hn_g7 hn_g)))) ?_
      rw [← e1]
      exact aw_stop ⟨(some g, k + 1), by dsimp only; omega, (zB (oj b1 (oj b2 (oj b3 (oj hn_g7 hn_g))))), .cons _ (.refl _), by dsimp only; omega, some_ne⟩
    · rw [if_neg (by rw [hb]; simp)] at e1
      refine yG (oj b1 (oj b2 (oj b3 hn_g7))) ?_
      refine aw_push (pre := [(g7, .cells 32 6 (ofL (spc y)))]) rfl rfl rfl rfl rfl rfl rfl (zE (oj b1 (oj b2 (oj b3 hn_g7)))) (zE (oj b1 (oj b2 (oj b3 hn_g7)))) (by rfl) (by omega) (by omega) (zE (oj b1 (oj b2 (oj b3 hn_g7)))) (by omega) (by exact hog) (zE (oj b1 (oj b2 (oj b3 hn_g7)))) (by rfl) (by rfl) (by first | rfl | simp only [Nat.mul_one, List.nil_append, List.cons_append] <;> rfl) (by unfold maxLen; omega) (by omega) (by exact rats_push (endTo_len s u k) _) fun g hn_g => ?_
      replace hn_g := Heap.ne_of hn_g
      first | dsimp only [Heap.ne, gh] at hn_g | dsimp only [Heap.ne] at hn_g | skip
      refine yS (oj b1 (oj b2 (oj b3 (oj hn_g7 hn_g)))) ?_
      refine yG (oj b1 (oj b2 (oj b3 (oj hn_g7 hn_g)))) ?_
      rw [← e1]
      exact aw_stop ⟨(some g, k + 1), by dsimp only; omega, (zB (oj b1 (oj b2 (oj b3 (oj hn_g7 hn_g))))), .cons _ (.refl _), by dsimp only; omega, some_ne⟩
  · have h1' : k = s.length := by have := of_decide_eq_false h1; omega
    subst h1'
    refine xG ?_
    refine xT hC ?_
    exact .one (.c (ler_gsr (pre := []) hog (fun g e => by simp [Heap.keys]) (endTo_len s u _)))
end Go.Proofs.YtmfmnmkipjpjhaaGreatDoor
