/- Texts of one proof, laid one behind the other by a program (merge.py): PAwk, Awk, PTot. -/
import Derived.Test.YtmkomfdiggcloaaM20
import Derived.Test.YtmkomfdiggcloaaM18
set_option linter.unusedSimpArgs false
set_option linter.unusedVariables false
/- The chapter's example: two of three events; what the laws' first calls come to, reckoned. -/
namespace Go.PN
open Go.AI
def wtQ (y n : Nat) (qs : List Rat) : Nat → Rat
  | 0 => 1
  | k + 1 => wtQ y n qs k * wfac y n k (qs.getD k 0)
def smQ (qs : List Rat) (tb : List Bool) : Nat → Rat
  | 0 => 0
  | k + 1 => if tb.getD k false then smQ qs tb k + wtQ k (2 ^ qs.length - 1 - k) qs qs.length else smQ qs tb k
def cdQ (y n : Nat) (qs : List Rat) : Nat → List Rat
  | 0 => []
  | k + 1 => cdQ y n qs k ++ [if y.testBit k then 1 else if n.testBit k then 0 else qs.getD k 0]
theorem rd0_rd : rd0 = rd 0 := rd_zero.symm
theorem map_rd_q (qs : List Rat) (k : Nat) : ((qs.map rd).getD k rd0).q = qs.getD k 0 := by
  rw [List.getD_eq_getElem?_getD, List.getD_eq_getElem?_getD, List.getElem?_map]
  cases qs[k]? with
  | none => show rd0.q = 0; rw [rd0_rd, rd_q]
  | some x => exact rd_q x
theorem map_rd_get (qs : List Rat) (k : Nat) : (qs.map rd).getD k rd0 = rd (qs.getD k 0) := by
  rw [List.getD_eq_getElem?_getD, List.getD_eq_getElem?_getD, List.getElem?_map]
  cases qs[k]? with
  | none => exact rd0_rd
  | some x => rfl
theorem wtTo_rd (y n : Nat) (qs : List Rat) : ∀ k, wtTo y n (qs.map rd) k = wtQ y n qs k
  | 0 => rfl
  | k + 1 => by rw [wtTo, wtQ, wtTo_rd y n qs k, map_rd_q]
theorem sumQ_rd (qs : List Rat) (tb : List Bool) : ∀ k, sumQ (qs.map rd) tb k = smQ qs tb k
  | 0 => rfl
  | k + 1 => by rw [sumQ, smQ, sumQ_rd qs tb k, stQ, List.length_map, wtTo_rd]
theorem condL_rd (y n : Nat) (qs : List Rat) : ∀ k, condL y n (qs.map rd) k = (cdQ y n qs k).map rd
  | 0 => rfl
  | k + 1 => by
    rw [condL, cdQ, condL_rd y n qs k, List.map_append, map_rd_get]
    congr 1
    unfold condR
    split
    · rfl
    · split
      · rw [rd0_rd]; rfl
      · rfl
theorem pcode_rd {qs : List Rat} {v : Int} (hl : (qs.length : Int) = v) (h : qs.all (fun q => decide (0 ≤ q) && decide (q ≤ 1)) = true) : pcode (qs.map rd) v = 0 := by
  unfold pcode
  rw [if_neg (by simpa using hl), if_pos ?_]
  rw [List.all_map, List.all_eq_true]
  intro q hq
  have := List.all_eq_true.1 h q hq
  show (rd q).prob = true
  unfold RD.prob
  rw [rd_valid, rd_q, Bool.true_and]
  exact this
/-- The example. -/
abbrev exF : FM := ⟨3, [⟨4, 2, [0, 1, 2]⟩], 3⟩
abbrev exT : List Bool := [false, false, false, true, false, true, true, true]
abbrev exD : DG := ⟨[0, 1, 2], [⟨2, 0, 1⟩, ⟨1, 0, 2⟩, ⟨1, 2, 1⟩, ⟨0, 3, 4⟩], 5⟩
abbrev exQ3 : List Rat := [1 / 2, 1 / 3, 1 / 4]
abbrev exP : List RD := exQ3.map rd
theorem exF_ok : FmOk exF := ⟨by decide, by decide, by decide, by
  intro x hx
  simp only [List.mem_singleton] at hx
  subst hx
  exact ⟨by simp, by
    intro y hy
    simp only [List.mem_cons, List.not_mem_nil, or_false] at hy
    rcases hy with rfl | rfl | rfl <;> simp⟩, by decide, by simp⟩
theorem exF_val (k : Nat) : formTo.fvalB' exF k = decide (2 ≤ (([0, 1, 2] : List Int).filter fun a => k.testBit a.toNat).length) := by
  have e : fvTo exF k 1 = [nodeB exF [false] k ⟨4, 2, [0, 1, 2]⟩] := rfl
  unfold formTo.fvalB'
  show ofB exF (fvTo exF k 1) k 3 = _
  rw [e]
  unfold ofB
  rw [if_neg (by decide)]
  show nodeB exF [false] k ⟨4, 2, [0, 1, 2]⟩ = _
  unfold nodeB
  rw [if_neg (by decide), if_neg (by decide), if_neg (by decide), if_neg (by decide), if_pos (by decide)]
  have hc : cntB exF [false] k [0, 1, 2] = (([0, 1, 2] : List Int).filter fun a => k.testBit a.toNat).length := by
    unfold cntB
    congr 1
  rw [hc]
  show decide (((([0, 1, 2] : List Int).filter fun a => k.testBit a.toNat).length : Int) ≥ 2) = _
  congr 1
  simp only [ge_iff_le, eq_iff_iff]
  omega
theorem exT_eq : formTo exF (2 ^ exF.vars.toNat) = exT := by
  show formTo exF 8 = exT
  simp only [formTo, exF_val]
  decide
theorem exD_eq : addF [0, 1, 2] exT 3 0 0 [] = (exD.nodes, exD.root) := by decide +kernel
theorem exD_code : dcode exD = 0 := by decide +kernel
theorem exP_code : dpcode exD exP = 0 := by
  unfold dpcode
  rw [if_neg (by rw [exD_code]; simp)]
  exact pcode_rd rfl (by decide +kernel)
theorem exP_q : sumQ exP (tabL exD) 8 = 7 / 24 := by
  rw [sumQ_rd]
  decide +kernel
theorem exP_g : gcode exP 1 0 = 0 := by
  have hc : ccode 1 0 = 0 := by
    unfold ccode
    have e := andZ_nat 1 0 (by omega) (by omega)
    rw [if_neg (by decide), if_neg (by simpa using e)]
  unfold gcode
  rw [if_neg (by rw [hc]; simp), if_neg (by decide), if_neg ?_]
  rw [wtTo_rd]
  decide +kernel
theorem exP_gq : sumQ (condL 1 0 exP 3) (tabL exD) 8 = 1 / 2 := by
  rw [condL_rd, sumQ_rd]
  decide +kernel
theorem exP_wf : ∀ r ∈ exP, r.wf 4 := by
  intro r hr
  obtain ⟨q, hq, rfl⟩ := List.mem_map.1 hr
  refine rd_wf (fits_mono (L := 1) ?_ (by omega))
  simp only [List.mem_cons, List.not_mem_nil, or_false] at hq
  rcases hq with rfl | rfl | rfl <;> exact ⟨by decide +kernel, by decide +kernel⟩
end Go.PN

/- faultlineref15: Of, Build; faultlinelaw37: example, awake. -/
namespace Go.AI
section
variable {E : Env} {K : List It} {σ : Sl} {h : Heap}
theorem Sl.set_set (t : Nat) (u v : AV) : ∀ σ : Sl, (σ.set t u).set t v = σ.set t v
  | [] => by simp [Sl.set]
  | (t', x) :: σ => by
    simp only [Sl.set]
    by_cases e : t' = t
    · rw [if_pos e, if_pos e]; simp [Sl.set]
    · rw [if_neg e, if_neg e]; simp only [Sl.set, if_neg e]; rw [Sl.set_set t u v σ]
/-- A block of its own is given up, told otherwise. -/
theorem aw_frzT {t g s off n m : Nat} {ty : TypeId} {f : Nat → CV} (f' : Nat → CV) {σ' : Sl} {h' : Heap} (ht : σ.get t = .c (.osl g s off n)) (hg : h.get g = some (.cells ty m f)) (hm : off + n * s ≤ m) (hn : ¬ E.C.own0 g) (hf : ∀ j, j < n * s → f (off + j) = f' j) (hσ : σ.set t (.c (.row true s n f')) = σ') (hh : h.del g = h')
    (k : aw E K σ' h') : aw E K σ h := by
  refine aw_frz ht hg hm hn rfl hh ?_
  refine aw_conv (t := t) (v := .c (.row true s n f')) (σ' := σ') (fun S w u hr => ?_) ?_ k
  · rw [Sl.get_set, if_pos rfl] at hr
    obtain ⟨A, c, hv, hc, hn⟩ := hr
    refine ⟨A, c, hv, hc, fun h0 => ?_⟩
    obtain ⟨ad, hA, hS, hj⟩ := hn h0
    refine ⟨ad, hA, hS, fun j hjl => ?_⟩
    obtain ⟨u, hu, hru⟩ := hj j hjl
    exact ⟨u, hu, by rw [← hf j hjl]; exact hru⟩
  · rw [← hσ, Sl.set_set]
theorem ler_gsd {pre : Heap} {og : Option Nat} {e n : Nat} {t : Bool} {vs : List DN} (hog : og = none → n = 0) (hn : ∀ g, og = some g → g ∉ pre.keys) (hl : vs.length = n) : LeR (pre ++ gh og e (n * 3) (dnsF vs)) (gs og 3 n) (dns t vs) := by
  subst hl
  exact ler_gs hog hn (lf_ler (by omega) fun x _ k hk => by match k, hk with | 0, _ => exact .int _ _ | 1, _ => exact .int _ _ | 2, _ => exact .int _ _)
end
end Go.AI
namespace Go.Proofs.Ytmkomfdiggcloaa
open Go.AI Go.PN
attribute [local irreducible] aw Fa Fh DrK
theorem add_ok (o : List Int) (tb : List Bool) (rt : Int) (ho : o.length ≤ 12) (hr : ∀ x ∈ o, 0 ≤ x ∧ x < o.length) (ht : tb.length = 2 ^ o.length) : ∀ k, AddOk o tb rt k
  | 0 => add_zero o tb rt ho hr ht
  | k + 1 => add_succ o tb rt ho hr ht k (add_ok o tb rt ho hr ht k)
set_option maxRecDepth 100000 in
set_option maxHeartbeats 1600000 in
theorem of15_fa (tb : List Bool) (o : List Int) (h0 : 0 < o.length) (ho : o.length ≤ 12) (hr : ∀ x ∈ o, 0 ≤ x ∧ x < o.length) (ht : tb.length = 2 ^ o.length) :
    Fa Try.prog 62 [.c (bs false tb), .c (is false o)] (.agg (dgc true ⟨o, (addF o tb o.length 0 0 []).1, (addF o tb o.length 0 0 []).2⟩)) := by
  have h2o : 2 ^ o.length ≤ 4096 := by
    have h3 : 2 ^ o.length ≤ 2 ^ 12 := Nat.pow_le_pow_right (by omega) (by omega)
    have h4 : (2 : Nat) ^ 12 = 4096 := by decide
    omega
  have hpos : 0 < 2 ^ o.length := Nat.pow_pos (by omega)
  refine fa_of_body Try.func62 rfl rfl (by simp [Try.ntmps62]) fun C hC => ?_
  simp only [initS, Nat.reduceAdd]
  repeat first|apply wa1|apply wa2|apply wa3|apply wa4|apply wa5 rfl|apply wa6|apply wa7|(refine wb1 rfl fun R r=>?_;simp only[go_sem];with_reducible refine r _ _ ?_;clear r R)
  refine aw_alloc rfl rfl rfl (by simp only[go_sem]<;>rfl) fun g4 hn_g4 => ?_
  replace hn_g4 := Heap.ne_of hn_g4
  first | dsimp only [Heap.ne, gh] at hn_g4 | dsimp only [Heap.ne] at hn_g4 | skip
  (try simp only[go_sem, hn_g4])
  repeat first|apply wa1|apply wa2|apply wa3|apply wa4|apply wa5 rfl|apply wa6|apply wa7|(refine wb1 rfl fun R r=>?_;simp only[go_sem, hn_g4];with_reducible refine r _ _ ?_;clear r R)
  refine aw_alloc rfl rfl rfl (by simp only[go_sem, hn_g4]<;>rfl) fun g5 hn_g5 => ?_
  replace hn_g5 := Heap.ne_of hn_g5
  first | dsimp only [Heap.ne, gh] at hn_g5 | dsimp only [Heap.ne] at hn_g5 | skip
  (try simp only[go_sem, hn_g4, hn_g5])
  repeat first|apply wa1|apply wa2|apply wa3|apply wa4|apply wa5 rfl|apply wa6|apply wa7|(refine wb1 rfl fun R r=>?_;simp only[go_sem, hn_g4, hn_g5];with_reducible refine r _ _ ?_;clear r R)
  refine aw_store rfl rfl rfl rfl (by simp only[go_sem, hn_g4, hn_g5]<;>rfl) (by simp only[go_sem, hn_g4, hn_g5]<;>rfl) (by simp only[go_sem, hn_g4, hn_g5]<;>rfl) (by simp only[go_sem, hn_g4, hn_g5]<;>rfl) (fun _ e => by cases e) (by first | rfl | exact solid_gs3) (by rfl) (by first|omega|simp) rfl ?_
  (try simp only[go_sem, hn_g4, hn_g5])
  repeat first|apply wa1|apply wa2|apply wa3|apply wa4|apply wa5 rfl|apply wa6|apply wa7|(refine wb1 rfl fun R r=>?_;simp only[go_sem, hn_g4, hn_g5];with_reducible refine r _ _ ?_;clear r R)
  refine aw_appendN (size := 1) (z := [.int .i64 0]) (cx := is false o) (k := o.length) (f2 := isF o) rfl rfl rfl (by simp only[go_sem, hn_g4, hn_g5]<;>rfl) (by simp only[go_sem, hn_g4, hn_g5]<;>rfl) rfl (by omega) (by simp only[go_sem, hn_g4, hn_g5]<;>rfl) (by simp only[go_sem, hn_g4, hn_g5]<;>rfl) .row h0 (by unfold maxLen; omega) (by omega) fun go hn_go => ?_
  replace hn_go := Heap.ne_of hn_go
  dsimp only [Heap.ne] at hn_go
  (try simp only[go_sem, hn_g4, hn_g5, hn_go])
  refine aw_frzT (t := 10) (isF o) (by simp only[go_sem, hn_g4, hn_g5, hn_go]<;>rfl) (by simp only[go_sem, hn_g4, hn_g5, hn_go]<;>rfl) (by omega) (hC go) (fun j _ => by rw [Nat.zero_add]) rfl (by simp only[go_sem, hn_g4, hn_g5, hn_go]<;>rfl) ?_
  (try simp only[go_sem, hn_g4, hn_g5, hn_go])
  repeat first|apply wa1|apply wa2|apply wa3|apply wa4|apply wa5 rfl|apply wa6|apply wa7|(refine wb1 rfl fun R r=>?_;simp only[go_sem, hn_g4, hn_g5, hn_go];with_reducible refine r _ _ ?_;clear r R)
  refine aw_store rfl rfl rfl rfl (by simp only[go_sem, hn_g4, hn_g5, hn_go]<;>rfl) (by simp only[go_sem, hn_g4, hn_g5, hn_go]<;>rfl) (by simp only[go_sem, hn_g4, hn_g5, hn_go]<;>rfl) (by simp only[go_sem, hn_g4, hn_g5, hn_go]<;>rfl) (fun _ e => by cases e) (by first | rfl | exact solid_gs3) (by rfl) (by first|omega|simp) rfl ?_
  (try simp only[go_sem, hn_g4, hn_g5, hn_go])
  repeat first|apply wa1|apply wa2|apply wa3|apply wa4|apply wa5 rfl|apply wa6|apply wa7|(refine wb1 rfl fun R r=>?_;simp only[go_sem, hn_g4, hn_g5, hn_go];with_reducible refine r _ _ ?_;clear r R)
  have hcall := add_ok o tb 0 ho hr ht o.length 0 0 [] none 0 (by omega) hpos rfl (by omega) (fun _ => rfl)
  refine aw_callh (hr := [(g5, AObj.cells 25 3 (ofL [is true o, .nils, .int .i64 0])), (g4, AObj.cells 25 3 (ofL [.nils, .nils, .int .i64 0]))]) hcall rfl rfl rfl (List.Perm.refl _) (by first|exact True.intro|simp only[go_sem, hn_g4, hn_g5, hn_go]<;>and_intros<;>first|exact True.intro|exact .c (.refl _)|exact .c wl2|exact .agg (lel_refl _)|exact .agg (by simp only[LeL];and_intros<;>first|exact True.intro|exact .refl _|exact wl2)|exact .c .nils) ?_
  generalize addF o tb o.length 0 0 [] = B at *
  rintro _ _ ⟨og, n, hn, hb, hog, rfl, rfl⟩ hk
  have hg : ∀ g, og = some g → ¬ g = g5 ∧ ¬ g = g4 := fun g e => by
    subst e
    have := hk g (by simp [gh, Heap.keys])
    simpa [Heap.keys] using this
  refine aw_perm (List.perm_append_comm (l₂ := [(g5, AObj.cells 25 3 (ofL [is true o, .nils, .int .i64 0])), (g4, AObj.cells 25 3 (ofL [.nils, .nils, .int .i64 0]))])) ?_
  (try simp only[go_sem, hn_g4, hn_g5, hn_go])
  repeat first|apply wa1|apply wa2|apply wa3|apply wa4|apply wa5 rfl|apply wa6|apply wa7|(refine wb1 rfl fun R r=>?_;simp only[go_sem, hn_g4, hn_g5, hn_go];with_reducible refine r _ _ ?_;clear r R)
  refine aw_store rfl rfl rfl rfl (by simp only[go_sem, hn_g4, hn_g5, hn_go]<;>rfl) (by simp only[go_sem, hn_g4, hn_g5, hn_go]<;>rfl) (by simp only[go_sem, hn_g4, hn_g5, hn_go]<;>rfl) (by simp only[go_sem, hn_g4, hn_g5, hn_go]<;>rfl) (fun _ e => by cases e) (by first | rfl | exact solid_gs3) (by rfl) (by first|omega|simp) rfl ?_
  (try simp only[go_sem, hn_g4, hn_g5, hn_go])
  repeat first|apply wa1|apply wa2|apply wa3|apply wa4|apply wa5 rfl|apply wa6|apply wa7|(refine wb1 rfl fun R r=>?_;simp only[go_sem, hn_g4, hn_g5, hn_go];with_reducible refine r _ _ ?_;clear r R)
  refine aw_store rfl rfl rfl rfl (by simp only[go_sem, hn_g4, hn_g5, hn_go]<;>rfl) (by simp only[go_sem, hn_g4, hn_g5, hn_go]<;>rfl) (by simp only[go_sem, hn_g4, hn_g5, hn_go]<;>rfl) (by simp only[go_sem, hn_g4, hn_g5, hn_go]<;>rfl) (fun _ e => by cases e) (by first | rfl | exact solid_gs3) (by rfl) (by first|omega|simp) rfl ?_
  (try simp only[go_sem, hn_g4, hn_g5, hn_go])
  repeat first|apply wa1|apply wa2|apply wa3|apply wa4|apply wa5 rfl|apply wa6|apply wa7|(refine wb1 rfl fun R r=>?_;simp only[go_sem, hn_g4, hn_g5, hn_go];with_reducible refine r _ _ ?_;clear r R)
  refine aw_store rfl rfl rfl rfl (by simp only[go_sem, hn_g4, hn_g5, hn_go]<;>rfl) (by simp only[go_sem, hn_g4, hn_g5, hn_go]<;>rfl) (by simp only[go_sem, hn_g4, hn_g5, hn_go]<;>rfl) (by simp only[go_sem, hn_g4, hn_g5, hn_go]<;>rfl) (fun _ e => by cases e) (by first | rfl | exact solid_gs3) (by rfl) (by first|omega|simp) rfl ?_
  (try simp only[go_sem, hn_g4, hn_g5, hn_go])
  repeat first|apply wa1|apply wa2|apply wa3|apply wa4|apply wa5 rfl|apply wa6|apply wa7|(refine wb1 rfl fun R r=>?_;simp only[go_sem, hn_g4, hn_g5, hn_go];with_reducible refine r _ _ ?_;clear r R)
  (refine aw_retq hC rfl fun R r=>?_;simp only[go_sem, hn_g4, hn_g5, hn_go];refine r _ rfl ?_;clear r R)
  refine .one (.agg ⟨ler_is, ?_, .int _ _, trivial⟩)
  exact ler_gsd (pre := [(g5, _), (g4, _)]) hog (fun g e => by have := hg g e; simp only [Heap.keys, List.map_cons, List.map_nil, List.mem_cons, List.not_mem_nil, or_false]; omega) hn
set_option maxHeartbeats 800000 in
theorem build15_fa (f : FM) (hf : FmOk f) (hv : f.vars ≤ 12) (o : List Int) (h0 : 0 < o.length) (ho : (o.length : Int) = f.vars) (hr : ∀ x ∈ o, 0 ≤ x ∧ x < o.length) :
    Fa Try.prog 40 [.agg (fmc false f), .c (is false o)] (.agg (dgc true ⟨o, (addF o (formTo f (2 ^ f.vars.toNat)) o.length 0 0 []).1, (addF o (formTo f (2 ^ f.vars.toNat)) o.length 0 0 []).2⟩)) := by
  have hl : f.vars.toNat = o.length := by omega
  refine fa_of_body Try.func40 rfl rfl (by simp [Try.ntmps40]) fun C hC => ?_
  simp only [initS, Nat.reduceAdd]
  repeat first|apply wa1|apply wa2|apply wa3|apply wa4|apply wa5 rfl|apply wa6|apply wa7|(refine wb1 rfl fun R r=>?_;simp only[go_sem];with_reducible refine r _ _ ?_;clear r R)
  refine aw_box rfl rfl rfl (by simp only[go_sem]<;>rfl) (fun _ e => by cases e) (by first | rfl | exact solid_gs3) fun g2 hn_g2 => ?_
  replace hn_g2 := Heap.ne_of hn_g2
  first | dsimp only [Heap.ne, gh] at hn_g2 | dsimp only [Heap.ne] at hn_g2 | skip
  (try simp only[go_sem, hn_g2])
  repeat first|apply wa1|apply wa2|apply wa3|apply wa4|apply wa5 rfl|apply wa6|apply wa7|(refine wb1 rfl fun R r=>?_;simp only[go_sem, hn_g2];with_reducible refine r _ _ ?_;clear r R)
  refine aw_alloc rfl rfl rfl (by simp only[go_sem, hn_g2]<;>rfl) fun g4 hn_g4 => ?_
  replace hn_g4 := Heap.ne_of hn_g4
  first | dsimp only [Heap.ne, gh] at hn_g4 | dsimp only [Heap.ne] at hn_g4 | skip
  (try simp only[go_sem, hn_g2, hn_g4])
  repeat first|apply wa1|apply wa2|apply wa3|apply wa4|apply wa5 rfl|apply wa6|apply wa7|(refine wb1 rfl fun R r=>?_;simp only[go_sem, hn_g2, hn_g4];with_reducible refine r _ _ ?_;clear r R)
  refine aw_callq (formula_fa f hf ?_) rfl rfl rfl (by first|exact True.intro|simp only[go_sem, hn_g2, hn_g4]<;>and_intros<;>first|exact True.intro|exact .c (.refl _)|exact .c wl2|exact .agg (lel_refl _)|exact .agg (by simp only[LeL];and_intros<;>first|exact True.intro|exact .refl _|exact wl2)|exact .c .nils) ?_
  · omega
  (try simp only[go_sem, hn_g2, hn_g4])
  repeat first|apply wa1|apply wa2|apply wa3|apply wa4|apply wa5 rfl|apply wa6|apply wa7|(refine wb1 rfl fun R r=>?_;simp only[go_sem, hn_g2, hn_g4];with_reducible refine r _ _ ?_;clear r R)
  refine aw_callq (of15_fa (formTo f (2 ^ f.vars.toNat)) o h0 ?_ hr ?_) rfl rfl rfl (by first|exact True.intro|simp only[go_sem, hn_g2, hn_g4]<;>and_intros<;>first|exact True.intro|exact .c (.refl _)|exact .c wl2|exact .agg (lel_refl _)|exact .agg (by simp only[LeL];and_intros<;>first|exact True.intro|exact .refl _|exact wl2)|exact .c .nils) ?_
  · omega
  · rw [formTo_len, hl]
  (try simp only[go_sem, hn_g2, hn_g4])
  repeat first|apply wa1|apply wa2|apply wa3|apply wa4|apply wa5 rfl|apply wa6|apply wa7|(refine wb1 rfl fun R r=>?_;simp only[go_sem, hn_g2, hn_g4];with_reducible refine r _ _ ?_;clear r R)
  refine aw_store rfl rfl rfl rfl (by simp only[go_sem, hn_g2, hn_g4]<;>rfl) (by simp only[go_sem, hn_g2, hn_g4]<;>rfl) (by simp only[go_sem, hn_g2, hn_g4]<;>rfl) (by simp only[go_sem, hn_g2, hn_g4]<;>rfl) (fun _ e => by cases e) (by first | rfl | exact solid_gs3) (by rfl) (by first|omega|simp) rfl ?_
  (try simp only[go_sem, hn_g2, hn_g4])
  repeat first|apply wa1|apply wa2|apply wa3|apply wa4|apply wa5 rfl|apply wa6|apply wa7|(refine wb1 rfl fun R r=>?_;simp only[go_sem, hn_g2, hn_g4];with_reducible refine r _ _ ?_;clear r R)
  (refine aw_retq hC rfl fun R r=>?_;simp only[go_sem, hn_g2, hn_g4];refine r _ rfl ?_;clear r R)
  exact .one (.agg ⟨ler_is, ler_dns, .int _ _, trivial⟩)
set_option maxRecDepth 100000 in
set_option maxHeartbeats 1600000 in
theorem example37_fa : Fa Try.prog 18 [] (.tup [.agg (dgc true exD), .c (rats true exP)]) := by
  have hbd := build15_fa exF exF_ok (by decide) [0, 1, 2] (by decide) rfl (by simp)
  rw [exT_eq] at hbd
  rw [show ([0, 1, 2] : List Int).length = 3 from rfl, exD_eq] at hbd
  refine fa_of_body Try.func18 rfl rfl (by simp [Try.ntmps18]) fun C hC => ?_
  simp only [initS, Nat.reduceAdd]
  repeat first|apply wa1|apply wa2|apply wa3|apply wa4|apply wa5 rfl|apply wa6|apply wa7|(refine wb1 rfl fun R r=>?_;simp only[go_sem];with_reducible refine r _ _ ?_;clear r R)
  refine aw_alloc rfl rfl rfl (by simp only[go_sem]<;>rfl) fun g0 hn_g0 => ?_
  replace hn_g0 := Heap.ne_of hn_g0
  first | dsimp only [Heap.ne, gh] at hn_g0 | dsimp only [Heap.ne] at hn_g0 | skip
  (try simp only[go_sem, hn_g0])
  repeat first|apply wa1|apply wa2|apply wa3|apply wa4|apply wa5 rfl|apply wa6|apply wa7|(refine wb1 rfl fun R r=>?_;simp only[go_sem, hn_g0];with_reducible refine r _ _ ?_;clear r R)
  refine aw_buildSlice (xs := [.const (.int .i64 0), .const (.int .i64 1), .const (.int .i64 2)]) (cells := [.int .i64 0, .int .i64 1, .int .i64 2]) rfl rfl rfl (by simp only[go_sem, hn_g0]<;>rfl) (by (try simp only[go_sem, hn_g0]); rfl) rfl (by omega) (by omega) (by intro x hx; simp only [List.mem_cons, List.not_mem_nil, or_false] at hx; rcases hx with rfl | rfl | rfl <;> exact ⟨rfl, rfl, rfl⟩) rfl fun g3 hn_g3 => ?_
  replace hn_g3 := Heap.ne_of hn_g3
  dsimp only [Heap.ne] at hn_g3
  (try simp only[go_sem, hn_g0, hn_g3])
  refine aw_frzT (t := 3) (isF [0, 1, 2]) (by simp only[go_sem, hn_g0, hn_g3]<;>rfl) (by simp only[go_sem, hn_g0, hn_g3]<;>rfl) (by omega) (hC g3) (fun j hj => by match j, hj with | 0, _ => rfl | 1, _ => rfl | 2, _ => rfl) rfl (by simp only[go_sem, hn_g0, hn_g3]<;>rfl) ?_
  (try simp only[go_sem, hn_g0, hn_g3])
  repeat first|apply wa1|apply wa2|apply wa3|apply wa4|apply wa5 rfl|apply wa6|apply wa7|(refine wb1 rfl fun R r=>?_;simp only[go_sem, hn_g0, hn_g3];with_reducible refine r _ _ ?_;clear r R)
  refine aw_buildSlice (xs := [.tmp 4]) (cells := [.int .i64 4, .int .i64 2, is true [0, 1, 2]]) rfl rfl rfl (by simp only[go_sem, hn_g0, hn_g3]<;>rfl) (by (try simp only[go_sem, hn_g0, hn_g3]); rfl) rfl (by omega) (by omega) (by intro x hx; simp only [List.mem_singleton] at hx; subst hx; exact ⟨rfl, rfl, rfl⟩) rfl fun g5 hn_g5 => ?_
  replace hn_g5 := Heap.ne_of hn_g5
  dsimp only [Heap.ne] at hn_g5
  (try simp only[go_sem, hn_g0, hn_g3, hn_g5])
  refine aw_frzT (t := 5) (fnsF exF.nodes) (by simp only[go_sem, hn_g0, hn_g3, hn_g5]<;>rfl) (by simp only[go_sem, hn_g0, hn_g3, hn_g5]<;>rfl) (by omega) (hC g5) (fun j hj => by match j, hj with | 0, _ => rfl | 1, _ => rfl | 2, _ => rfl) rfl (by simp only[go_sem, hn_g0, hn_g3, hn_g5]<;>rfl) ?_
  (try simp only[go_sem, hn_g0, hn_g3, hn_g5])
  repeat first|apply wa1|apply wa2|apply wa3|apply wa4|apply wa5 rfl|apply wa6|apply wa7|(refine wb1 rfl fun R r=>?_;simp only[go_sem, hn_g0, hn_g3, hn_g5];with_reducible refine r _ _ ?_;clear r R)
  refine aw_alloc rfl rfl rfl (by simp only[go_sem, hn_g0, hn_g3, hn_g5]<;>rfl) fun g2 hn_g2 => ?_
  replace hn_g2 := Heap.ne_of hn_g2
  first | dsimp only [Heap.ne, gh] at hn_g2 | dsimp only [Heap.ne] at hn_g2 | skip
  (try simp only[go_sem, hn_g0, hn_g3, hn_g5, hn_g2])
  repeat first|apply wa1|apply wa2|apply wa3|apply wa4|apply wa5 rfl|apply wa6|apply wa7|(refine wb1 rfl fun R r=>?_;simp only[go_sem, hn_g0, hn_g3, hn_g5, hn_g2];with_reducible refine r _ _ ?_;clear r R)
  refine aw_store rfl rfl rfl rfl (by simp only[go_sem, hn_g0, hn_g3, hn_g5, hn_g2]<;>rfl) (by simp only[go_sem, hn_g0, hn_g3, hn_g5, hn_g2]<;>rfl) (by simp only[go_sem, hn_g0, hn_g3, hn_g5, hn_g2]<;>rfl) (by simp only[go_sem, hn_g0, hn_g3, hn_g5, hn_g2]<;>rfl) (fun _ e => by cases e) (by first | rfl | exact solid_gs3) (by rfl) (by first|omega|simp) rfl ?_
  (try simp only[go_sem, hn_g0, hn_g3, hn_g5, hn_g2])
  repeat first|apply wa1|apply wa2|apply wa3|apply wa4|apply wa5 rfl|apply wa6|apply wa7|(refine wb1 rfl fun R r=>?_;simp only[go_sem, hn_g0, hn_g3, hn_g5, hn_g2];with_reducible refine r _ _ ?_;clear r R)
  refine aw_buildSlice (xs := [.const (.int .i64 0), .const (.int .i64 1), .const (.int .i64 2)]) (cells := [.int .i64 0, .int .i64 1, .int .i64 2]) rfl rfl rfl (by simp only[go_sem, hn_g0, hn_g3, hn_g5, hn_g2]<;>rfl) (by (try simp only[go_sem, hn_g0, hn_g3, hn_g5, hn_g2]); rfl) rfl (by omega) (by omega) (by intro x hx; simp only [List.mem_cons, List.not_mem_nil, or_false] at hx; rcases hx with rfl | rfl | rfl <;> exact ⟨rfl, rfl, rfl⟩) rfl fun g8 hn_g8 => ?_
  replace hn_g8 := Heap.ne_of hn_g8
  dsimp only [Heap.ne] at hn_g8
  (try simp only[go_sem, hn_g0, hn_g3, hn_g5, hn_g2, hn_g8])
  refine aw_frzT (t := 8) (isF [0, 1, 2]) (by simp only[go_sem, hn_g0, hn_g3, hn_g5, hn_g2, hn_g8]<;>rfl) (by simp only[go_sem, hn_g0, hn_g3, hn_g5, hn_g2, hn_g8]<;>rfl) (by omega) (hC g8) (fun j hj => by match j, hj with | 0, _ => rfl | 1, _ => rfl | 2, _ => rfl) rfl (by simp only[go_sem, hn_g0, hn_g3, hn_g5, hn_g2, hn_g8]<;>rfl) ?_
  (try simp only[go_sem, hn_g0, hn_g3, hn_g5, hn_g2, hn_g8])
  repeat first|apply wa1|apply wa2|apply wa3|apply wa4|apply wa5 rfl|apply wa6|apply wa7|(refine wb1 rfl fun R r=>?_;simp only[go_sem, hn_g0, hn_g3, hn_g5, hn_g2, hn_g8];with_reducible refine r _ _ ?_;clear r R)
  refine aw_callq hbd rfl rfl rfl (by (try simp only[go_sem, hn_g0, hn_g3, hn_g5, hn_g2, hn_g8]); exact ⟨.agg ⟨.refl _, le_any_row (by simp), .refl _, trivial⟩, .c (le_any_row (by simp))⟩) ?_
  (try simp only[go_sem, hn_g0, hn_g3, hn_g5, hn_g2, hn_g8])
  repeat first|apply wa1|apply wa2|apply wa3|apply wa4|apply wa5 rfl|apply wa6|apply wa7|(refine wb1 rfl fun R r=>?_;simp only[go_sem, hn_g0, hn_g3, hn_g5, hn_g2, hn_g8];with_reducible refine r _ _ ?_;clear r R)
  refine aw_callq (part37_fa 1 2 ?_ ?_ ?_ ?_ ?_) rfl rfl rfl (by first|exact True.intro|simp only[go_sem, hn_g0, hn_g3, hn_g5, hn_g2, hn_g8]<;>and_intros<;>first|exact True.intro|exact .c (.refl _)|exact .c wl2|exact .agg (lel_refl _)|exact .agg (by simp only[LeL];and_intros<;>first|exact True.intro|exact .refl _|exact wl2)|exact .c .nils) ?_
  · omega
  · omega
  · omega
  · omega
  · omega
  (try simp only[go_sem, hn_g0, hn_g3, hn_g5, hn_g2, hn_g8])
  repeat first|apply wa1|apply wa2|apply wa3|apply wa4|apply wa5 rfl|apply wa6|apply wa7|(refine wb1 rfl fun R r=>?_;simp only[go_sem, hn_g0, hn_g3, hn_g5, hn_g2, hn_g8];with_reducible refine r _ _ ?_;clear r R)
  refine aw_callq (part37_fa 1 3 ?_ ?_ ?_ ?_ ?_) rfl rfl rfl (by first|exact True.intro|simp only[go_sem, hn_g0, hn_g3, hn_g5, hn_g2, hn_g8]<;>and_intros<;>first|exact True.intro|exact .c (.refl _)|exact .c wl2|exact .agg (lel_refl _)|exact .agg (by simp only[LeL];and_intros<;>first|exact True.intro|exact .refl _|exact wl2)|exact .c .nils) ?_
  · omega
  · omega
  · omega
  · omega
  · omega
  (try simp only[go_sem, hn_g0, hn_g3, hn_g5, hn_g2, hn_g8])
  repeat first|apply wa1|apply wa2|apply wa3|apply wa4|apply wa5 rfl|apply wa6|apply wa7|(refine wb1 rfl fun R r=>?_;simp only[go_sem, hn_g0, hn_g3, hn_g5, hn_g2, hn_g8];with_reducible refine r _ _ ?_;clear r R)
  refine aw_callq (part37_fa 1 4 ?_ ?_ ?_ ?_ ?_) rfl rfl rfl (by first|exact True.intro|simp only[go_sem, hn_g0, hn_g3, hn_g5, hn_g2, hn_g8]<;>and_intros<;>first|exact True.intro|exact .c (.refl _)|exact .c wl2|exact .agg (lel_refl _)|exact .agg (by simp only[LeL];and_intros<;>first|exact True.intro|exact .refl _|exact wl2)|exact .c .nils) ?_
  · omega
  · omega
  · omega
  · omega
  · omega
  (try simp only[go_sem, hn_g0, hn_g3, hn_g5, hn_g2, hn_g8])
  repeat first|apply wa1|apply wa2|apply wa3|apply wa4|apply wa5 rfl|apply wa6|apply wa7|(refine wb1 rfl fun R r=>?_;simp only[go_sem, hn_g0, hn_g3, hn_g5, hn_g2, hn_g8];with_reducible refine r _ _ ?_;clear r R)
  refine aw_buildSlice (xs := [.tmp 10, .tmp 11, .tmp 12]) (cells := rdc (rd (1 / 2)) ++ (rdc (rd (1 / 3)) ++ rdc (rd (1 / 4)))) rfl rfl rfl (by simp only[go_sem, hn_g0, hn_g3, hn_g5, hn_g2, hn_g8]<;>rfl) (by (try simp only[go_sem, hn_g0, hn_g3, hn_g5, hn_g2, hn_g8]); rfl) rfl (by omega) (by omega) (by intro x hx; simp only [List.mem_cons, List.not_mem_nil, or_false] at hx; rcases hx with rfl | rfl | rfl <;> exact ⟨rfl, rfl, rfl⟩) rfl fun g13 hn_g13 => ?_
  replace hn_g13 := Heap.ne_of hn_g13
  dsimp only [Heap.ne] at hn_g13
  (try simp only[go_sem, hn_g0, hn_g3, hn_g5, hn_g2, hn_g8, hn_g13])
  refine aw_frzT (t := 13) (ratsF exP) (by simp only[go_sem, hn_g0, hn_g3, hn_g5, hn_g2, hn_g8, hn_g13]<;>rfl) (by simp only[go_sem, hn_g0, hn_g3, hn_g5, hn_g2, hn_g8, hn_g13]<;>rfl) (by omega) (hC g13) (fun j hj => by match j, hj with | 0, _ => rfl | 1, _ => rfl | 2, _ => rfl | 3, _ => rfl | 4, _ => rfl | 5, _ => rfl | 6, _ => rfl | 7, _ => rfl | 8, _ => rfl) rfl (by simp only[go_sem, hn_g0, hn_g3, hn_g5, hn_g2, hn_g8, hn_g13]<;>rfl) ?_
  (try simp only[go_sem, hn_g0, hn_g3, hn_g5, hn_g2, hn_g8, hn_g13])
  repeat first|apply wa1|apply wa2|apply wa3|apply wa4|apply wa5 rfl|apply wa6|apply wa7|(refine wb1 rfl fun R r=>?_;simp only[go_sem, hn_g0, hn_g3, hn_g5, hn_g2, hn_g8, hn_g13];with_reducible refine r _ _ ?_;clear r R)
  refine aw_store rfl rfl rfl rfl (by simp only[go_sem, hn_g0, hn_g3, hn_g5, hn_g2, hn_g8, hn_g13]<;>rfl) (by simp only[go_sem, hn_g0, hn_g3, hn_g5, hn_g2, hn_g8, hn_g13]<;>rfl) (by simp only[go_sem, hn_g0, hn_g3, hn_g5, hn_g2, hn_g8, hn_g13]<;>rfl) (by simp only[go_sem, hn_g0, hn_g3, hn_g5, hn_g2, hn_g8, hn_g13]<;>rfl) (fun _ e => by cases e) (by first | rfl | exact solid_gs3) (by rfl) (by first|omega|simp) rfl ?_
  (try simp only[go_sem, hn_g0, hn_g3, hn_g5, hn_g2, hn_g8, hn_g13])
  repeat first|apply wa1|apply wa2|apply wa3|apply wa4|apply wa5 rfl|apply wa6|apply wa7|(refine wb1 rfl fun R r=>?_;simp only[go_sem, hn_g0, hn_g3, hn_g5, hn_g2, hn_g8, hn_g13];with_reducible refine r _ _ ?_;clear r R)
  (refine aw_retq hC rfl fun R r=>?_;simp only[go_sem, hn_g0, hn_g3, hn_g5, hn_g2, hn_g8, hn_g13];refine r _ rfl ?_;clear r R)
  exact .tup ⟨.agg ⟨ler_is, ler_dns, .int _ _, trivial⟩, .c (ler_rats (ps := exP) (t := true)), trivial⟩
theorem ex_small : Small exD exP := ⟨exP_wf, by decide, by decide, by decide, fun _ => by decide⟩
theorem ex_gvc : gvcode exD exP 1 0 = 0 := by unfold gvcode; rw [if_neg (fun h => h exP_code), exP_g]
theorem ex_gv : gvR exD exP 1 0 = rd (1 / 2) := by
  unfold gvR
  rw [if_pos ex_gvc]
  show rd (sumQ (condL 1 0 exP 3) (tabL exD) 8) = _
  rw [exP_gq]
set_option maxRecDepth 100000 in
set_option maxHeartbeats 1600000 in
theorem awake37_of (D : DG) (P : List RD) (hex : Fa Try.prog 18 [] (.tup [.agg (dgc true D), .c (rats true P)])) (hx : Fa Try.prog 10 [.agg (dgc false D), .c (rats false P)] (.tup [.agg (rdc (rd (7 / 24))), .c .nilI])) (hy : Fa Try.prog 11 [.agg (dgc false D), .c (rats false P), .agg [.int .i64 1, .int .i64 0]] (.tup [.agg (rdc (rd (1 / 2))), .c .nilI])) : Fa Try.prog 5 [] (.c (.bool true)) := by
  refine fa_of_body Try.func5 rfl rfl (by simp [Try.ntmps5]) fun C hC => ?_
  simp only [initS, Nat.reduceAdd]
  repeat first|apply wa1|apply wa2|apply wa3|apply wa4|apply wa5 rfl|apply wa6|apply wa7|(refine wb1 rfl fun R r=>?_;simp only[go_sem];with_reducible refine r _ _ ?_;clear r R)
  refine aw_callq (hex) rfl rfl rfl (by first|exact True.intro|simp only[go_sem]<;>and_intros<;>first|exact True.intro|exact .c (.refl _)|exact .c wl2|exact .agg (lel_refl _)|exact .agg (by simp only[LeL];and_intros<;>first|exact True.intro|exact .refl _|exact wl2)|exact .c .nils) ?_
  (try simp only[go_sem])
  repeat first|apply wa1|apply wa2|apply wa3|apply wa4|apply wa5 rfl|apply wa6|apply wa7|(refine wb1 rfl fun R r=>?_;simp only[go_sem];with_reducible refine r _ _ ?_;clear r R)
  refine aw_alloc rfl rfl rfl (by simp only[go_sem]<;>rfl) fun g1 hn_g1 => ?_
  replace hn_g1 := Heap.ne_of hn_g1
  first | dsimp only [Heap.ne, gh] at hn_g1 | dsimp only [Heap.ne] at hn_g1 | skip
  (try simp only[go_sem, hn_g1])
  repeat first|apply wa1|apply wa2|apply wa3|apply wa4|apply wa5 rfl|apply wa6|apply wa7|(refine wb1 rfl fun R r=>?_;simp only[go_sem, hn_g1];with_reducible refine r _ _ ?_;clear r R)
  refine aw_store rfl rfl rfl rfl (by simp only[go_sem, hn_g1]<;>rfl) (by simp only[go_sem, hn_g1]<;>rfl) (by simp only[go_sem, hn_g1]<;>rfl) (by simp only[go_sem, hn_g1]<;>rfl) (fun _ e => by cases e) (by first | rfl | exact solid_gs3) (by rfl) (by first|omega|simp) rfl ?_
  (try simp only[go_sem, hn_g1])
  repeat first|apply wa1|apply wa2|apply wa3|apply wa4|apply wa5 rfl|apply wa6|apply wa7|(refine wb1 rfl fun R r=>?_;simp only[go_sem, hn_g1];with_reducible refine r _ _ ?_;clear r R)
  refine aw_callq hx rfl rfl rfl (by (try simp only[go_sem, hn_g1]); exact ⟨.agg ⟨le_any_row (by simp), le_any_row (by simp), .refl _, trivial⟩, .c (le_any_row (by simp))⟩) ?_
  (try simp only[go_sem, hn_g1])
  repeat first|apply wa1|apply wa2|apply wa3|apply wa4|apply wa5 rfl|apply wa6|apply wa7|(refine wb1 rfl fun R r=>?_;simp only[go_sem, hn_g1];with_reducible refine r _ _ ?_;clear r R)
  refine aw_alloc rfl rfl rfl (by simp only[go_sem, hn_g1]<;>rfl) fun g3 hn_g3 => ?_
  replace hn_g3 := Heap.ne_of hn_g3
  first | dsimp only [Heap.ne, gh] at hn_g3 | dsimp only [Heap.ne] at hn_g3 | skip
  (try simp only[go_sem, hn_g1, hn_g3])
  repeat first|apply wa1|apply wa2|apply wa3|apply wa4|apply wa5 rfl|apply wa6|apply wa7|(refine wb1 rfl fun R r=>?_;simp only[go_sem, hn_g1, hn_g3];with_reducible refine r _ _ ?_;clear r R)
  refine aw_store rfl rfl rfl rfl (by simp only[go_sem, hn_g1, hn_g3]<;>rfl) (by simp only[go_sem, hn_g1, hn_g3]<;>rfl) (by simp only[go_sem, hn_g1, hn_g3]<;>rfl) (by simp only[go_sem, hn_g1, hn_g3]<;>rfl) (fun _ e => by cases e) (by first | rfl | exact solid_gs3) (by rfl) (by first|omega|simp) rfl ?_
  (try simp only[go_sem, hn_g1, hn_g3])
  repeat first|apply wa1|apply wa2|apply wa3|apply wa4|apply wa5 rfl|apply wa6|apply wa7|(refine wb1 rfl fun R r=>?_;simp only[go_sem, hn_g1, hn_g3];with_reducible refine r _ _ ?_;clear r R)
  refine aw_callq hy rfl rfl rfl (by (try simp only[go_sem, hn_g1, hn_g3]); exact ⟨.agg ⟨le_any_row (by simp), le_any_row (by simp), .refl _, trivial⟩, .c (le_any_row (by simp)), .agg ⟨.refl _, .refl _, trivial⟩⟩) ?_
  (try simp only[go_sem, hn_g1, hn_g3])
  repeat first|apply wa1|apply wa2|apply wa3|apply wa4|apply wa5 rfl|apply wa6|apply wa7|(refine wb1 rfl fun R r=>?_;simp only[go_sem, hn_g1, hn_g3];with_reducible refine r _ _ ?_;clear r R)
  refine aw_alloc rfl rfl rfl (by simp only[go_sem, hn_g1, hn_g3]<;>rfl) fun g5 hn_g5 => ?_
  replace hn_g5 := Heap.ne_of hn_g5
  first | dsimp only [Heap.ne, gh] at hn_g5 | dsimp only [Heap.ne] at hn_g5 | skip
  (try simp only[go_sem, hn_g1, hn_g3, hn_g5])
  repeat first|apply wa1|apply wa2|apply wa3|apply wa4|apply wa5 rfl|apply wa6|apply wa7|(refine wb1 rfl fun R r=>?_;simp only[go_sem, hn_g1, hn_g3, hn_g5];with_reducible refine r _ _ ?_;clear r R)
  refine aw_store rfl rfl rfl rfl (by simp only[go_sem, hn_g1, hn_g3, hn_g5]<;>rfl) (by simp only[go_sem, hn_g1, hn_g3, hn_g5]<;>rfl) (by simp only[go_sem, hn_g1, hn_g3, hn_g5]<;>rfl) (by simp only[go_sem, hn_g1, hn_g3, hn_g5]<;>rfl) (fun _ e => by cases e) (by first | rfl | exact solid_gs3) (by rfl) (by first|omega|simp) rfl ?_
  (try simp only[go_sem, hn_g1, hn_g3, hn_g5])
  repeat first|apply wa1|apply wa2|apply wa3|apply wa4|apply wa5 rfl|apply wa6|apply wa7|(refine wb1 rfl fun R r=>?_;simp only[go_sem, hn_g1, hn_g3, hn_g5];with_reducible refine r _ _ ?_;clear r R)
  refine aw_dr 16 ty_mixed (by kernel_rfl) ?_
  repeat first|apply wa1|apply wa2|apply wa3|apply wa4|apply wa5 rfl|apply wa6|apply wa7|(refine wb1 rfl fun R r=>?_;simp only[go_sem, hn_g1, hn_g3, hn_g5];with_reducible refine r _ _ ?_;clear r R)|apply wa8|(refine wd1 rfl fun R r=>?_;simp only[go_sem, hn_g1, hn_g3, hn_g5];with_reducible refine r _ _ ?_;clear r R)
  refine drk_call (part37_fa 7 24 ?_ ?_ ?_ ?_ ?_) rfl rfl rfl (by first|exact True.intro|simp only[go_sem, hn_g1, hn_g3, hn_g5]<;>and_intros<;>first|exact True.intro|exact .c (.refl _)|exact .c wl2|exact .agg (lel_refl _)|exact .agg (by simp only[LeL];and_intros<;>first|exact True.intro|exact .refl _|exact wl2)|exact .c .nils) ?_
  · omega
  · omega
  · omega
  · omega
  · omega
  (try simp only[go_sem, hn_g1, hn_g3, hn_g5])
  repeat first|apply wa1|apply wa2|apply wa3|apply wa4|apply wa5 rfl|apply wa6|apply wa7|(refine wb1 rfl fun R r=>?_;simp only[go_sem, hn_g1, hn_g3, hn_g5];with_reducible refine r _ _ ?_;clear r R)|apply wa8|(refine wd1 rfl fun R r=>?_;simp only[go_sem, hn_g1, hn_g3, hn_g5];with_reducible refine r _ _ ?_;clear r R)
  refine drk_call (ratEq_fa (rd (7 / 24)) (rd (((7 : Int) : Rat) / ((24 : Int) : Rat))) (rd_wf (fits_mono (L := 1) ⟨by decide +kernel, by decide +kernel⟩ ?_))) rfl rfl rfl (by first|exact True.intro|simp only[go_sem, hn_g1, hn_g3, hn_g5]<;>and_intros<;>first|exact True.intro|exact .c (.refl _)|exact .c wl2|exact .agg (lel_refl _)|exact .agg (by simp only[LeL];and_intros<;>first|exact True.intro|exact .refl _|exact wl2)|exact .c .nils) ?_
  · omega
  (try simp only[go_sem, hn_g1, hn_g3, hn_g5])
  rw [rdec_eq (show rd (7 / 24) = rd (((7 : Int) : Rat) / ((24 : Int) : Rat)) from rfl)]
  repeat first|apply wa1|apply wa2|apply wa3|apply wa4|apply wa5 rfl|apply wa6|apply wa7|(refine wb1 rfl fun R r=>?_;simp only[go_sem, hn_g1, hn_g3, hn_g5];with_reducible refine r _ _ ?_;clear r R)|apply wa8|(refine wd1 rfl fun R r=>?_;simp only[go_sem, hn_g1, hn_g3, hn_g5];with_reducible refine r _ _ ?_;clear r R)
  refine drk_call (part37_fa 1 2 ?_ ?_ ?_ ?_ ?_) rfl rfl rfl (by first|exact True.intro|simp only[go_sem, hn_g1, hn_g3, hn_g5]<;>and_intros<;>first|exact True.intro|exact .c (.refl _)|exact .c wl2|exact .agg (lel_refl _)|exact .agg (by simp only[LeL];and_intros<;>first|exact True.intro|exact .refl _|exact wl2)|exact .c .nils) ?_
  · omega
  · omega
  · omega
  · omega
  · omega
  (try simp only[go_sem, hn_g1, hn_g3, hn_g5])
  repeat first|apply wa1|apply wa2|apply wa3|apply wa4|apply wa5 rfl|apply wa6|apply wa7|(refine wb1 rfl fun R r=>?_;simp only[go_sem, hn_g1, hn_g3, hn_g5];with_reducible refine r _ _ ?_;clear r R)|apply wa8|(refine wd1 rfl fun R r=>?_;simp only[go_sem, hn_g1, hn_g3, hn_g5];with_reducible refine r _ _ ?_;clear r R)
  refine drk_call (ratEq_fa (rd (1 / 2)) (rd (((1 : Int) : Rat) / ((2 : Int) : Rat))) (rd_wf (fits_mono (L := 1) ⟨by decide +kernel, by decide +kernel⟩ ?_))) rfl rfl rfl (by first|exact True.intro|simp only[go_sem, hn_g1, hn_g3, hn_g5]<;>and_intros<;>first|exact True.intro|exact .c (.refl _)|exact .c wl2|exact .agg (lel_refl _)|exact .agg (by simp only[LeL];and_intros<;>first|exact True.intro|exact .refl _|exact wl2)|exact .c .nils) ?_
  · omega
  (try simp only[go_sem, hn_g1, hn_g3, hn_g5])
  rw [rdec_eq (show rd (1 / 2) = rd (((1 : Int) : Rat) / ((2 : Int) : Rat)) from rfl)]
  repeat first|apply wa1|apply wa2|apply wa3|apply wa4|apply wa5 rfl|apply wa6|apply wa7|(refine wb1 rfl fun R r=>?_;simp only[go_sem, hn_g1, hn_g3, hn_g5];with_reducible refine r _ _ ?_;clear r R)|apply wa8|(refine wd1 rfl fun R r=>?_;simp only[go_sem, hn_g1, hn_g3, hn_g5];with_reducible refine r _ _ ?_;clear r R)
  (refine aw_retq hC rfl fun R r=>?_;simp only[go_sem, hn_g1, hn_g3, hn_g5];refine r _ rfl ?_;clear r R)
  exact .one (.c (.bool _))
theorem awake37_fa : Fa Try.prog 5 [] (.c (.bool true)) := by
  have hx := sprobability_fa exD exP ex_small
  rw [if_pos exP_code, show (2 : Nat) ^ exP.length = 8 from rfl, exP_q, exP_code] at hx
  have hy := sgiven_fa exD exP 1 0 ex_small
  rw [ex_gv, ex_gvc] at hy
  exact awake37_of exD exP example37_fa hx hy
end Go.Proofs.Ytmkomfdiggcloaa

/- The expectation is linear in each probability; the law of total probability. No program in sight. -/
namespace Go.PN
open Go.AI
def updP (p : Nat → Rat) (v : Nat) (c : Rat) : Nat → Rat := fun j => if j = v then c else p j
theorem ex_pcongr {p p' : Nat → Rat} : ∀ (m : Nat) (f : Nat → Rat), (∀ j, j < m → p j = p' j) → exQ p m f = exQ p' m f
  | 0, f, _ => rfl
  | m + 1, f, h => by
    rw [exQ, exQ, ex_pcongr m _ (fun j hj => h j (by omega)), ex_pcongr m _ (fun j hj => h j (by omega)), h m (by omega)]
theorem ex_lin {p : Nat → Rat} {v : Nat} : ∀ (m : Nat) (f : Nat → Rat), v < m → exQ p m f = p v * exQ (updP p v 1) m f + (1 - p v) * exQ (updP p v 0) m f
  | 0, f, h => by omega
  | m + 1, f, h => by
    rw [exQ, exQ, exQ]
    by_cases e : v = m
    · subst e
      have e1 : ∀ c g, exQ (updP p v c) v g = exQ p v g := fun c g => ex_pcongr v g fun j hj => by unfold updP; rw [if_neg (by omega)]
      rw [e1, e1, e1, e1]
      have h1 : updP p v 1 v = 1 := by unfold updP; rw [if_pos rfl]
      have h0 : updP p v 0 v = 0 := by unfold updP; rw [if_pos rfl]
      rw [h1, h0]
      grind
    · have hv : v < m := by omega
      have h1 : updP p v 1 m = p m := by unfold updP; rw [if_neg (fun x => e x.symm)]
      have h0 : updP p v 0 m = p m := by unfold updP; rw [if_neg (fun x => e x.symm)]
      have i1 := ex_lin m f hv (p := p)
      have i2 := ex_lin m (fun s => f (s + 2 ^ m)) hv (p := p)
      rw [h1, h0]
      generalize exQ (updP p v 1) m f = A at *
      generalize exQ (updP p v 0) m f = B at *
      generalize exQ (updP p v 1) m (fun s => f (s + 2 ^ m)) = A' at *
      generalize exQ (updP p v 0) m (fun s => f (s + 2 ^ m)) = B' at *
      rw [i1, i2]
      grind
theorem condL_get (y n : Nat) (ps : List RD) : ∀ (k j : Nat), j < k → (condL y n ps k).getD j rd0 = condR y n j (ps.getD j rd0)
  | 0, j, h => by omega
  | k + 1, j, h => by
    rw [condL, List.getD_eq_getElem?_getD]
    by_cases e : j = k
    · subst e
      rw [List.getElem?_append_right (by rw [condL_len]; exact Nat.le_refl _), condL_len, Nat.sub_self]
      rfl
    · rw [List.getElem?_append_left (by rw [condL_len]; omega), ← List.getD_eq_getElem?_getD]
      exact condL_get y n ps k j (by omega)
theorem rd0_q : rd0.q = 0 := by
  have : rd0 = rd 0 := rd_zero.symm
  rw [this, rd_q]
theorem prP_yes {ps : List RD} {i k j : Nat} (hj : j < k) : prP (condL (2 ^ i) 0 ps k) j = updP (prP ps) i 1 j := by
  unfold prP updP
  rw [condL_get _ _ _ _ _ hj]
  unfold condR
  rw [Nat.testBit_two_pow]
  by_cases e : j = i
  · subst e; simp [rd_q]
  · rw [if_neg (by simp; omega), if_neg (by simp), if_neg e]
theorem prP_no {ps : List RD} {i k j : Nat} (hj : j < k) : prP (condL 0 (2 ^ i) ps k) j = updP (prP ps) i 0 j := by
  unfold prP updP
  rw [condL_get _ _ _ _ _ hj]
  unfold condR
  rw [if_neg (by simp), Nat.testBit_two_pow]
  by_cases e : j = i
  · subst e; simp [rd0_q]
  · rw [if_neg (by simp; omega), if_neg e]
theorem total_law (ps : List RD) (tb : List Bool) {i : Nat} (hi : i < ps.length) : sumQ ps tb (2 ^ ps.length) = (ps.getD i rd0).q * sumQ (condL (2 ^ i) 0 ps ps.length) tb (2 ^ ps.length) + (1 - (ps.getD i rd0).q) * sumQ (condL 0 (2 ^ i) ps ps.length) tb (2 ^ ps.length) := by
  have h1 := sumQ_ex (condL (2 ^ i) 0 ps ps.length) tb
  have h2 := sumQ_ex (condL 0 (2 ^ i) ps ps.length) tb
  rw [condL_len] at h1 h2
  rw [sumQ_ex, h1, h2, ex_pcongr _ _ (fun j hj => prP_yes (ps := ps) (i := i) hj), ex_pcongr _ _ (fun j hj => prP_no (ps := ps) (i := i) hj)]
  exact ex_lin _ _ hi
theorem wt_yes {ps : List RD} {i : Nat} : ∀ k, wtTo (2 ^ i) 0 ps k = if i < k then (ps.getD i rd0).q else 1
  | 0 => by simp [wtTo]
  | k + 1 => by
    rw [wtTo, wt_yes k]
    unfold wfac
    rw [Nat.testBit_two_pow, Nat.zero_testBit]
    by_cases e : i = k
    · subst e; simp
    · by_cases h : i < k
      · have h2 : i ≤ k := by omega
        simp [h, h2, e]
        intro; omega
      · have h2 : ¬ i ≤ k := by omega
        simp [h, h2, e]
        intro; omega
theorem wt_no {ps : List RD} {i : Nat} : ∀ k, wtTo 0 (2 ^ i) ps k = if i < k then 1 - (ps.getD i rd0).q else 1
  | 0 => by simp [wtTo]
  | k + 1 => by
    rw [wtTo, wt_no k]
    unfold wfac
    rw [Nat.testBit_two_pow, Nat.zero_testBit]
    by_cases e : i = k
    · subst e; simp
    · by_cases h : i < k
      · have h2 : i ≤ k := by omega
        simp [h, h2, e]
        intro; omega
      · have h2 : ¬ i ≤ k := by omega
        simp [h, h2, e]
        intro; omega
theorem pow_mask {i : Nat} (hi : i < 24) : maskB ((2 ^ i : Nat) : Int) = true := by
  have h : 2 ^ i < 16777216 := by
    have h3 : 2 ^ i < 2 ^ 24 := Nat.pow_lt_pow_right (by omega) hi
    have h4 : (2 : Nat) ^ 24 = 16777216 := by decide
    omega
  generalize 2 ^ i = m at h ⊢
  unfold maskB
  rw [Bool.and_eq_true]
  exact ⟨decide_eq_true (by omega), decide_eq_true (by omega)⟩
theorem or_div {i n : Nat} (hi : i < n) : (2 ^ i ||| 0) / 2 ^ n = 0 := by
  rw [Nat.or_zero]
  exact Nat.div_eq_of_lt (Nat.pow_lt_pow_right (by omega) hi)
theorem gcode_yes {ps : List RD} {i : Nat} (hi : i < ps.length) (h24 : i < 24) (hq : (ps.getD i rd0).q ≠ 0) : gcode ps ((2 ^ i : Nat) : Int) 0 = 0 := by
  have hb : 2 ^ i < 9223372036854775808 := by
    have h : 2 ^ i < 2 ^ 24 := Nat.pow_lt_pow_right (by omega) h24
    have h4 : (2 : Nat) ^ 24 = 16777216 := by decide
    omega
  have hc : ccode ((2 ^ i : Nat) : Int) 0 = 0 := by
    unfold ccode
    have e := andZ_nat (2 ^ i) 0 hb (by omega)
    rw [Nat.and_zero] at e
    rw [pow_mask h24, show maskB 0 = true from by decide, if_neg (by decide), if_neg (by rw [show (0 : Int) = ((0 : Nat) : Int) from rfl, e]; decide)]
  unfold gcode
  rw [if_neg (by rw [hc]; simp), Int.toNat_natCast, show (0 : Int).toNat = 0 from rfl, if_neg (by rw [or_div hi]; simp), wt_yes, if_pos hi, if_neg hq]
theorem gcode_no {ps : List RD} {i : Nat} (hi : i < ps.length) (h24 : i < 24) (hq : 1 - (ps.getD i rd0).q ≠ 0) : gcode ps 0 ((2 ^ i : Nat) : Int) = 0 := by
  have hb : 2 ^ i < 9223372036854775808 := by
    have h : 2 ^ i < 2 ^ 24 := Nat.pow_lt_pow_right (by omega) h24
    have h4 : (2 : Nat) ^ 24 = 16777216 := by decide
    omega
  have hc : ccode 0 ((2 ^ i : Nat) : Int) = 0 := by
    unfold ccode
    have e := andZ_nat 0 (2 ^ i) (by omega) hb
    rw [Nat.zero_and] at e
    rw [pow_mask h24, show maskB 0 = true from by decide, if_neg (by decide), if_neg (by rw [show (0 : Int) = ((0 : Nat) : Int) from rfl, e]; decide)]
  unfold gcode
  rw [if_neg (by rw [hc]; simp), Int.toNat_natCast, show (0 : Int).toNat = 0 from rfl, if_neg (by rw [Nat.or_comm, or_div hi]; simp), wt_no, if_pos hi, if_neg hq]
end Go.PN
