/- Texts of one proof, laid one behind the other by a program (merge.py): Awk, AiBnd, PTab3, PTab4, Tab1. -/
import Derived.Test.YtmfmnmkipjpjhaaGreatQ21
import Derived.Test.YtmfmnmkipjpjhaaGreatQ22
import Derived.Test.YtmfmnmkipjpjhaaGreatQ17
import Derived.Test.YtmfmnmkipjpjhaaGreatQ16
import Derived.Test.YtmfmnmkipjpjhaaGreatQ18
import Derived.Test.YtmfmnmkipjpjhaaGreatQ19
import Derived.Test.YtmfmnmkipjpjhaaGreatQ20
set_option linter.unusedSimpArgs false
set_option linter.unusedVariables false
/- faultlineref15: Of, Build; faultlinelaw37: example, awake. -/
namespace Go.AI
section
variable {E : Env} {K : List It} {σ : Sl} {h : Heap}
theorem Sl.set_set (t : Nat) (u v : AV) : ∀ σ : Sl, (σ.set t u).set t v = σ.set t v
  | [] => by simp [Sl.set]
  | (t', x) :: σ => by
    simp only [Sl.set]
    by_cases e : t' = t
    · rw [if_pos e, if_pos e]; simp [Sl.set]
    · rw [if_neg e, if_neg e]; simp only [Sl.set, if_neg e]; rw [Sl.set_set t u v σ]
/-- A block of its own is given up, told otherwise. -/
theorem aw_frzT {t g s off n m : Nat} {ty : TypeId} {f : Nat → CV} (f' : Nat → CV) {σ' : Sl} {h' : Heap} (ht : σ.get t = .c (.osl g s off n)) (hg : h.get g = some (.cells ty m f)) (hm : off + n * s ≤ m) (hn : ¬ E.C.own0 g) (hf : ∀ j, j < n * s → f (off + j) = f' j) (hσ : σ.set t (.c (.row true s n f')) = σ') (hh : h.del g = h')
    (k : aw E K σ' h') : aw E K σ h := by
  refine aw_frz ht hg hm hn rfl hh ?_
  refine aw_conv (t := t) (v := .c (.row true s n f')) (σ' := σ') (fun S w u hr => ?_) ?_ k
  · rw [Sl.get_set, if_pos rfl] at hr
    obtain ⟨A, c, hv, hc, hn⟩ := hr
    refine ⟨A, c, hv, hc, fun h0 => ?_⟩
    obtain ⟨ad, hA, hS, hj⟩ := hn h0
    refine ⟨ad, hA, hS, fun j hjl => ?_⟩
    obtain ⟨u, hu, hru⟩ := hj j hjl
    exact ⟨u, hu, by rw [← hf j hjl]; exact hru⟩
  · rw [← hσ, Sl.set_set]
theorem ler_gsd {pre : Heap} {og : Option Nat} {e n : Nat} {t : Bool} {vs : List DN} (hog : og = none → n = 0) (hn : ∀ g, og = some g → g ∉ pre.keys) (hl : vs.length = n) : LeR (pre ++ gh og e (n * 3) (dnsF vs)) (gs og 3 n) (dns t vs) := by
  subst hl
  exact ler_gs hog hn (lf_ler (by omega) fun x _ k hk => by match k, hk with | 0, _ => exact .int _ _ | 1, _ => exact .int _ _ | 2, _ => exact .int _ _)
end
end Go.AI
namespace Go.Proofs.YtmfmnmkipjpjhaaGreat
open Go.AI Go.PN
attribute [local irreducible] aw Fa Fh DrK
theorem add_ok (o : List Int) (tb : List Bool) (rt : Int) (ho : o.length ≤ 12) (hr : ∀ x ∈ o, 0 ≤ x ∧ x < o.length) (ht : tb.length = 2 ^ o.length) : ∀ k, AddOk o tb rt k
  | 0 => add_zero o tb rt ho hr ht
  | k + 1 => add_succ o tb rt ho hr ht k (add_ok o tb rt ho hr ht k)
set_option maxRecDepth 100000 in
set_option maxHeartbeats 1600000 in
theorem of15_fa (tb : List Bool) (o : List Int) (h0 : 0 < o.length) (ho : o.length ≤ 12) (hr : ∀ x ∈ o, 0 ≤ x ∧ x < o.length) (ht : tb.length = 2 ^ o.length) :
    Fa Tryz.prog 78 [.c (bs false tb), .c (is false o)] (.agg (dgc true ⟨o, (addF o tb o.length 0 0 []).1, (addF o tb o.length 0 0 []).2⟩)) := by
  have h2o : 2 ^ o.length ≤ 4096 := by
    have h3 : 2 ^ o.length ≤ 2 ^ 12 := Nat.pow_le_pow_right (by omega) (by omega)
    have h4 : (2 : Nat) ^ 12 = 4096 := by decide
    omega
  have hpos : 0 < 2 ^ o.length := Nat.pow_pos (by omega)
  refine fa_of_body Tryz.func78 rfl rfl (by simp [Tryz.ntmps78]) fun C hC => ?_
  simp only [initS, Nat.reduceAdd]
  refine xG ?_
  refine xA fun g4 hn_g4=>?_
  refine yG hn_g4 ?_
  refine yA hn_g4 fun g5 hn_g5=>?_
  refine yG (oj hn_g4 hn_g5) ?_
  refine yW (oj hn_g4 hn_g5) ?_
  refine yS (oj hn_g4 hn_g5) ?_
  refine yG (oj hn_g4 hn_g5) ?_
  refine aw_appendN (size := 1) (z := [.int .i64 0]) (cx := is false o) (k := o.length) (f2 := isF o) rfl rfl rfl (zE (oj hn_g4 hn_g5)) (zE (oj hn_g4 hn_g5)) rfl (by omega) (zE (oj hn_g4 hn_g5)) (zE (oj hn_g4 hn_g5)) .row h0 (by unfold maxLen; omega) (by omega) fun go hn_go => ?_
  replace hn_go := Heap.ne_of hn_go
  dsimp only [Heap.ne] at hn_go
  refine yS (oj hn_g4 (oj hn_g5 hn_go)) ?_
  refine aw_frzT (t := 10) (isF o) (zE (oj hn_g4 (oj hn_g5 hn_go))) (zE (oj hn_g4 (oj hn_g5 hn_go))) (by omega) (hC go) (fun j _ => by rw [Nat.zero_add]) rfl (zE (oj hn_g4 (oj hn_g5 hn_go))) ?_
  refine yS (oj hn_g4 (oj hn_g5 hn_go)) ?_
  refine yG (oj hn_g4 (oj hn_g5 hn_go)) ?_
  refine yW (oj hn_g4 (oj hn_g5 hn_go)) ?_
  refine yS (oj hn_g4 (oj hn_g5 hn_go)) ?_
  refine yG (oj hn_g4 (oj hn_g5 hn_go)) ?_
  have hcall := add_ok o tb 0 ho hr ht o.length 0 0 [] none 0 (by omega) hpos rfl (by omega) (fun _ => rfl)
  refine aw_callh (hr := [(g5, AObj.cells 31 3 (ofL [is true o, .nils, .int .i64 0])), (g4, AObj.cells 31 3 (ofL [.nils, .nils, .int .i64 0]))]) hcall rfl rfl rfl (List.Perm.refl _) (zL (oj hn_g4 (oj hn_g5 hn_go))) ?_
  generalize addF o tb o.length 0 0 [] = B at *
  rintro _ _ ⟨og, n, hn, hb, hog, rfl, rfl⟩ hk
  have hg : ∀ g, og = some g → ¬ g = g5 ∧ ¬ g = g4 := fun g e => by
    subst e
    have := hk g (by simp [gh, Heap.keys])
    simpa [Heap.keys] using this
  refine aw_perm (List.perm_append_comm (l₂ := [(g5, AObj.cells 31 3 (ofL [is true o, .nils, .int .i64 0])), (g4, AObj.cells 31 3 (ofL [.nils, .nils, .int .i64 0]))])) ?_
  refine yS (oj hn_g4 (oj hn_g5 hn_go)) ?_
  refine yG (oj hn_g4 (oj hn_g5 hn_go)) ?_
  refine yW (oj hn_g4 (oj hn_g5 hn_go)) ?_
  refine yS (oj hn_g4 (oj hn_g5 hn_go)) ?_
  refine yG (oj hn_g4 (oj hn_g5 hn_go)) ?_
  refine yW (oj hn_g4 (oj hn_g5 hn_go)) ?_
  refine yS (oj hn_g4 (oj hn_g5 hn_go)) ?_
  refine yG (oj hn_g4 (oj hn_g5 hn_go)) ?_
  refine yW (oj hn_g4 (oj hn_g5 hn_go)) ?_
  refine yS (oj hn_g4 (oj hn_g5 hn_go)) ?_
  refine yG (oj hn_g4 (oj hn_g5 hn_go)) ?_
  refine yT hC (oj hn_g4 (oj hn_g5 hn_go)) ?_
  refine .one (.agg ⟨ler_is, ?_, .int _ _, trivial⟩)
  exact ler_gsd (pre := [(g5, _), (g4, _)]) hog (fun g e => by have := hg g e; simp only [Heap.keys, List.map_cons, List.map_nil, List.mem_cons, List.not_mem_nil, or_false]; omega) hn
set_option maxHeartbeats 800000 in
theorem build15_fa (f : FM) (hf : FmOk f) (hv : f.vars ≤ 12) (o : List Int) (h0 : 0 < o.length) (ho : (o.length : Int) = f.vars) (hr : ∀ x ∈ o, 0 ≤ x ∧ x < o.length) :
    Fa Tryz.prog 41 [.agg (fmc false f), .c (is false o)] (.agg (dgc true ⟨o, (addF o (formTo f (2 ^ f.vars.toNat)) o.length 0 0 []).1, (addF o (formTo f (2 ^ f.vars.toNat)) o.length 0 0 []).2⟩)) := by
  have hl : f.vars.toNat = o.length := by omega
  refine fa_of_body Tryz.func41 rfl rfl (by simp [Tryz.ntmps41]) fun C hC => ?_
  simp only [initS, Nat.reduceAdd]
  refine xG ?_
  refine xB fun g2 hn_g2=>?_
  refine yG hn_g2 ?_
  refine yA hn_g2 fun g4 hn_g4=>?_
  refine yG (oj hn_g2 hn_g4) ?_
  refine yC (oj hn_g2 hn_g4) (formula_fa f hf ?_) ?_
  · omega
  refine yG (oj hn_g2 hn_g4) ?_
  refine yC (oj hn_g2 hn_g4) (of15_fa (formTo f (2 ^ f.vars.toNat)) o h0 ?_ hr ?_) ?_
  · omega
  · rw [formTo_len, hl]
  refine yG (oj hn_g2 hn_g4) ?_
  refine yW (oj hn_g2 hn_g4) ?_
  refine yS (oj hn_g2 hn_g4) ?_
  refine yG (oj hn_g2 hn_g4) ?_
  refine yT hC (oj hn_g2 hn_g4) ?_
  exact .one (.agg ⟨ler_is, ler_dns, .int _ _, trivial⟩)
set_option maxRecDepth 100000 in
set_option maxHeartbeats 1600000 in
theorem example37_fa : Fa Tryz.prog 19 [] (.tup [.agg (dgc true exD), .c (rats true exP)]) := by
  have hbd := build15_fa exF exF_ok (by decide) [0, 1, 2] (by decide) rfl (by simp)
  rw [exT_eq] at hbd
  rw [show ([0, 1, 2] : List Int).length = 3 from rfl, exD_eq] at hbd
  refine fa_of_body Tryz.func19 rfl rfl (by simp [Tryz.ntmps19]) fun C hC => ?_
  simp only [initS, Nat.reduceAdd]
  refine xG ?_
  refine xA fun g0 hn_g0=>?_
  refine yG hn_g0 ?_
  refine aw_buildSlice (xs := [.const (.int .i64 0), .const (.int .i64 1), .const (.int .i64 2)]) (cells := [.int .i64 0, .int .i64 1, .int .i64 2]) rfl rfl rfl (zE hn_g0) (by refine yS hn_g0 ?_; rfl) rfl (by omega) (by omega) (by intro x hx; simp only [List.mem_cons, List.not_mem_nil, or_false] at hx; rcases hx with rfl | rfl | rfl <;> exact ⟨rfl, rfl, rfl⟩) rfl fun g3 hn_g3 => ?_
  replace hn_g3 := Heap.ne_of hn_g3
  dsimp only [Heap.ne] at hn_g3
  refine yS (oj hn_g0 hn_g3) ?_
  refine aw_frzT (t := 3) (isF [0, 1, 2]) (zE (oj hn_g0 hn_g3)) (zE (oj hn_g0 hn_g3)) (by omega) (hC g3) (fun j hj => by match j, hj with | 0, _ => rfl | 1, _ => rfl | 2, _ => rfl) rfl (zE (oj hn_g0 hn_g3)) ?_
  refine yS (oj hn_g0 hn_g3) ?_
  refine yG (oj hn_g0 hn_g3) ?_
  refine aw_buildSlice (xs := [.tmp 4]) (cells := [.int .i64 4, .int .i64 2, is true [0, 1, 2]]) rfl rfl rfl (zE (oj hn_g0 hn_g3)) (by refine yS (oj hn_g0 hn_g3) ?_; rfl) rfl (by omega) (by omega) (by intro x hx; simp only [List.mem_singleton] at hx; subst hx; exact ⟨rfl, rfl, rfl⟩) rfl fun g5 hn_g5 => ?_
  replace hn_g5 := Heap.ne_of hn_g5
  dsimp only [Heap.ne] at hn_g5
  refine yS (oj hn_g0 (oj hn_g3 hn_g5)) ?_
  refine aw_frzT (t := 5) (fnsF exF.nodes) (zE (oj hn_g0 (oj hn_g3 hn_g5))) (zE (oj hn_g0 (oj hn_g3 hn_g5))) (by omega) (hC g5) (fun j hj => by match j, hj with | 0, _ => rfl | 1, _ => rfl | 2, _ => rfl) rfl (zE (oj hn_g0 (oj hn_g3 hn_g5))) ?_
  refine yS (oj hn_g0 (oj hn_g3 hn_g5)) ?_
  refine yG (oj hn_g0 (oj hn_g3 hn_g5)) ?_
  refine yA (oj hn_g0 (oj hn_g3 hn_g5)) fun g2 hn_g2=>?_
  refine yG (oj hn_g0 (oj hn_g3 (oj hn_g5 hn_g2))) ?_
  refine yW (oj hn_g0 (oj hn_g3 (oj hn_g5 hn_g2))) ?_
  refine yS (oj hn_g0 (oj hn_g3 (oj hn_g5 hn_g2))) ?_
  refine yG (oj hn_g0 (oj hn_g3 (oj hn_g5 hn_g2))) ?_
  refine aw_buildSlice (xs := [.const (.int .i64 0), .const (.int .i64 1), .const (.int .i64 2)]) (cells := [.int .i64 0, .int .i64 1, .int .i64 2]) rfl rfl rfl (zE (oj hn_g0 (oj hn_g3 (oj hn_g5 hn_g2)))) (by refine yS (oj hn_g0 (oj hn_g3 (oj hn_g5 hn_g2))) ?_; rfl) rfl (by omega) (by omega) (by intro x hx; simp only [List.mem_cons, List.not_mem_nil, or_false] at hx; rcases hx with rfl | rfl | rfl <;> exact ⟨rfl, rfl, rfl⟩) rfl fun g8 hn_g8 => ?_
  replace hn_g8 := Heap.ne_of hn_g8
  dsimp only [Heap.ne] at hn_g8
  refine yS (oj hn_g0 (oj hn_g3 (oj hn_g5 (oj hn_g2 hn_g8)))) ?_
  refine aw_frzT (t := 8) (isF [0, 1, 2]) (zE (oj hn_g0 (oj hn_g3 (oj hn_g5 (oj hn_g2 hn_g8))))) (zE (oj hn_g0 (oj hn_g3 (oj hn_g5 (oj hn_g2 hn_g8))))) (by omega) (hC g8) (fun j hj => by match j, hj with | 0, _ => rfl | 1, _ => rfl | 2, _ => rfl) rfl (zE (oj hn_g0 (oj hn_g3 (oj hn_g5 (oj hn_g2 hn_g8))))) ?_
  refine yS (oj hn_g0 (oj hn_g3 (oj hn_g5 (oj hn_g2 hn_g8)))) ?_
  refine yG (oj hn_g0 (oj hn_g3 (oj hn_g5 (oj hn_g2 hn_g8)))) ?_
  refine aw_callq hbd rfl rfl rfl (by refine yS (oj hn_g0 (oj hn_g3 (oj hn_g5 (oj hn_g2 hn_g8)))) ?_; exact ⟨.agg ⟨.refl _, le_any_row (by simp), .refl _, trivial⟩, .c (le_any_row (by simp))⟩) ?_
  refine yS (oj hn_g0 (oj hn_g3 (oj hn_g5 (oj hn_g2 hn_g8)))) ?_
  refine yG (oj hn_g0 (oj hn_g3 (oj hn_g5 (oj hn_g2 hn_g8)))) ?_
  refine yC (oj hn_g0 (oj hn_g3 (oj hn_g5 (oj hn_g2 hn_g8)))) (part37_fa 1 2 ?_ ?_ ?_ ?_ ?_) ?_
  · omega
  · omega
  · omega
  · omega
  · omega
  refine yG (oj hn_g0 (oj hn_g3 (oj hn_g5 (oj hn_g2 hn_g8)))) ?_
  refine yC (oj hn_g0 (oj hn_g3 (oj hn_g5 (oj hn_g2 hn_g8)))) (part37_fa 1 3 ?_ ?_ ?_ ?_ ?_) ?_
  · omega
  · omega
  · omega
  · omega
  · omega
  refine yG (oj hn_g0 (oj hn_g3 (oj hn_g5 (oj hn_g2 hn_g8)))) ?_
  refine yC (oj hn_g0 (oj hn_g3 (oj hn_g5 (oj hn_g2 hn_g8)))) (part37_fa 1 4 ?_ ?_ ?_ ?_ ?_) ?_
  · omega
  · omega
  · omega
  · omega
  · omega
  refine yG (oj hn_g0 (oj hn_g3 (oj hn_g5 (oj hn_g2 hn_g8)))) ?_
  refine aw_buildSlice (xs := [.tmp 10, .tmp 11, .tmp 12]) (cells := rdc (rd (1 / 2)) ++ (rdc (rd (1 / 3)) ++ rdc (rd (1 / 4)))) rfl rfl rfl (zE (oj hn_g0 (oj hn_g3 (oj hn_g5 (oj hn_g2 hn_g8))))) (by refine yS (oj hn_g0 (oj hn_g3 (oj hn_g5 (oj hn_g2 hn_g8)))) ?_; rfl) rfl (by omega) (by omega) (by intro x hx; simp only [List.mem_cons, List.not_mem_nil, or_false] at hx; rcases hx with rfl | rfl | rfl <;> exact ⟨rfl, rfl, rfl⟩) rfl fun g13 hn_g13 => ?_
  replace hn_g13 := Heap.ne_of hn_g13
  dsimp only [Heap.ne] at hn_g13
  refine yS (oj hn_g0 (oj hn_g3 (oj hn_g5 (oj hn_g2 (oj hn_g8 hn_g13))))) ?_
  refine aw_frzT (t := 13) (ratsF exP) (zE (oj hn_g0 (oj hn_g3 (oj hn_g5 (oj hn_g2 (oj hn_g8 hn_g13)))))) (zE (oj hn_g0 (oj hn_g3 (oj hn_g5 (oj hn_g2 (oj hn_g8 hn_g13)))))) (by omega) (hC g13) (fun j hj => by match j, hj with | 0, _ => rfl | 1, _ => rfl | 2, _ => rfl | 3, _ => rfl | 4, _ => rfl | 5, _ => rfl | 6, _ => rfl | 7, _ => rfl | 8, _ => rfl) rfl (zE (oj hn_g0 (oj hn_g3 (oj hn_g5 (oj hn_g2 (oj hn_g8 hn_g13)))))) ?_
  refine yS (oj hn_g0 (oj hn_g3 (oj hn_g5 (oj hn_g2 (oj hn_g8 hn_g13))))) ?_
  refine yG (oj hn_g0 (oj hn_g3 (oj hn_g5 (oj hn_g2 (oj hn_g8 hn_g13))))) ?_
  refine yW (oj hn_g0 (oj hn_g3 (oj hn_g5 (oj hn_g2 (oj hn_g8 hn_g13))))) ?_
  refine yS (oj hn_g0 (oj hn_g3 (oj hn_g5 (oj hn_g2 (oj hn_g8 hn_g13))))) ?_
  refine yG (oj hn_g0 (oj hn_g3 (oj hn_g5 (oj hn_g2 (oj hn_g8 hn_g13))))) ?_
  refine yT hC (oj hn_g0 (oj hn_g3 (oj hn_g5 (oj hn_g2 (oj hn_g8 hn_g13))))) ?_
  exact .tup ⟨.agg ⟨ler_is, ler_dns, .int _ _, trivial⟩, .c (ler_rats (ps := exP) (t := true)), trivial⟩
theorem ex_small : Small exD exP := ⟨exP_wf, by decide, by decide, by decide, fun _ => by decide⟩
theorem ex_gvc : gvcode exD exP 1 0 = 0 := by unfold gvcode; rw [if_neg (fun h => h exP_code), exP_g]
theorem ex_gv : gvR exD exP 1 0 = rd (1 / 2) := by
  unfold gvR
  rw [if_pos ex_gvc]
  show rd (sumQ (condL 1 0 exP 3) (tabL exD) 8) = _
  rw [exP_gq]
set_option maxRecDepth 100000 in
set_option maxHeartbeats 1600000 in
theorem awake37_of (D : DG) (P : List RD) (hex : Fa Tryz.prog 19 [] (.tup [.agg (dgc true D), .c (rats true P)])) (hx : Fa Tryz.prog 20 [.agg (dgc false D), .c (rats false P)] (.tup [.agg (rdc (rd (7 / 24))), .c .nilI])) (hy : Fa Tryz.prog 21 [.agg (dgc false D), .c (rats false P), .agg [.int .i64 1, .int .i64 0]] (.tup [.agg (rdc (rd (1 / 2))), .c .nilI])) : Fa Tryz.prog 5 [] (.c (.bool true)) := by
  refine fa_of_body Tryz.func5 rfl rfl (by simp [Tryz.ntmps5]) fun C hC => ?_
  simp only [initS, Nat.reduceAdd]
  refine xG ?_
  refine xC (hex) ?_
  refine xG ?_
  refine xA fun g1 hn_g1=>?_
  refine yG hn_g1 ?_
  refine yW hn_g1 ?_
  refine yS hn_g1 ?_
  refine yG hn_g1 ?_
  refine aw_callq hx rfl rfl rfl (by refine yS hn_g1 ?_; exact ⟨.agg ⟨le_any_row (by simp), le_any_row (by simp), .refl _, trivial⟩, .c (le_any_row (by simp))⟩) ?_
  refine yS hn_g1 ?_
  refine yG hn_g1 ?_
  refine yA hn_g1 fun g3 hn_g3=>?_
  refine yG (oj hn_g1 hn_g3) ?_
  refine yW (oj hn_g1 hn_g3) ?_
  refine yS (oj hn_g1 hn_g3) ?_
  refine yG (oj hn_g1 hn_g3) ?_
  refine aw_callq hy rfl rfl rfl (by refine yS (oj hn_g1 hn_g3) ?_; exact ⟨.agg ⟨le_any_row (by simp), le_any_row (by simp), .refl _, trivial⟩, .c (le_any_row (by simp)), .agg ⟨.refl _, .refl _, trivial⟩⟩) ?_
  refine yS (oj hn_g1 hn_g3) ?_
  refine yG (oj hn_g1 hn_g3) ?_
  refine yA (oj hn_g1 hn_g3) fun g5 hn_g5=>?_
  refine yG (oj hn_g1 (oj hn_g3 hn_g5)) ?_
  refine yW (oj hn_g1 (oj hn_g3 hn_g5)) ?_
  refine yS (oj hn_g1 (oj hn_g3 hn_g5)) ?_
  refine yG (oj hn_g1 (oj hn_g3 hn_g5)) ?_
  refine aw_dr 16 ty_mixed (by kernel_rfl) ?_
  refine yG (oj hn_g1 (oj hn_g3 hn_g5)) ?_
  refine yD (oj hn_g1 (oj hn_g3 hn_g5)) (part37_fa 7 24 ?_ ?_ ?_ ?_ ?_) ?_
  · omega
  · omega
  · omega
  · omega
  · omega
  refine yG (oj hn_g1 (oj hn_g3 hn_g5)) ?_
  refine yD (oj hn_g1 (oj hn_g3 hn_g5)) (ratEq_fa (rd (7 / 24)) (rd (((7 : Int) : Rat) / ((24 : Int) : Rat))) (rd_wf (fits_mono (L := 1) ⟨by decide +kernel, by decide +kernel⟩ ?_))) ?_
  · omega
  rw [rdec_eq (show rd (7 / 24) = rd (((7 : Int) : Rat) / ((24 : Int) : Rat)) from rfl)]
  refine yG (oj hn_g1 (oj hn_g3 hn_g5)) ?_
  refine yD (oj hn_g1 (oj hn_g3 hn_g5)) (part37_fa 1 2 ?_ ?_ ?_ ?_ ?_) ?_
  · omega
  · omega
  · omega
  · omega
  · omega
  refine yG (oj hn_g1 (oj hn_g3 hn_g5)) ?_
  refine yD (oj hn_g1 (oj hn_g3 hn_g5)) (ratEq_fa (rd (1 / 2)) (rd (((1 : Int) : Rat) / ((2 : Int) : Rat))) (rd_wf (fits_mono (L := 1) ⟨by decide +kernel, by decide +kernel⟩ ?_))) ?_
  · omega
  rw [rdec_eq (show rd (1 / 2) = rd (((1 : Int) : Rat) / ((2 : Int) : Rat)) from rfl)]
  refine yG (oj hn_g1 (oj hn_g3 hn_g5)) ?_
  refine yT hC (oj hn_g1 (oj hn_g3 hn_g5)) ?_
  exact .one (.c (.bool _))
theorem awake37_fa : Fa Tryz.prog 5 [] (.c (.bool true)) := by
  have hx := sprobability_fa exD exP ex_small
  rw [if_pos exP_code, show (2 : Nat) ^ exP.length = 8 from rfl, exP_q, exP_code] at hx
  have hy := sgiven_fa exD exP 1 0 ex_small
  rw [ex_gv, ex_gvc] at hy
  exact awake37_of exD exP example37_fa hx hy
end Go.Proofs.YtmfmnmkipjpjhaaGreat

/- Function values that hold a receiver: bound methods. -/
namespace Go.AI
section
variable {E : Env} {K : List It} {σ σ' : Sl} {h : Heap} {all rest : List Oper} {o : Oper}
/-- A method, bound to a block. -/
def fnB (f : FuncId) (g : Nat) : CV := .raw (.func (.func f) #[.pointer (some ⟨g, 0, none⟩)] #[])
theorem aw_makeFuncB {f : FuncId} {x : Operand} {g : Nat} (hop : o.op = .makeFunc (.func f) #[x] #[]) (hw : wantA all σ o = some true) (hd : dstOk E.N o.dst = true) (hx : ev σ x = .c (.optr g 0))
    (k : aw E (.ops all rest :: K) (σ.setO o.dst (.c (fnB f g))) h) : aw E (.ops all (o :: rest) :: K) σ h := by
  refine aw_step hw (fun a w s => ?_) k
  have h1 := ev_rep s x
  rw [hx] at h1
  have h1' : a.eval x = .pointer (some ⟨g, 0, none⟩) := h1
  refine ⟨.func (.func f) #[.pointer (some ⟨g, 0, none⟩)] #[], w, .inl ?_, s.put hd rfl⟩
  have h2 : Array.map a.eval #[x] = #[.pointer (some ⟨g, 0, none⟩)] := by simp [h1']
  have h3 : Array.map a.eval #[] = #[] := by simp
  simp only [execOp, hop, Instr.makeFunc, h2, h3]
  rfl
/-- A call of a bound method. -/
theorem aw_callhB {f : FuncId} {x : Operand} {g : Nat} {xs : List Operand} {ts : Array TypeId} {hc hr : Heap} {args : List AV} {Q : AV → Heap → Prop} (hf : Fh E.P f hc (.c (.optr g 0) :: args) Q) (hop : o.op = .call { callee := .value x, args := xs.toArray, argTypes := ts }) (hw : wantA all σ o = some true) (hd : dstOk E.N o.dst = true) (hx : ev σ x = .c (fnB f g))
    (hp : h.Perm (hc ++ hr)) (le : LeA [] (xs.map (ev σ)) args) (k : ∀ r h', Q r h' → (∀ g ∈ h'.keys, g ∉ hr.keys) → aw E (.ops all rest :: K) (σ.setO o.dst r) (h' ++ hr)) : aw E (.ops all (o :: rest) :: K) σ h := fun a w s => by
  show wpList _ _ _ _ _ _
  unfold wpList
  rw [if_pos (s.wanted hw)]
  refine .inl ?_
  unfold Oper.wp
  have hv : a.eval x = .func (.func f) #[.pointer (some ⟨g, 0, none⟩)] #[] := by
    have := ev_rep s x
    rw [hx] at this
    exact this
  have hrun : (execOp a.eval o).run E.P w = .ok (.enter f (.pointer (some ⟨g, 0, none⟩) :: xs.map a.eval).toArray) w := by
    simp only [execOp, hop, resolve, hv, Deferred.ofValue, invoke, Sem.run_bind]
    have := hf.1.run (#[.pointer (some ⟨g, 0, none⟩)] ++ (Array.map a.eval xs.toArray) ++ #[]) w
    simp only [Sem.run_pure, Result.andThen_ok]
    rw [show ((Value.pointer (some ⟨g, 0, none⟩) :: xs.map a.eval).toArray) = (#[.pointer (some ⟨g, 0, none⟩)] ++ (Array.map a.eval xs.toArray) ++ #[]) from by simp]
    exact this
  rw [hrun]
  show Calls _ _ _ _ _
  refine (hf.use s hp (show RepT (Stab E.C h w) w (.c (.optr g 0) :: args) (Value.pointer (some ⟨g, 0, none⟩) :: xs.map a.eval) from ⟨rfl, LeA.rep0 s le⟩)).mono ?_
  rintro e w' ⟨v, r, h', rfl, hq, hfr, s', hrep⟩
  exact k r h' hq hfr _ _ (s'.put hd hrep)
end
end Go.AI

/- Tables of nodes: what a reference does not look at, Compose, Count. No program in sight. -/
namespace Go.PN
open Go.AI
/-- s with bit e told. -/
def setB (s e : Nat) (b : Bool) : Nat := if s.testBit e = b then s else s ^^^ 2 ^ e
/-- A reference's value, with an event replaced by another reference. -/
def CmR (ns0 : List DN) (e : Nat) (y : Int) (ns : List DN) (r x : Int) : Prop := RefOk ns x ∧ ∀ s, evalD ns s x = evalD ns0 (setB s e (evalD ns0 s y)) r
theorem Later.loose {o : List Int} {a b : List DN} {n : Nat} (h : Later o a b n) : Later o a b b.length := ⟨h.tab, h.pre, by omega⟩
/-- Compose on its way. -/
structure CmOk (o : List Int) (ns0 : List DN) (e : Nat) (y : Int) (ns : List DN) (mm : Mem3) (dl : List (Int × Int)) : Prop where
  lat : Later o ns0 ns ns.length
  mem : MemOk o ns mm
  keys : (dl.map (·.1)).Nodup
  bd : ∀ x ∈ dl, 2 ≤ x.1 ∧ x.1 < ns0.length + 2
  sem : ∀ x ∈ dl, CmR ns0 e y ns x.1 x.2
theorem CmR.later {o : List Int} {ns0 ns ns' : List DN} {e : Nat} {y r x : Int} {n : Nat} (h : CmR ns0 e y ns r x) (ht : TabOk o ns) (hl : Later o ns ns' n) : CmR ns0 e y ns' r x :=
  ⟨hl.ref h.1, fun s => by rw [hl.eval ht h.1, h.2 s]⟩
theorem CmOk.later {o : List Int} {ns0 : List DN} {e : Nat} {y : Int} {ns ns' : List DN} {mm mm' : Mem3} {dl : List (Int × Int)} (h : CmOk o ns0 e y ns mm dl) {n : Nat} (hl : Later o ns ns' n) (hm : MemOk o ns' mm') : CmOk o ns0 e y ns' mm' dl :=
  ⟨(h.lat.trans hl (Nat.le_refl _)).loose, hm, h.keys, h.bd, fun x hx => (h.sem x hx).later h.lat.tab hl⟩
theorem CmOk.push {o : List Int} {ns0 : List DN} {e : Nat} {y : Int} {ns : List DN} {mm : Mem3} {dl : List (Int × Int)} (h : CmOk o ns0 e y ns mm dl) {r x : Int} (h2 : 2 ≤ r) (hr : r < ns0.length + 2) (hnew : ∀ x ∈ dl, x.1 ≠ r) (hx : CmR ns0 e y ns r x) :
    CmOk o ns0 e y ns mm (dl ++ [(r, x)]) := by
  refine ⟨h.lat, h.mem, ?_, fun z hz => ?_, fun z hz => ?_⟩
  · rw [List.map_append, List.map_singleton]
    refine List.nodup_append.2 ⟨h.keys, by simp, fun a ha b hb => ?_⟩
    rw [List.mem_singleton] at hb
    subst hb
    obtain ⟨z, hz, rfl⟩ := List.mem_map.1 ha
    exact hnew z hz
  · rcases List.mem_append.1 hz with hz | hz
    · exact h.bd z hz
    · rw [List.mem_singleton] at hz; subst hz; exact ⟨h2, hr⟩
  · rcases List.mem_append.1 hz with hz | hz
    · exact h.sem z hz
    · rw [List.mem_singleton] at hz; subst hz; exact hx
theorem CmOk.len {o : List Int} {ns0 : List DN} {e : Nat} {y : Int} {ns : List DN} {mm : Mem3} {dl : List (Int × Int)} (h : CmOk o ns0 e y ns mm dl) : dl.length ≤ ns0.length := by
  have := nodup_range h.keys (fun x hx => by obtain ⟨z, hz, rfl⟩ := List.mem_map.1 hx; exact h.bd z hz)
  simpa using this
theorem CmOk.zero {o : List Int} {ns0 : List DN} {e : Nat} {y : Int} {mm : Mem3} (ht : TabOk o ns0) (hm : MemOk o ns0 mm) : CmOk o ns0 e y ns0 mm [] :=
  ⟨Later.refl ht _, hm, List.nodup_nil, fun x hx => absurd hx List.not_mem_nil, fun x hx => absurd hx List.not_mem_nil⟩
/-- What has been done for some references. -/
def dnGet (r : Int) : List (Int × Int) → Option Int
  | [] => none
  | e :: dl => if r = e.1 then some e.2 else dnGet r dl
def dnL (dl : List (Int × Int)) : List (Int × Value) := dl.map fun e => (e.1, .int .i64 e.2)
theorem dn_get (r : Int) : ∀ dl, kvGet r (dnL dl) = (dnGet r dl).map (Value.int .i64)
  | [] => rfl
  | e :: dl => by
    show (if r = e.1 then some (Value.int .i64 e.2) else kvGet r (dnL dl)) = _
    rw [dnGet, dn_get r dl]
    split <;> rfl
theorem dnL_push (dl : List (Int × Int)) (r x : Int) : dnL dl ++ [(r, .int .i64 x)] = dnL (dl ++ [(r, x)]) := by simp [dnL]
/-- How many of the first k states are true. -/
def cntTo (f : Nat → Bool) : Nat → Nat
  | 0 => 0
  | k + 1 => cntTo f k + if f k then 1 else 0
/-- The number of the true states of a reference. -/
def cntR (o : List Int) (ns : List DN) (r : Int) : Nat := cntTo (fun s => evalD ns s r) (2 ^ o.length)
end Go.PN

/- Tables of nodes: Export. No program in sight. -/
namespace Go.PN
open Go.AI Go.Proofs.YtmfmnmkipjpjhaaGreat
/-- The new reference of a reference, when those of rs are out, in this order. -/
def exR (rs : List Int) (r : Int) : Option Int := if r < 2 then some r else if r ∈ rs then some ((rs.idxOf r : Int) + 2) else none
theorem exR_app {rs zs : List Int} {r x : Int} (h : exR rs r = some x) : exR (rs ++ zs) r = some x := by
  unfold exR at h ⊢
  split at h
  · rename_i h2; rw [if_pos h2]; exact h
  · rename_i h2
    rw [if_neg h2]
    split at h
    · rename_i hm
      rw [if_pos (List.mem_append_left _ hm), List.idxOf_append, if_pos hm]
      exact h
    · cases h
theorem exR_take {rs : List Int} {r x : Int} {j : Nat} (h : exR (rs.take j) r = some x) : exR rs r = some x := by
  have := exR_app (zs := rs.drop j) h
  rwa [List.take_append_drop] at this
theorem exR_lt {rs : List Int} {r x : Int} (h0 : 0 ≤ r) (h : exR rs r = some x) : 0 ≤ x ∧ x < rs.length + 2 := by
  unfold exR at h
  split at h
  · injection h with h; omega
  · split at h
    · rename_i hm
      injection h with h
      have := List.idxOf_lt_length_of_mem hm
      omega
    · cases h
theorem exR_inj {rs : List Int} {a b x : Int} (ha : exR rs a = some x) (hb : exR rs b = some x) : a = b := by
  unfold exR at ha hb
  split at ha
  · injection ha with ha
    split at hb
    · injection hb with hb; omega
    · split at hb
      · injection hb with hb; omega
      · cases hb
  · split at ha
    · rename_i h1 hm
      injection ha with ha
      split at hb
      · injection hb with hb; omega
      · split at hb
        · rename_i h2 hm2
          injection hb with hb
          have e : rs.idxOf a = rs.idxOf b := by omega
          have l1 := List.idxOf_lt_length_of_mem hm
          have l2 := List.idxOf_lt_length_of_mem hm2
          have e1 := List.getElem_idxOf l1
          have e2 := List.getElem_idxOf l2
          rw [← e1, ← e2]
          simp only [e]
        · cases hb
    · cases ha
/-- What has been exported. -/
structure ExOk (ns : List DN) (rs : List Int) (os : List DN) : Prop where
  len : os.length = rs.length
  nd : rs.Nodup
  bd : ∀ r ∈ rs, 2 ≤ r ∧ r < ns.length + 2
  node : ∀ j, j < rs.length → ∃ lo hi, exR (rs.take j) (ns.getD (rs.getD j 0 - 2).toNat dn0).lo = some lo ∧ exR (rs.take j) (ns.getD (rs.getD j 0 - 2).toNat dn0).hi = some hi ∧ os.getD j dn0 = ⟨(ns.getD (rs.getD j 0 - 2).toNat dn0).v, lo, hi⟩
theorem ExOk.nil (ns : List DN) : ExOk ns [] [] := ⟨rfl, List.nodup_nil, fun x hx => absurd hx List.not_mem_nil, fun j hj => absurd hj (Nat.not_lt_zero _)⟩
theorem ExOk.ref {ns : List DN} {rs : List Int} {os : List DN} (h : ExOk ns rs os) {j : Nat} (hj : j < rs.length) : 2 ≤ rs.getD j 0 ∧ rs.getD j 0 < ns.length + 2 := by
  rw [getDZ hj]; exact h.bd _ (List.getElem_mem hj)
theorem ExOk.nsok {o : List Int} {ns : List DN} {rs : List Int} {os : List DN} (ht : TabOk o ns) (h : ExOk ns rs os) : NsOk o.length os := fun j hj => by
  have hj' : j < rs.length := by rw [← h.len]; exact hj
  obtain ⟨lo, hi, e1, e2, e3⟩ := h.node j hj'
  have hb := h.ref hj'
  have hi' : (rs.getD j 0 - 2).toNat < ns.length := by omega
  obtain ⟨v0, v1, _, _, _, _⟩ := (ht _ hi').nk
  obtain ⟨r1, r2⟩ := kids_ref ht hi'
  have b1 := exR_lt r1.1 e1
  have b2 := exR_lt r2.1 e2
  rw [List.length_take] at b1 b2
  rw [e3]
  exact ⟨v0, v1, b1.1, by show lo < j + 2; omega, b2.1, by show hi < j + 2; omega⟩
theorem ExOk.find {ns : List DN} {rs : List Int} {os : List DN} (h : ExOk ns rs os) {r x : Int} (h2 : 2 ≤ r) (e : exR rs r = some x) : ∃ j, j < rs.length ∧ rs.getD j 0 = r ∧ x = 2 + (j : Int) := by
  unfold exR at e
  rw [if_neg (by omega)] at e
  split at e
  · rename_i hm
    injection e with e
    have l := List.idxOf_lt_length_of_mem hm
    refine ⟨_, l, ?_, by omega⟩
    rw [getDZ l]
    exact List.getElem_idxOf l
  · cases e
theorem ExOk.eval {o : List Int} {ns : List DN} {rs : List Int} {os : List DN} (ht : TabOk o ns) (h : ExOk ns rs os) (s : Nat) : ∀ (n : Nat) (r x : Int), x.toNat ≤ n → 0 ≤ r → r < ns.length + 2 → exR rs r = some x → evalD os s x = evalD ns s r := by
  intro n
  induction n with
  | zero =>
    intro r x hn h0 hr e
    have := exR_lt h0 e
    by_cases h2 : r < 2
    · unfold exR at e; rw [if_pos h2] at e; injection e with e; subst e
      rw [evalD_leaf (by omega), evalD_leaf (by omega)]
    · obtain ⟨j, _, _, rfl⟩ := h.find (by omega) e
      omega
  | succ n ih =>
    intro r x hn h0 hr e
    by_cases h2 : r < 2
    · unfold exR at e; rw [if_pos h2] at e; injection e with e; subst e
      rw [evalD_leaf (by omega), evalD_leaf (by omega)]
    · obtain ⟨j, hj, er, rfl⟩ := h.find (by omega) e
      obtain ⟨lo, hi, e1, e2, e3⟩ := h.node j hj
      rw [er] at e1 e2 e3
      have hi' : (r - 2).toNat < ns.length := by omega
      obtain ⟨r1, r2⟩ := kids_ref ht hi'
      have b1 := exR_lt r1.1 e1
      have b2 := exR_lt r2.1 e2
      rw [List.length_take] at b1 b2
      rw [evalD_step (h.nsok ht) (by omega) (by rw [h.len]; omega)]
      unfold kid
      rw [show ((2 : Int) + (j : Int) - 2).toNat = j from by omega, e3]
      rw [evalD_step ht.ns (by omega) hr]
      unfold kid
      dsimp only
      split
      · exact ih _ _ (by omega) r2.1 r2.2 (exR_take e2)
      · exact ih _ _ (by omega) r1.1 r1.2 (exR_take e1)
theorem ExOk.lv {o : List Int} {ns : List DN} {rs : List Int} {os : List DN} (h : ExOk ns rs os) {r x : Int} (e : exR rs r = some x) : lvZ o os x = lvZ o ns r := by
  by_cases h2 : r < 2
  · unfold exR at e; rw [if_pos h2] at e; injection e with e; subst e
    unfold lvZ; rw [if_pos h2, if_pos h2]
  · obtain ⟨j, hj, er, rfl⟩ := h.find (by omega) e
    obtain ⟨lo, hi, e1, e2, e3⟩ := h.node j hj
    unfold lvZ
    rw [if_neg (by omega), if_neg h2, show ((2 : Int) + (j : Int) - 2).toNat = j from by omega, e3, er]
theorem behind_lv {o : List Int} {os : List DN} {root x v : Int} (h : placeZ o v < lvZ o os x) : behindB ⟨o, os, root⟩ x v = true := by
  unfold behindB
  by_cases h2 : x < 2
  · rw [decide_eq_true h2]; rfl
  · unfold lvZ at h
    rw [if_neg h2] at h
    rw [decide_eq_false h2, Bool.false_or]
    exact decide_eq_true h
theorem ExOk.ncode {o : List Int} {ns : List DN} {rs : List Int} {os : List DN} (ht : TabOk o ns) (h : ExOk ns rs os) (root : Int) {j : Nat} (hj : j < os.length) : Go.PN.ncode ⟨o, os, root⟩ j = 0 := by
  have hj' : j < rs.length := by rw [← h.len]; exact hj
  obtain ⟨lo, hi, e1, e2, e3⟩ := h.node j hj'
  have hb := h.ref hj'
  have hi' : (rs.getD j 0 - 2).toNat < ns.length := by omega
  have nd := ht _ hi'
  have nk := h.nsok ht j hj
  rw [e3] at nk
  obtain ⟨v0, v1, l0, l1, g0, g1⟩ := nk
  dsimp only at v0 v1 l0 l1 g0 g1
  unfold Go.PN.ncode
  rw [show (⟨o, os, root⟩ : DG).nodes = os from rfl, e3]
  rw [if_neg (by unfold nrange; dsimp only; omega), if_neg ?_, if_neg ?_, if_neg ?_]
  · intro hm
    obtain ⟨k, hk, hkl, ek⟩ := take_memN.1 hm
    have hk' : k < rs.length := by omega
    obtain ⟨lo', hi'', f1, f2, f3⟩ := h.node k hk'
    rw [f3] at ek
    injection ek with ev el eh
    subst el eh
    have q1 := exR_inj (exR_take f1) (exR_take e1)
    have q2 := exR_inj (exR_take f2) (exR_take e2)
    have hkb := h.ref hk'
    have same : ns.getD (rs.getD k 0 - 2).toNat dn0 = ns.getD (rs.getD j 0 - 2).toNat dn0 := by
      cases hA : ns.getD (rs.getD k 0 - 2).toNat dn0
      cases hB : ns.getD (rs.getD j 0 - 2).toNat dn0
      rw [hA, hB] at q1 q2 ev
      dsimp only at q1 q2 ev
      rw [q1, q2, ev]
    have hne : rs.getD k 0 ≠ rs.getD j 0 := fun e => by
      have p1 := place_get h.nd hk'
      have p2 := place_get h.nd hj'
      rw [e] at p1
      omega
    have hik : (rs.getD k 0 - 2).toNat < ns.length := by omega
    rcases Nat.lt_or_gt_of_ne (show (rs.getD k 0 - 2).toNat ≠ (rs.getD j 0 - 2).toNat from fun e => hne (by omega)) with hl | hl
    · refine nd.new ?_
      rw [← same]
      exact take_memN.2 ⟨_, hl, hik, rfl⟩
    · refine (ht _ hik).new ?_
      rw [same]
      exact take_memN.2 ⟨_, hl, hi', rfl⟩
  · have b1 := nd.bl
    have b2 := nd.bh
    dsimp only
    rw [behind_lv (by rw [h.lv (exR_take e1)]; exact b1), behind_lv (by rw [h.lv (exR_take e2)]; exact b2)]
    simp
  · dsimp only
    intro e
    subst e
    exact nd.ne (exR_inj (exR_take e1) (exR_take e2))
/-- A call of the walk that exports. -/
structure Ex (o : List Int) (ns : List DN) (rs : List Int) (os : List DN) (rs' : List Int) (os' : List DN) (r x : Int) : Prop where
  ok : ExOk ns rs' os'
  pre : ∃ zs, rs' = rs ++ zs
  preo : ∃ ys, os' = os ++ ys
  ref : exR rs' r = some x
  num : ∀ ys, ∀ k, x.toNat ≤ k → numF (os' ++ ys) k x (numsL rs.length) = numsL rs'.length
  below : ∀ z ∈ rs', z ∈ rs ∨ z ≤ r
  len : rs'.length ≤ rs.length + (2 ^ (o.length - lvZ o ns r).toNat - 1)
theorem mem_numsL {n : Nat} {x : Int} : x ∈ numsL n ↔ 2 ≤ x ∧ x < n + 2 := by
  unfold numsL
  rw [List.mem_map]
  constructor
  · rintro ⟨i, hi, rfl⟩
    rw [List.mem_range] at hi
    omega
  · intro h
    exact ⟨(x - 2).toNat, List.mem_range.2 (by omega), by omega⟩
theorem numsL_succ' (n : Nat) : numsL (n + 1) = numsL n ++ [(n : Int) + 2] := by simp [numsL, List.range_succ]
theorem ex_same {o : List Int} {ns : List DN} {rs : List Int} {os : List DN} {r x : Int} (h : ExOk ns rs os) (h0 : 0 ≤ r) (e : exR rs r = some x) : Ex o ns rs os rs os r x :=
  ⟨h, ⟨[], by simp⟩, ⟨[], by simp⟩, e, fun ys k _ => by
    have hx := exR_lt h0 e
    cases k with
    | zero => rfl
    | succ k => rw [numF, if_pos]; rw [mem_numsL]; omega, fun z hz => .inl hz, by omega⟩
theorem ex_node {o : List Int} {ns : List DN} {rs rs1 rs2 : List Int} {os os1 os2 : List DN} {r xl xh : Int} (ht : TabOk o ns) (h2 : 2 ≤ r) (hr : r < ns.length + 2) (hnew : r ∉ rs)
    (a : Ex o ns rs os rs1 os1 (ns.getD (r - 2).toNat dn0).lo xl) (b : Ex o ns rs1 os1 rs2 os2 (ns.getD (r - 2).toNat dn0).hi xh) :
    r ∉ rs2 ∧ Ex o ns rs os (rs2 ++ [r]) (os2 ++ [⟨(ns.getD (r - 2).toNat dn0).v, xl, xh⟩]) r ((rs2.length : Int) + 2) := by
  have hi' : (r - 2).toNat < ns.length := by omega
  have nk := (ht _ hi').nk
  obtain ⟨v0, v1, l0, l1, g0, g1⟩ := nk
  obtain ⟨z1, e1⟩ := a.pre
  obtain ⟨z2, e2⟩ := b.pre
  obtain ⟨y1, f1⟩ := a.preo
  obtain ⟨y2, f2⟩ := b.preo
  have hout : r ∉ rs2 := fun hm => by
    rcases b.below r hm with hm | hm
    · rcases a.below r hm with hm | hm
      · exact hnew hm
      · omega
    · omega
  have hax : exR rs2 (ns.getD (r - 2).toNat dn0).lo = some xl := by rw [e2]; exact exR_app a.ref
  have hxl := exR_lt l0 hax
  have hxh := exR_lt g0 b.ref
  have hlen2 := b.ok.len
  refine ⟨hout, ⟨⟨by simp [hlen2], ?_, fun z hz => ?_, fun j hj => ?_⟩, ⟨z1 ++ z2 ++ [r], by rw [e2, e1]; simp⟩, ⟨y1 ++ y2 ++ [⟨(ns.getD (r - 2).toNat dn0).v, xl, xh⟩], by rw [f2, f1]; simp only [List.append_assoc]⟩, ?_, fun ys k hk => ?_, fun z hz => ?_, ?_⟩⟩
  · exact List.nodup_append.2 ⟨b.ok.nd, by simp, fun a ha c hc => by
      rw [List.mem_singleton] at hc; subst hc; exact fun e => hout (e ▸ ha)⟩
  · rcases List.mem_append.1 hz with hz | hz
    · exact b.ok.bd z hz
    · rw [List.mem_singleton] at hz; subst hz; exact ⟨h2, hr⟩
  · rw [List.length_append, List.length_singleton] at hj
    by_cases hjl : j < rs2.length
    · obtain ⟨lo, hi, q1, q2, q3⟩ := b.ok.node j hjl
      have e : (rs2 ++ [r]).getD j 0 = rs2.getD j 0 := by
        rw [List.getD_eq_getElem?_getD, List.getD_eq_getElem?_getD, List.getElem?_append_left hjl]
      rw [e, List.take_append_of_le_length (by omega)]
      exact ⟨lo, hi, q1, q2, by rw [getD_app (by omega)]; exact q3⟩
    · have hj' : j = rs2.length := by omega
      subst hj'
      have e : (rs2 ++ [r]).getD rs2.length 0 = r := by
        rw [List.getD_eq_getElem?_getD, List.getElem?_append_right (Nat.le_refl _), Nat.sub_self]; rfl
      rw [e, List.take_append_of_le_length (Nat.le_refl _), List.take_length]
      refine ⟨xl, xh, hax, b.ref, ?_⟩
      rw [← hlen2, List.getD_eq_getElem?_getD, List.getElem?_append_right (Nat.le_refl _), Nat.sub_self]; rfl
  · unfold exR
    rw [if_neg (by omega), if_pos (by simp), List.idxOf_append, if_neg hout]
    simp
  · obtain ⟨k', rfl⟩ : ∃ k', k = k' + 1 := ⟨k - 1, by omega⟩
    have hlen : (rs2 ++ [r]).length = rs2.length + 1 := by simp
    have hg : ((os2 ++ [(⟨(ns.getD (r - 2).toNat dn0).v, xl, xh⟩ : DN)]) ++ ys).getD ((rs2.length : Int) + 2 - 2).toNat dn0 = ⟨(ns.getD (r - 2).toNat dn0).v, xl, xh⟩ := by
      rw [show ((rs2.length : Int) + 2 - 2).toNat = os2.length from by omega, List.append_assoc, List.getD_eq_getElem?_getD, List.getElem?_append_right (Nat.le_refl _), Nat.sub_self]; rfl
    have hle : rs.length ≤ rs2.length := by rw [e2, e1]; simp only [List.length_append]; omega
    rw [numF, if_neg (by rw [mem_numsL]; omega), hg]
    dsimp only
    have a1 := a.num (y2 ++ [(⟨(ns.getD (r - 2).toNat dn0).v, xl, xh⟩ : DN)] ++ ys) k' (by omega)
    have b1 := b.num ([(⟨(ns.getD (r - 2).toNat dn0).v, xl, xh⟩ : DN)] ++ ys) k' (by omega)
    have ea : os1 ++ (y2 ++ [(⟨(ns.getD (r - 2).toNat dn0).v, xl, xh⟩ : DN)] ++ ys) = os2 ++ [(⟨(ns.getD (r - 2).toNat dn0).v, xl, xh⟩ : DN)] ++ ys := by rw [f2]; simp
    rw [ea] at a1
    rw [← List.append_assoc] at b1
    rw [a1, b1, hlen, numsL_succ']
  · rcases List.mem_append.1 hz with hz | hz
    · rcases b.below z hz with h | h
      · rcases a.below z h with h | h
        · exact .inl h
        · exact .inr (by omega)
      · exact .inr (by omega)
    · rw [List.mem_singleton] at hz; exact .inr (by omega)
  · have nd := ht _ hi'
    have b1 := nd.bl
    have b2 := nd.bh
    have hlr : lvZ o ns r = placeZ o (ns.getD (r - 2).toNat dn0).v := by unfold lvZ; rw [if_neg (by omega)]
    have ll := lv_le (o := o) (ns := ns) (r := (ns.getD (r - 2).toNat dn0).lo)
    have lh := lv_le (o := o) (ns := ns) (r := (ns.getD (r - 2).toNat dn0).hi)
    have la := a.len
    have lb := b.len
    obtain ⟨q, hq⟩ : ∃ q, (o.length - lvZ o ns r).toNat = q + 1 := ⟨(o.length - lvZ o ns r).toNat - 1, by omega⟩
    have pa : 2 ^ ((o.length : Int) - lvZ o ns (ns.getD (r - 2).toNat dn0).lo).toNat ≤ 2 ^ q := Nat.pow_le_pow_right (by omega) (by omega)
    have pb : 2 ^ ((o.length : Int) - lvZ o ns (ns.getD (r - 2).toNat dn0).hi).toNat ≤ 2 ^ q := Nat.pow_le_pow_right (by omega) (by omega)
    have pq : 0 < 2 ^ q := Nat.pow_pos (by omega)
    rw [hq, Nat.pow_succ, List.length_append, List.length_singleton]
    omega
/-- What is exported is a diagram without error, of the same function. -/
theorem ex_code {o : List Int} {ns : List DN} {rs : List Int} {os : List DN} {r x : Int} (ho : ocode o o.length = 0) (ht : TabOk o ns) (hr : RefOk ns r) (h : Ex o ns [] [] rs os r x) (hl : os.length ≤ 4096) : dcode ⟨o, os, x⟩ = 0 := by
  have hx := exR_lt hr.1 h.ref
  have hlen := h.ok.len
  unfold dcode
  have hz : ∀ (k i : Nat), i + k ≤ os.length → nfirst ⟨o, os, x⟩ i k = 0 := by
    intro k
    induction k with
    | zero => intro i _; rfl
    | succ k ih =>
      intro i hi
      rw [nfirst, if_neg (by rw [h.ok.ncode ht x (by omega)]; simp)]
      exact ih (i + 1) (by omega)
  rw [if_neg (by simpa using ho), if_neg (by simpa using hl), if_neg (by rw [hz _ _ (by simp)]; simp), if_neg (by dsimp only; omega)]
  have hn := h.num [] x.toNat (Nat.le_refl _)
  rw [List.append_nil] at hn
  rw [if_pos]
  show numF os x.toNat x [] = numsL os.length
  rw [hlen, ← hn]
  rfl
end Go.PN

/- decision.Table: its memory, and Make. -/
namespace Go.AI
@[go_sem ↓] theorem updF_5_2 (a b c d e x : CV) : updF (ofL [a, b, c, d, e]) 2 [x] = ofL [a, b, x, d, e] := updF_at [a, b, c, d, e] 2 x (by simp)
end Go.AI
namespace Go.PN
open Go.AI
/-- The map of the nodes. -/
def uqTo : List DN → Nat → List (DK × Value)
  | [], _ => []
  | x :: ns, i => (dk x, .int .i64 (2 + (i : Int))) :: uqTo ns (i + 1)
theorem uq_get (x : DN) : ∀ (ns : List DN) (i : Nat), kvGet (dk x) (uqTo ns i) = (findN x ns i).map fun (j : Nat) => Value.int .i64 (2 + (j : Int))
  | [], _ => rfl
  | y :: ns, i => by
    have ih := uq_get x ns (i + 1)
    show (if dk x = dk y then some (Value.int .i64 (2 + (i : Int))) else kvGet (dk x) (uqTo ns (i + 1))) = _
    rw [findN]
    by_cases h : y = x
    · subst h; simp
    · rw [if_neg (fun e => h (dk_inj.1 e).symm), if_neg h, ih]
theorem uq_push (x : DN) : ∀ (ns : List DN) (i : Nat), uqTo (ns ++ [x]) i = uqTo ns i ++ [(dk x, .int .i64 (2 + ((i + ns.length : Nat) : Int)))]
  | [], i => by simp [uqTo]
  | y :: ns, i => by
    show _ :: uqTo (ns ++ [x]) (i + 1) = _ :: (uqTo ns (i + 1) ++ _)
    rw [uq_push x ns (i + 1)]
    simp only [List.length_cons]
    congr 5
    omega
def mmL (mm : Mem3) : List ((Int × Int × Int) × Value) := mm.map fun e => (e.1, .int .i64 e.2)
def memGet (k : Int × Int × Int) : Mem3 → Option Int
  | [] => none
  | e :: mm => if k = e.1 then some e.2 else memGet k mm
theorem mm_get (k : Int × Int × Int) : ∀ mm : Mem3, kvGet k (mmL mm) = (memGet k mm).map (Value.int .i64)
  | [] => rfl
  | e :: mm => by
    show (if k = e.1 then some (Value.int .i64 e.2) else kvGet k (mmL mm)) = _
    rw [memGet, mm_get k mm]
    split <;> rfl
theorem mem_mem {k : Int × Int × Int} {r : Int} : ∀ {mm : Mem3}, memGet k mm = some r → (k, r) ∈ mm
  | [], h => by simp [memGet] at h
  | e :: mm, h => by
    rw [memGet] at h
    split at h
    · rename_i hk
      injection h with h
      subst hk h
      exact List.mem_cons_self ..
    · exact List.mem_cons_of_mem _ (mem_mem h)
theorem mem_none {k : Int × Int × Int} : ∀ {mm : Mem3}, memGet k mm = none → ∀ e ∈ mm, e.1 ≠ k
  | e :: mm, h, e', he => by
    rw [memGet] at h
    split at h
    · cases h
    · rename_i hk
      rcases List.mem_cons.1 he with rfl | he
      · exact fun x => hk x.symm
      · exact mem_none h e' he
theorem mem_none' {k : Int × Int × Int} : ∀ {mm : Mem3}, (∀ e ∈ mm, e.1 ≠ k) → memGet k mm = none
  | [], _ => rfl
  | e :: mm, h => by
    rw [memGet, if_neg (fun x => h e (List.mem_cons_self ..) x.symm)]
    exact mem_none' fun e' he => h e' (List.mem_cons_of_mem _ he)
/-- The memory of a table. -/
def TH (T DT : TypeId) (gT gU gM : Nat) (og : Option Nat) (o pl : List Int) (ns : List DN) (mm : Mem3) : Heap :=
  [(gT, .cells T 5 (ofL [is true o, is true pl, gs og 3 ns.length, .raw (.map (some gU)), .raw (.map (some gM))])), (gU, .gen (MapI dkV (uqTo ns 0))), (gM, .gen (MapI key3 (mmL mm)))] ++ gh og DT (ns.length * 3) (dnsF ns)
end Go.PN
namespace Go.Proofs.YtmfmnmkipjpjhaaGreat
open Go.AI Go.PN
attribute [local irreducible] aw Fa Fh DrK
theorem ty_iz : tZ1 Tryz.prog 3 = some (.int .i64 0) := by kernel_rfl
abbrev THp (gT gU gM : Nat) (og : Option Nat) (o pl : List Int) (ns : List DN) (mm : Mem3) : Heap := TH 132 104 gT gU gM og o pl ns mm
set_option maxRecDepth 100000 in
set_option maxHeartbeats 3200000 in
theorem make_fh (gT gU gM : Nat) (og : Option Nat) (o pl : List Int) (ns : List DN) (mm : Mem3) (v lo hi : Int) (hog : og = none → ns.length = 0) (hn : ns.length ≤ 1000000000) :
    Fh Tryz.prog 96 (THp gT gU gM og o pl ns mm) [.c (.optr gT 0), .c (.int .i64 v), .c (.int .i64 lo), .c (.int .i64 hi)]
      (fun r h => ∃ og', (og' = none → (mkF ns v lo hi).1.length = 0) ∧ r = .c (.int .i64 (mkF ns v lo hi).2) ∧ h = THp gT gU gM og' o pl (mkF ns v lo hi).1 mm) := by
  refine fh_of_body Tryz.func96 rfl rfl (by simp [Tryz.ntmps96]) fun C hC => ?_
  simp only [initS, Nat.reduceAdd]
  refine aw_nd fun hnd => ?_
  have hd : (¬ gT = gU ∧ ¬ gU = gT) ∧ (¬ gT = gM ∧ ¬ gM = gT) ∧ (¬ gU = gM ∧ ¬ gM = gU) ∧ ∀ g, og = some g → (¬ gT = g ∧ ¬ g = gT) ∧ (¬ gU = g ∧ ¬ g = gU) ∧ (¬ gM = g ∧ ¬ g = gM) := by
    cases og with
    | none =>
      simp only [THp, TH, gh, Heap.keys, List.append_nil, List.map_cons, List.map_nil, List.nodup_cons, List.mem_cons, List.not_mem_nil, or_false, not_or, not_false_eq_true, List.nodup_nil, and_true] at hnd
      obtain ⟨⟨h1, h2⟩, h3⟩ := hnd
      exact ⟨⟨h1, fun e => h1 e.symm⟩, ⟨h2, fun e => h2 e.symm⟩, ⟨h3, fun e => h3 e.symm⟩, fun g e => by cases e⟩
    | some g' =>
      simp only [THp, TH, gh, Heap.keys, List.cons_append, List.nil_append, List.map_cons, List.map_nil, List.nodup_cons, List.mem_cons, List.not_mem_nil, or_false, not_or, not_false_eq_true, List.nodup_nil, and_true] at hnd
      obtain ⟨⟨h1, h2, h4⟩, ⟨h3, h5⟩, h6⟩ := hnd
      refine ⟨⟨h1, fun e => h1 e.symm⟩, ⟨h2, fun e => h2 e.symm⟩, ⟨h3, fun e => h3 e.symm⟩, fun g e => ?_⟩
      injection e with e
      subst e
      exact ⟨⟨h4, fun e => h4 e.symm⟩, ⟨h5, fun e => h5 e.symm⟩, ⟨h6, fun e => h6 e.symm⟩⟩
  obtain ⟨d1, d2, d3, d4⟩ := hd
  have hlen := lenCV_gs (s := 3) hog
  unfold THp TH
  simp only [List.cons_append, List.nil_append]
  repeat first|apply wa1|apply wa2|apply wa3|apply wa4|apply wa5 rfl|apply wa6|apply wa7|(refine wb1 rfl fun R r=>?_;simp only[go_sem, d1, d2, d3, ↓hlen];with_reducible refine r _ _ ?_;clear r R)
  refine aw_cond (by simp only[go_sem, d1, d2, d3, ↓hlen]<;>rfl) (fun h1 => ?_) (fun h1 => ?_)
  · have h1' : lo = hi := eq_of_beq h1
    repeat first|apply wa1|apply wa2|apply wa3|apply wa4|apply wa5 rfl|apply wa6|apply wa7|(refine wb1 rfl fun R r=>?_;simp only[go_sem, d1, d2, d3, ↓hlen];with_reducible refine r _ _ ?_;clear r R)
    (refine aw_rethq rfl fun R r=>?_;simp only[go_sem, d1, d2, d3, ↓hlen];refine r _ rfl ?_;clear r R)
    unfold mkF
    rw [if_pos h1']
    exact ⟨og, hog, rfl, rfl⟩
  have h1' : ¬ lo = hi := by simpa using h1
  repeat first|apply wa1|apply wa2|apply wa3|apply wa4|apply wa5 rfl|apply wa6|apply wa7|(refine wb1 rfl fun R r=>?_;simp only[go_sem, d1, d2, d3, ↓hlen];with_reducible refine r _ _ ?_;clear r R)
  refine aw_alloc rfl rfl rfl (by simp only[go_sem, d1, d2, d3, ↓hlen]<;>rfl) fun g9 hn_g9 => ?_
  replace hn_g9 := Heap.ne_of hn_g9
  first | dsimp only [Heap.ne, gh] at hn_g9 | dsimp only [Heap.ne] at hn_g9 | skip
  (try simp only[go_sem, d1, d2, d3, ↓hlen, hn_g9])
  repeat first|apply wa1|apply wa2|apply wa3|apply wa4|apply wa5 rfl|apply wa6|apply wa7|(refine wb1 rfl fun R r=>?_;simp only[go_sem, d1, d2, d3, ↓hlen, hn_g9];with_reducible refine r _ _ ?_;clear r R)
  refine aw_store rfl rfl rfl rfl (by simp only[go_sem, d1, d2, d3, ↓hlen, hn_g9]<;>rfl) (by simp only[go_sem, d1, d2, d3, ↓hlen, hn_g9]<;>rfl) (by simp only[go_sem, d1, d2, d3, ↓hlen, hn_g9]<;>rfl) (by simp only[go_sem, d1, d2, d3, ↓hlen, hn_g9]<;>rfl) (fun _ e => by cases e) (by rfl) (by rfl) (by first|omega|simp) rfl ?_
  (try simp only[go_sem, d1, d2, d3, ↓hlen, hn_g9])
  repeat first|apply wa1|apply wa2|apply wa3|apply wa4|apply wa5 rfl|apply wa6|apply wa7|(refine wb1 rfl fun R r=>?_;simp only[go_sem, d1, d2, d3, ↓hlen, hn_g9];with_reducible refine r _ _ ?_;clear r R)
  refine aw_dr 11 ty_mixed (by kernel_rfl) ?_
  repeat first|apply wa1|apply wa2|apply wa3|apply wa4|apply wa5 rfl|apply wa6|apply wa7|(refine wb1 rfl fun R r=>?_;simp only[go_sem, d1, d2, d3, ↓hlen, hn_g9];with_reducible refine r _ _ ?_;clear r R)|apply wa8|(refine wd1 rfl fun R r=>?_;simp only[go_sem, d1, d2, d3, ↓hlen, hn_g9];with_reducible refine r _ _ ?_;clear r R)
  refine drk_lookup2 (a := dk ⟨v, lo, hi⟩) (kv := uqTo ns 0) (Kf := dkV) (kt := 104) (et := 3) rfl rfl rfl (by kernel_rfl) dk_ok ty_iz (by simp only[go_sem, d1, d2, d3, ↓hlen, hn_g9]<;>rfl) (by simp only[go_sem, d1, d2, d3, ↓hlen, hn_g9]<;>rfl) (by simp only[go_sem, d1, d2, d3, ↓hlen, hn_g9]<;>rfl) dk_rep ?_
  (try simp only[go_sem, d1, d2, d3, ↓hlen, hn_g9])
  rw [uq_get]
  cases hf : findN ⟨v, lo, hi⟩ ns 0 with
  | some i =>
    try simp only [Option.map_some, Option.getD_some, Option.isSome_some, cstC]
    repeat first|apply wa1|apply wa2|apply wa3|apply wa4|apply wa5 rfl|apply wa6|apply wa7|(refine wb1 rfl fun R r=>?_;simp only[go_sem, d1, d2, d3, ↓hlen, hn_g9];with_reducible refine r _ _ ?_;clear r R)|apply wa8|(refine wd1 rfl fun R r=>?_;simp only[go_sem, d1, d2, d3, ↓hlen, hn_g9];with_reducible refine r _ _ ?_;clear r R)
    refine aw_condF (by simp only[go_sem, d1, d2, d3, ↓hlen, hn_g9]<;>rfl) ?_
    repeat first|apply wa1|apply wa2|apply wa3|apply wa4|apply wa5 rfl|apply wa6|apply wa7|(refine wb1 rfl fun R r=>?_;simp only[go_sem, d1, d2, d3, ↓hlen, hn_g9];with_reducible refine r _ _ ?_;clear r R)|apply wa8|(refine wd1 rfl fun R r=>?_;simp only[go_sem, d1, d2, d3, ↓hlen, hn_g9];with_reducible refine r _ _ ?_;clear r R)
    refine aw_keep [(8, .c (.int .i64 (2 + i)))] (THp gT gU gM og o pl ns mm) (by simp only[go_sem, d1, d2, d3, ↓hlen, hn_g9]<;>and_intros<;>first|exact True.intro|(with_reducible rfl)|exact c_int (by omega)|rfl) (List.Sublist.cons _ (List.Sublist.refl _)) ?_
    (refine aw_rethq rfl fun R r=>?_;simp only[go_sem, d1, d2, d3, ↓hlen, hn_g9];refine r _ rfl ?_;clear r R)
    unfold mkF
    rw [if_neg h1', hf]
    exact ⟨og, hog, rfl, rfl⟩
  | none =>
    try simp only [Option.map_none, Option.getD_none, Option.isSome_none, cstC]
    repeat first|apply wa1|apply wa2|apply wa3|apply wa4|apply wa5 rfl|apply wa6|apply wa7|(refine wb1 rfl fun R r=>?_;simp only[go_sem, d1, d2, d3, ↓hlen, hn_g9];with_reducible refine r _ _ ?_;clear r R)|apply wa8|(refine wd1 rfl fun R r=>?_;simp only[go_sem, d1, d2, d3, ↓hlen, hn_g9];with_reducible refine r _ _ ?_;clear r R)
    refine aw_condT (by simp only[go_sem, d1, d2, d3, ↓hlen, hn_g9]<;>rfl) ?_
    repeat first|apply wa1|apply wa2|apply wa3|apply wa4|apply wa5 rfl|apply wa6|apply wa7|(refine wb1 rfl fun R r=>?_;simp only[go_sem, d1, d2, d3, ↓hlen, hn_g9];with_reducible refine r _ _ ?_;clear r R)
    refine aw_cut (fun g : Nat => [(0, .c (.optr gT 0)), (9, .c (.optr g9 0)), (10, .c (.int .i64 (2 + (ns.length : Int))))]) (fun g => (g9, .cells 104 3 (ofL [.int .i64 v, .int .i64 lo, .int .i64 hi])) :: (gT, .cells 132 5 (ofL [is true o, is true pl, .osl g 3 0 (ns.length + 1), .raw (.map (some gU)), .raw (.map (some gM))])) :: (gU, .gen (MapI dkV (uqTo ns 0))) :: (gM, .gen (MapI key3 (mmL mm))) :: [(g, .cells 104 ((ns.length + 1) * 3) (dnsF (ns ++ [⟨v, lo, hi⟩])))]) (fun g => g ∉ Heap.keys [(g9, .cells 0 0 (ofL [])), (gT, .cells 0 0 (ofL [])), (gU, .cells 0 0 (ofL [])), (gM, .cells 0 0 (ofL []))]) ?_ ?_
    · refine aw_drL 7 0 37 ty_mixed (by kernel_rfl) ?_
      repeat (refine drg_2q rfl fun R r=>?_;simp only[go_sem, d1, d2, d3, ↓hlen, hn_g9];with_reducible refine r _ _ ?_;clear r R)
      refine drg_new rfl (NewX.buildSlice (xs := [.tmp 42]) (cells := [.int .i64 v, .int .i64 lo, .int .i64 hi]) rfl rfl rfl (by simp only[go_sem, d1, d2, d3, ↓hlen, hn_g9]<;>rfl) (by (try simp only[go_sem, d1, d2, d3, ↓hlen, hn_g9]); rfl) rfl (by omega) (by omega) (by intro x hx; simp only [List.mem_singleton] at hx; subst hx; exact ⟨rfl, rfl, rfl⟩) rfl (by simp [Op.operands])) (by kernel_rfl) ?_
      (try simp only[go_sem, d1, d2, d3, ↓hlen, hn_g9])
      refine drg_nil ⟨by simp, fun γ => ?_, fun γ => ?_⟩
      · simp only [List.drop_succ_cons, List.drop_zero, List.take_succ_cons, List.take_zero, List.cons_append, List.nil_append]
        (try simp only[go_sem, d1, d2, d3, ↓hlen, hn_g9])
        try simp only [List.cons_append, List.nil_append]
        generalize γ 6 = gt
        refine aw_push2 (e := 104) (size := 3) (bytes := 24) (n := ns.length) (z := [.int .i64 0, .int .i64 0, .int .i64 0]) (f := dnsF ns) (pre := [(g9, .cells 104 3 (ofL [.int .i64 v, .int .i64 lo, .int .i64 hi])), (gT, .cells 132 5 (ofL [is true o, is true pl, gs og 3 ns.length, .raw (.map (some gU)), .raw (.map (some gM))])), (gU, .gen (MapI dkV (uqTo ns 0))), (gM, .gen (MapI key3 (mmL mm)))]) (f' := dnsF (ns ++ [⟨v, lo, hi⟩])) (v := .agg [.int .i64 v, .int .i64 lo, .int .i64 hi]) rfl rfl rfl (by simp only[go_sem, d1, d2, d3, ↓hlen, hn_g9]<;>rfl) (by simp only[go_sem, d1, d2, d3, ↓hlen, hn_g9]<;>rfl) rfl (by omega) (by omega) (by simp only[go_sem, d1, d2, d3, ↓hlen, hn_g9]<;>rfl) (by simp only[go_sem, d1, d2, d3, ↓hlen, hn_g9]<;>rfl) hog (by rfl) (by rfl) (by simp only [List.cons_append, List.nil_append]; rfl) (by unfold maxLen; omega) (by omega) (lf_push (xs := ns) rfl (⟨v, lo, hi⟩ : DN) (by omega)) fun g hn_g => ?_
        (try simp only[go_sem, d1, d2, d3, ↓hlen, hn_g9])
        simp only [gs, gh, List.cons_append, List.nil_append]
        repeat first|apply wa7|(refine wb1 rfl fun R r=>?_;simp only[go_sem, d1, d2, d3, ↓hlen, hn_g9];with_reducible refine r _ _ ?_;clear r R)|apply wa8|(refine wd1 rfl fun R r=>?_;simp only[go_sem, d1, d2, d3, ↓hlen, hn_g9];with_reducible refine r _ _ ?_;clear r R)
        refine aw_store rfl rfl rfl rfl (by simp only[go_sem, d1, d2, d3, ↓hlen, hn_g9]<;>rfl) (by simp only[go_sem, d1, d2, d3, ↓hlen, hn_g9]<;>rfl) (by simp only[go_sem, d1, d2, d3, ↓hlen, hn_g9]<;>rfl) (by simp only[go_sem, d1, d2, d3, ↓hlen, hn_g9]<;>rfl) (fun _ e => by cases e) (by rfl) (by rfl) (by first|omega|simp) rfl ?_
        (try simp only[go_sem, d1, d2, d3, ↓hlen, hn_g9])
        repeat first|apply wa7|(refine wb1 rfl fun R r=>?_;simp only[go_sem, d1, d2, d3, ↓hlen, hn_g9];with_reducible refine r _ _ ?_;clear r R)
        exact aw_stop ⟨g, (by simp only[go_sem, d1, d2, d3, ↓hlen, hn_g9]<;>and_intros<;>first|exact True.intro|(with_reducible rfl)|exact c_int (by omega)|rfl), (List.Sublist.refl _), hn_g⟩
      · simp only [List.drop_succ_cons, List.drop_zero, List.take_succ_cons, List.take_zero, List.cons_append, List.nil_append]
        (try simp only[go_sem, d1, d2, d3, ↓hlen, hn_g9])
        try simp only [List.cons_append, List.nil_append]
        generalize γ 6 = gt
        refine aw_push2 (e := 104) (size := 3) (bytes := 24) (n := ns.length) (z := [.int .i64 0, .int .i64 0, .int .i64 0]) (f := dnsF ns) (pre := [(g9, .cells 104 3 (ofL [.int .i64 v, .int .i64 lo, .int .i64 hi])), (gT, .cells 132 5 (ofL [is true o, is true pl, gs og 3 ns.length, .raw (.map (some gU)), .raw (.map (some gM))])), (gU, .gen (MapI dkV (uqTo ns 0))), (gM, .gen (MapI key3 (mmL mm)))]) (f' := dnsF (ns ++ [⟨v, lo, hi⟩])) (v := .agg [.int .i64 v, .int .i64 lo, .int .i64 hi]) rfl rfl rfl (by simp only[go_sem, d1, d2, d3, ↓hlen, hn_g9]<;>rfl) (by simp only[go_sem, d1, d2, d3, ↓hlen, hn_g9]<;>rfl) rfl (by omega) (by omega) (by simp only[go_sem, d1, d2, d3, ↓hlen, hn_g9]<;>rfl) (by simp only[go_sem, d1, d2, d3, ↓hlen, hn_g9]<;>rfl) hog (by rfl) (by rfl) (by simp only [List.cons_append, List.nil_append]; rfl) (by unfold maxLen; omega) (by omega) (lf_push (xs := ns) rfl (⟨v, lo, hi⟩ : DN) (by omega)) fun g hn_g => ?_
        (try simp only[go_sem, d1, d2, d3, ↓hlen, hn_g9])
        simp only [gs, gh, List.cons_append, List.nil_append]
        repeat first|apply wa7|(refine wb1 rfl fun R r=>?_;simp only[go_sem, d1, d2, d3, ↓hlen, hn_g9];with_reducible refine r _ _ ?_;clear r R)
        refine aw_store rfl rfl rfl rfl (by simp only[go_sem, d1, d2, d3, ↓hlen, hn_g9]<;>rfl) (by simp only[go_sem, d1, d2, d3, ↓hlen, hn_g9]<;>rfl) (by simp only[go_sem, d1, d2, d3, ↓hlen, hn_g9]<;>rfl) (by simp only[go_sem, d1, d2, d3, ↓hlen, hn_g9]<;>rfl) (fun _ e => by cases e) (by rfl) (by rfl) (by first|omega|simp) rfl ?_
        (try simp only[go_sem, d1, d2, d3, ↓hlen, hn_g9])
        repeat first|apply wa7|(refine wb1 rfl fun R r=>?_;simp only[go_sem, d1, d2, d3, ↓hlen, hn_g9];with_reducible refine r _ _ ?_;clear r R)
        exact aw_stop ⟨g, (by simp only[go_sem, d1, d2, d3, ↓hlen, hn_g9]<;>and_intros<;>first|exact True.intro|(with_reducible rfl)|exact c_int (by omega)|rfl), (List.Sublist.refl _), hn_g⟩
    rintro g hn_g
    replace hn_g := Heap.ne_of hn_g
    dsimp only [Heap.ne] at hn_g
    repeat first|apply wa1|apply wa2|apply wa3|apply wa4|apply wa5 rfl|apply wa6|apply wa7|(refine wb1 rfl fun R r=>?_;simp only[go_sem, d1, d2, d3, ↓hlen, hn_g9, hn_g];with_reducible refine r _ _ ?_;clear r R)
    refine aw_dr 6 ty_mixed (by kernel_rfl) ?_
    repeat first|apply wa1|apply wa2|apply wa3|apply wa4|apply wa5 rfl|apply wa6|apply wa7|(refine wb1 rfl fun R r=>?_;simp only[go_sem, d1, d2, d3, ↓hlen, hn_g9, hn_g];with_reducible refine r _ _ ?_;clear r R)|apply wa8|(refine wd1 rfl fun R r=>?_;simp only[go_sem, d1, d2, d3, ↓hlen, hn_g9, hn_g];with_reducible refine r _ _ ?_;clear r R)
    refine aw_mapNew (a := dk ⟨v, lo, hi⟩) (kv := uqTo ns 0) (Kf := dkV) (v := .int .i64 (2 + (ns.length : Int))) rfl rfl rfl (kt := 104) (et := 3) (by kernel_rfl) dk_ok (by simp only[go_sem, d1, d2, d3, ↓hlen, hn_g9, hn_g]<;>rfl) (by simp only[go_sem, d1, d2, d3, ↓hlen, hn_g9, hn_g]<;>rfl) (by simp only[go_sem, d1, d2, d3, ↓hlen, hn_g9, hn_g]<;>rfl) dk_rep (cv := .c (.int .i64 (2 + (ns.length : Int)))) (by simp only[go_sem, d1, d2, d3, ↓hlen, hn_g9, hn_g]<;>rfl) (fun S w u h => h) (by rw [uq_get, hf]; rfl) (by simp only[go_sem, d1, d2, d3, ↓hlen, hn_g9, hn_g]<;>rfl) ?_
    have hup := uq_push ⟨v, lo, hi⟩ ns 0
    rw [Nat.zero_add] at hup
    rw [← hup]
    (try simp only[go_sem, d1, d2, d3, ↓hlen, hn_g9, hn_g])
    repeat first|apply wa1|apply wa2|apply wa3|apply wa4|apply wa5 rfl|apply wa6|apply wa7|(refine wb1 rfl fun R r=>?_;simp only[go_sem, d1, d2, d3, ↓hlen, hn_g9, hn_g];with_reducible refine r _ _ ?_;clear r R)|apply wa8|(refine wd1 rfl fun R r=>?_;simp only[go_sem, d1, d2, d3, ↓hlen, hn_g9, hn_g];with_reducible refine r _ _ ?_;clear r R)
    refine aw_keep [(8, .c (.int .i64 (2 + (ns.length : Int))))] (THp gT gU gM (some g) o pl (ns ++ [⟨v, lo, hi⟩]) mm) (by simp only[go_sem, d1, d2, d3, ↓hlen, hn_g9, hn_g]<;>and_intros<;>first|exact True.intro|(with_reducible rfl)|exact c_int (by omega)|rfl) (by
      unfold THp TH
      rw [List.length_append]
      exact List.Sublist.cons _ (List.Sublist.refl _)) ?_
    (refine aw_rethq rfl fun R r=>?_;simp only[go_sem, d1, d2, d3, ↓hlen, hn_g9, hn_g];refine r _ rfl ?_;clear r R)
    unfold mkF
    rw [if_neg h1', hf]
    exact ⟨some g, some_ne, rfl, rfl⟩
end Go.Proofs.YtmfmnmkipjpjhaaGreat
