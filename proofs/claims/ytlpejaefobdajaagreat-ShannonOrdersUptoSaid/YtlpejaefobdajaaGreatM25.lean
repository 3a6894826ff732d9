/- Texts of one proof, laid one behind the other by a program (merge.py): Awk, Shan7. -/
import Derived.Test.YtlpejaefobdajaaGreatM19
import Derived.Test.YtlpejaefobdajaaGreatM24
import Derived.Test.YtlpejaefobdajaaGreatM18
set_option linter.unusedSimpArgs false
set_option linter.unusedVariables false
/- faultlineref15: Of, Build; faultlinelaw37: example, awake. -/
namespace Go.AI
section
variable {E : Env} {K : List It} {σ : Sl} {h : Heap}
theorem Sl.set_set (t : Nat) (u v : AV) : ∀ σ : Sl, (σ.set t u).set t v = σ.set t v
  | [] => by simp [Sl.set]
  | (t', x) :: σ => by
    simp only [Sl.set]
    by_cases e : t' = t
    · rw [if_pos e, if_pos e]; simp [Sl.set]
    · rw [if_neg e, if_neg e]; simp only [Sl.set, if_neg e]; rw [Sl.set_set t u v σ]
/-- A block of its own is given up, told otherwise. -/
theorem aw_frzT {t g s off n m : Nat} {ty : TypeId} {f : Nat → CV} (f' : Nat → CV) {σ' : Sl} {h' : Heap} (ht : σ.get t = .c (.osl g s off n)) (hg : h.get g = some (.cells ty m f)) (hm : off + n * s ≤ m) (hn : ¬ E.C.own0 g) (hf : ∀ j, j < n * s → f (off + j) = f' j) (hσ : σ.set t (.c (.row true s n f')) = σ') (hh : h.del g = h')
    (k : aw E K σ' h') : aw E K σ h := by
  refine aw_frz ht hg hm hn rfl hh ?_
  refine aw_conv (t := t) (v := .c (.row true s n f')) (σ' := σ') (fun S w u hr => ?_) ?_ k
  · rw [Sl.get_set, if_pos rfl] at hr
    obtain ⟨A, c, hv, hc, hn⟩ := hr
    refine ⟨A, c, hv, hc, fun h0 => ?_⟩
    obtain ⟨ad, hA, hS, hj⟩ := hn h0
    refine ⟨ad, hA, hS, fun j hjl => ?_⟩
    obtain ⟨u, hu, hru⟩ := hj j hjl
    exact ⟨u, hu, by rw [← hf j hjl]; exact hru⟩
  · rw [← hσ, Sl.set_set]
theorem ler_gsd {pre : Heap} {og : Option Nat} {e n : Nat} {t : Bool} {vs : List DN} (hog : og = none → n = 0) (hn : ∀ g, og = some g → g ∉ pre.keys) (hl : vs.length = n) : LeR (pre ++ gh og e (n * 3) (dnsF vs)) (gs og 3 n) (dns t vs) := by
  subst hl
  exact ler_gs hog hn (lf_ler (by omega) fun x _ k hk => by match k, hk with | 0, _ => exact .int _ _ | 1, _ => exact .int _ _ | 2, _ => exact .int _ _)
end
end Go.AI
namespace Go.Proofs.YtlpejaefobdajaaGreat
open Go.AI Go.PN
attribute [local irreducible] aw Fa Fh DrK
theorem add_ok (o : List Int) (tb : List Bool) (rt : Int) (ho : o.length ≤ 12) (hr : ∀ x ∈ o, 0 ≤ x ∧ x < o.length) (ht : tb.length = 2 ^ o.length) : ∀ k, AddOk o tb rt k
  | 0 => add_zero o tb rt ho hr ht
  | k + 1 => add_succ o tb rt ho hr ht k (add_ok o tb rt ho hr ht k)
set_option maxRecDepth 100000 in
set_option maxHeartbeats 1600000 in
theorem of15_fa (tb : List Bool) (o : List Int) (h0 : 0 < o.length) (ho : o.length ≤ 12) (hr : ∀ x ∈ o, 0 ≤ x ∧ x < o.length) (ht : tb.length = 2 ^ o.length) :
    Fa Tryz.prog 120 [.c (bs false tb), .c (is false o)] (.agg (dgc true ⟨o, (addF o tb o.length 0 0 []).1, (addF o tb o.length 0 0 []).2⟩)) := by
  have h2o : 2 ^ o.length ≤ 4096 := by
    have h3 : 2 ^ o.length ≤ 2 ^ 12 := Nat.pow_le_pow_right (by omega) (by omega)
    have h4 : (2 : Nat) ^ 12 = 4096 := by decide
    omega
  have hpos : 0 < 2 ^ o.length := Nat.pow_pos (by omega)
  refine fa_of_body Tryz.func120 rfl rfl (by simp [Tryz.ntmps120]) fun C hC => ?_
  simp only [initS, Nat.reduceAdd]
  refine xG ?_
  refine xA fun g4 hn_g4=>?_
  refine yG hn_g4 ?_
  refine yA hn_g4 fun g5 hn_g5=>?_
  refine yG (oj hn_g4 hn_g5) ?_
  refine yW (oj hn_g4 hn_g5) ?_
  refine yS (oj hn_g4 hn_g5) ?_
  refine yG (oj hn_g4 hn_g5) ?_
  refine aw_appendN (size := 1) (z := [.int .i64 0]) (cx := is false o) (k := o.length) (f2 := isF o) rfl rfl rfl (zE (oj hn_g4 hn_g5)) (zE (oj hn_g4 hn_g5)) rfl (by omega) (zE (oj hn_g4 hn_g5)) (zE (oj hn_g4 hn_g5)) .row h0 (by unfold maxLen; omega) (by omega) fun go hn_go => ?_
  replace hn_go := Heap.ne_of hn_go
  dsimp only [Heap.ne] at hn_go
  refine yS (oj hn_g4 (oj hn_g5 hn_go)) ?_
  refine aw_frzT (t := 10) (isF o) (zE (oj hn_g4 (oj hn_g5 hn_go))) (zE (oj hn_g4 (oj hn_g5 hn_go))) (by omega) (hC go) (fun j _ => by rw [Nat.zero_add]) rfl (zE (oj hn_g4 (oj hn_g5 hn_go))) ?_
  refine yS (oj hn_g4 (oj hn_g5 hn_go)) ?_
  refine yG (oj hn_g4 (oj hn_g5 hn_go)) ?_
  refine yW (oj hn_g4 (oj hn_g5 hn_go)) ?_
  refine yS (oj hn_g4 (oj hn_g5 hn_go)) ?_
  refine yG (oj hn_g4 (oj hn_g5 hn_go)) ?_
  have hcall := add_ok o tb 0 ho hr ht o.length 0 0 [] none 0 (by omega) hpos rfl (by omega) (fun _ => rfl)
  refine aw_callh (hr := [(g5, AObj.cells 25 3 (ofL [is true o, .nils, .int .i64 0])), (g4, AObj.cells 25 3 (ofL [.nils, .nils, .int .i64 0]))]) hcall rfl rfl rfl (List.Perm.refl _) (zL (oj hn_g4 (oj hn_g5 hn_go))) ?_
  generalize addF o tb o.length 0 0 [] = B at *
  rintro _ _ ⟨og, n, hn, hb, hog, rfl, rfl⟩ hk
  have hg : ∀ g, og = some g → ¬ g = g5 ∧ ¬ g = g4 := fun g e => by
    subst e
    have := hk g (by simp [gh, Heap.keys])
    simpa [Heap.keys] using this
  refine aw_perm (List.perm_append_comm (l₂ := [(g5, AObj.cells 25 3 (ofL [is true o, .nils, .int .i64 0])), (g4, AObj.cells 25 3 (ofL [.nils, .nils, .int .i64 0]))])) ?_
  refine yS (oj hn_g4 (oj hn_g5 hn_go)) ?_
  refine yG (oj hn_g4 (oj hn_g5 hn_go)) ?_
  refine yW (oj hn_g4 (oj hn_g5 hn_go)) ?_
  refine yS (oj hn_g4 (oj hn_g5 hn_go)) ?_
  refine yG (oj hn_g4 (oj hn_g5 hn_go)) ?_
  refine yW (oj hn_g4 (oj hn_g5 hn_go)) ?_
  refine yS (oj hn_g4 (oj hn_g5 hn_go)) ?_
  refine yG (oj hn_g4 (oj hn_g5 hn_go)) ?_
  refine yW (oj hn_g4 (oj hn_g5 hn_go)) ?_
  refine yS (oj hn_g4 (oj hn_g5 hn_go)) ?_
  refine yG (oj hn_g4 (oj hn_g5 hn_go)) ?_
  refine yT hC (oj hn_g4 (oj hn_g5 hn_go)) ?_
  refine .one (.agg ⟨ler_is, ?_, .int _ _, trivial⟩)
  exact ler_gsd (pre := [(g5, _), (g4, _)]) hog (fun g e => by have := hg g e; simp only [Heap.keys, List.map_cons, List.map_nil, List.mem_cons, List.not_mem_nil, or_false]; omega) hn
set_option maxHeartbeats 800000 in
theorem build15_fa (f : FM) (hf : FmOk f) (hv : f.vars ≤ 12) (o : List Int) (h0 : 0 < o.length) (ho : (o.length : Int) = f.vars) (hr : ∀ x ∈ o, 0 ≤ x ∧ x < o.length) :
    Fa Tryz.prog 62 [.agg (fmc false f), .c (is false o)] (.agg (dgc true ⟨o, (addF o (formTo f (2 ^ f.vars.toNat)) o.length 0 0 []).1, (addF o (formTo f (2 ^ f.vars.toNat)) o.length 0 0 []).2⟩)) := by
  have hl : f.vars.toNat = o.length := by omega
  refine fa_of_body Tryz.func62 rfl rfl (by simp [Tryz.ntmps62]) fun C hC => ?_
  simp only [initS, Nat.reduceAdd]
  refine xG ?_
  refine xB fun g2 hn_g2=>?_
  refine yG hn_g2 ?_
  refine yA hn_g2 fun g4 hn_g4=>?_
  refine yG (oj hn_g2 hn_g4) ?_
  refine yC (oj hn_g2 hn_g4) (formula_fa f hf ?_) ?_
  · omega
  refine yG (oj hn_g2 hn_g4) ?_
  refine yC (oj hn_g2 hn_g4) (of15_fa (formTo f (2 ^ f.vars.toNat)) o h0 ?_ hr ?_) ?_
  · omega
  · rw [formTo_len, hl]
  refine yG (oj hn_g2 hn_g4) ?_
  refine yW (oj hn_g2 hn_g4) ?_
  refine yS (oj hn_g2 hn_g4) ?_
  refine yG (oj hn_g2 hn_g4) ?_
  refine yT hC (oj hn_g2 hn_g4) ?_
  exact .one (.agg ⟨ler_is, ler_dns, .int _ _, trivial⟩)
set_option maxRecDepth 100000 in
set_option maxHeartbeats 1600000 in
theorem example37_fa : Fa Tryz.prog 95 [] (.tup [.agg (dgc true exD), .c (rats true exP)]) := by
  have hbd := build15_fa exF exF_ok (by decide) [0, 1, 2] (by decide) rfl (by simp)
  rw [exT_eq] at hbd
  rw [show ([0, 1, 2] : List Int).length = 3 from rfl, exD_eq] at hbd
  refine fa_of_body Tryz.func95 rfl rfl (by simp [Tryz.ntmps95]) fun C hC => ?_
  simp only [initS, Nat.reduceAdd]
  refine xG ?_
  refine xA fun g0 hn_g0=>?_
  refine yG hn_g0 ?_
  refine aw_buildSlice (xs := [.const (.int .i64 0), .const (.int .i64 1), .const (.int .i64 2)]) (cells := [.int .i64 0, .int .i64 1, .int .i64 2]) rfl rfl rfl (zE hn_g0) (by refine yS hn_g0 ?_; rfl) rfl (by omega) (by omega) (by intro x hx; simp only [List.mem_cons, List.not_mem_nil, or_false] at hx; rcases hx with rfl | rfl | rfl <;> exact ⟨rfl, rfl, rfl⟩) rfl fun g3 hn_g3 => ?_
  replace hn_g3 := Heap.ne_of hn_g3
  dsimp only [Heap.ne] at hn_g3
  refine yS (oj hn_g0 hn_g3) ?_
  refine aw_frzT (t := 3) (isF [0, 1, 2]) (zE (oj hn_g0 hn_g3)) (zE (oj hn_g0 hn_g3)) (by omega) (hC g3) (fun j hj => by match j, hj with | 0, _ => rfl | 1, _ => rfl | 2, _ => rfl) rfl (zE (oj hn_g0 hn_g3)) ?_
  refine yS (oj hn_g0 hn_g3) ?_
  refine yG (oj hn_g0 hn_g3) ?_
  refine aw_buildSlice (xs := [.tmp 4]) (cells := [.int .i64 4, .int .i64 2, is true [0, 1, 2]]) rfl rfl rfl (zE (oj hn_g0 hn_g3)) (by refine yS (oj hn_g0 hn_g3) ?_; rfl) rfl (by omega) (by omega) (by intro x hx; simp only [List.mem_singleton] at hx; subst hx; exact ⟨rfl, rfl, rfl⟩) rfl fun g5 hn_g5 => ?_
  replace hn_g5 := Heap.ne_of hn_g5
  dsimp only [Heap.ne] at hn_g5
  refine yS (oj hn_g0 (oj hn_g3 hn_g5)) ?_
  refine aw_frzT (t := 5) (fnsF exF.nodes) (zE (oj hn_g0 (oj hn_g3 hn_g5))) (zE (oj hn_g0 (oj hn_g3 hn_g5))) (by omega) (hC g5) (fun j hj => by match j, hj with | 0, _ => rfl | 1, _ => rfl | 2, _ => rfl) rfl (zE (oj hn_g0 (oj hn_g3 hn_g5))) ?_
  refine yS (oj hn_g0 (oj hn_g3 hn_g5)) ?_
  refine yG (oj hn_g0 (oj hn_g3 hn_g5)) ?_
  refine yA (oj hn_g0 (oj hn_g3 hn_g5)) fun g2 hn_g2=>?_
  refine yG (oj hn_g0 (oj hn_g3 (oj hn_g5 hn_g2))) ?_
  refine yW (oj hn_g0 (oj hn_g3 (oj hn_g5 hn_g2))) ?_
  refine yS (oj hn_g0 (oj hn_g3 (oj hn_g5 hn_g2))) ?_
  refine yG (oj hn_g0 (oj hn_g3 (oj hn_g5 hn_g2))) ?_
  refine aw_buildSlice (xs := [.const (.int .i64 0), .const (.int .i64 1), .const (.int .i64 2)]) (cells := [.int .i64 0, .int .i64 1, .int .i64 2]) rfl rfl rfl (zE (oj hn_g0 (oj hn_g3 (oj hn_g5 hn_g2)))) (by refine yS (oj hn_g0 (oj hn_g3 (oj hn_g5 hn_g2))) ?_; rfl) rfl (by omega) (by omega) (by intro x hx; simp only [List.mem_cons, List.not_mem_nil, or_false] at hx; rcases hx with rfl | rfl | rfl <;> exact ⟨rfl, rfl, rfl⟩) rfl fun g8 hn_g8 => ?_
  replace hn_g8 := Heap.ne_of hn_g8
  dsimp only [Heap.ne] at hn_g8
  refine yS (oj hn_g0 (oj hn_g3 (oj hn_g5 (oj hn_g2 hn_g8)))) ?_
  refine aw_frzT (t := 8) (isF [0, 1, 2]) (zE (oj hn_g0 (oj hn_g3 (oj hn_g5 (oj hn_g2 hn_g8))))) (zE (oj hn_g0 (oj hn_g3 (oj hn_g5 (oj hn_g2 hn_g8))))) (by omega) (hC g8) (fun j hj => by match j, hj with | 0, _ => rfl | 1, _ => rfl | 2, _ => rfl) rfl (zE (oj hn_g0 (oj hn_g3 (oj hn_g5 (oj hn_g2 hn_g8))))) ?_
  refine yS (oj hn_g0 (oj hn_g3 (oj hn_g5 (oj hn_g2 hn_g8)))) ?_
  refine yG (oj hn_g0 (oj hn_g3 (oj hn_g5 (oj hn_g2 hn_g8)))) ?_
  refine aw_callq hbd rfl rfl rfl (by refine yS (oj hn_g0 (oj hn_g3 (oj hn_g5 (oj hn_g2 hn_g8)))) ?_; exact ⟨.agg ⟨.refl _, le_any_row (by simp), .refl _, trivial⟩, .c (le_any_row (by simp))⟩) ?_
  refine yS (oj hn_g0 (oj hn_g3 (oj hn_g5 (oj hn_g2 hn_g8)))) ?_
  refine yG (oj hn_g0 (oj hn_g3 (oj hn_g5 (oj hn_g2 hn_g8)))) ?_
  refine yC (oj hn_g0 (oj hn_g3 (oj hn_g5 (oj hn_g2 hn_g8)))) (part37_fa 1 2 ?_ ?_ ?_ ?_ ?_) ?_
  · omega
  · omega
  · omega
  · omega
  · omega
  refine yG (oj hn_g0 (oj hn_g3 (oj hn_g5 (oj hn_g2 hn_g8)))) ?_
  refine yC (oj hn_g0 (oj hn_g3 (oj hn_g5 (oj hn_g2 hn_g8)))) (part37_fa 1 3 ?_ ?_ ?_ ?_ ?_) ?_
  · omega
  · omega
  · omega
  · omega
  · omega
  refine yG (oj hn_g0 (oj hn_g3 (oj hn_g5 (oj hn_g2 hn_g8)))) ?_
  refine yC (oj hn_g0 (oj hn_g3 (oj hn_g5 (oj hn_g2 hn_g8)))) (part37_fa 1 4 ?_ ?_ ?_ ?_ ?_) ?_
  · omega
  · omega
  · omega
  · omega
  · omega
  refine yG (oj hn_g0 (oj hn_g3 (oj hn_g5 (oj hn_g2 hn_g8)))) ?_
  refine aw_buildSlice (xs := [.tmp 10, .tmp 11, .tmp 12]) (cells := rdc (rd (1 / 2)) ++ (rdc (rd (1 / 3)) ++ rdc (rd (1 / 4)))) rfl rfl rfl (zE (oj hn_g0 (oj hn_g3 (oj hn_g5 (oj hn_g2 hn_g8))))) (by refine yS (oj hn_g0 (oj hn_g3 (oj hn_g5 (oj hn_g2 hn_g8)))) ?_; rfl) rfl (by omega) (by omega) (by intro x hx; simp only [List.mem_cons, List.not_mem_nil, or_false] at hx; rcases hx with rfl | rfl | rfl <;> exact ⟨rfl, rfl, rfl⟩) rfl fun g13 hn_g13 => ?_
  replace hn_g13 := Heap.ne_of hn_g13
  dsimp only [Heap.ne] at hn_g13
  refine yS (oj hn_g0 (oj hn_g3 (oj hn_g5 (oj hn_g2 (oj hn_g8 hn_g13))))) ?_
  refine aw_frzT (t := 13) (ratsF exP) (zE (oj hn_g0 (oj hn_g3 (oj hn_g5 (oj hn_g2 (oj hn_g8 hn_g13)))))) (zE (oj hn_g0 (oj hn_g3 (oj hn_g5 (oj hn_g2 (oj hn_g8 hn_g13)))))) (by omega) (hC g13) (fun j hj => by match j, hj with | 0, _ => rfl | 1, _ => rfl | 2, _ => rfl | 3, _ => rfl | 4, _ => rfl | 5, _ => rfl | 6, _ => rfl | 7, _ => rfl | 8, _ => rfl) rfl (zE (oj hn_g0 (oj hn_g3 (oj hn_g5 (oj hn_g2 (oj hn_g8 hn_g13)))))) ?_
  refine yS (oj hn_g0 (oj hn_g3 (oj hn_g5 (oj hn_g2 (oj hn_g8 hn_g13))))) ?_
  refine yG (oj hn_g0 (oj hn_g3 (oj hn_g5 (oj hn_g2 (oj hn_g8 hn_g13))))) ?_
  refine yW (oj hn_g0 (oj hn_g3 (oj hn_g5 (oj hn_g2 (oj hn_g8 hn_g13))))) ?_
  refine yS (oj hn_g0 (oj hn_g3 (oj hn_g5 (oj hn_g2 (oj hn_g8 hn_g13))))) ?_
  refine yG (oj hn_g0 (oj hn_g3 (oj hn_g5 (oj hn_g2 (oj hn_g8 hn_g13))))) ?_
  refine yT hC (oj hn_g0 (oj hn_g3 (oj hn_g5 (oj hn_g2 (oj hn_g8 hn_g13))))) ?_
  exact .tup ⟨.agg ⟨ler_is, ler_dns, .int _ _, trivial⟩, .c (ler_rats (ps := exP) (t := true)), trivial⟩
theorem ex_small : Small exD exP := ⟨exP_wf, by decide, by decide, by decide, fun _ => by decide⟩
theorem ex_gvc : gvcode exD exP 1 0 = 0 := by unfold gvcode; rw [if_neg (fun h => h exP_code), exP_g]
theorem ex_gv : gvR exD exP 1 0 = rd (1 / 2) := by
  unfold gvR
  rw [if_pos ex_gvc]
  show rd (sumQ (condL 1 0 exP 3) (tabL exD) 8) = _
  rw [exP_gq]
set_option maxRecDepth 100000 in
set_option maxHeartbeats 1600000 in
theorem awake37_of (D : DG) (P : List RD) (hex : Fa Tryz.prog 95 [] (.tup [.agg (dgc true D), .c (rats true P)])) (hx : Fa Tryz.prog 33 [.agg (dgc false D), .c (rats false P)] (.tup [.agg (rdc (rd (7 / 24))), .c .nilI])) (hy : Fa Tryz.prog 96 [.agg (dgc false D), .c (rats false P), .agg [.int .i64 1, .int .i64 0]] (.tup [.agg (rdc (rd (1 / 2))), .c .nilI])) : Fa Tryz.prog 37 [] (.c (.bool true)) := by
  refine fa_of_body Tryz.func37 rfl rfl (by simp [Tryz.ntmps37]) fun C hC => ?_
  simp only [initS, Nat.reduceAdd]
  refine xG ?_
  refine xC (hex) ?_
  refine xG ?_
  refine xA fun g1 hn_g1=>?_
  refine yG hn_g1 ?_
  refine yW hn_g1 ?_
  refine yS hn_g1 ?_
  refine yG hn_g1 ?_
  refine aw_callq hx rfl rfl rfl (by refine yS hn_g1 ?_; exact ⟨.agg ⟨le_any_row (by simp), le_any_row (by simp), .refl _, trivial⟩, .c (le_any_row (by simp))⟩) ?_
  refine yS hn_g1 ?_
  refine yG hn_g1 ?_
  refine yA hn_g1 fun g3 hn_g3=>?_
  refine yG (oj hn_g1 hn_g3) ?_
  refine yW (oj hn_g1 hn_g3) ?_
  refine yS (oj hn_g1 hn_g3) ?_
  refine yG (oj hn_g1 hn_g3) ?_
  refine aw_callq hy rfl rfl rfl (by refine yS (oj hn_g1 hn_g3) ?_; exact ⟨.agg ⟨le_any_row (by simp), le_any_row (by simp), .refl _, trivial⟩, .c (le_any_row (by simp)), .agg ⟨.refl _, .refl _, trivial⟩⟩) ?_
  refine yS (oj hn_g1 hn_g3) ?_
  refine yG (oj hn_g1 hn_g3) ?_
  refine yA (oj hn_g1 hn_g3) fun g5 hn_g5=>?_
  refine yG (oj hn_g1 (oj hn_g3 hn_g5)) ?_
  refine yW (oj hn_g1 (oj hn_g3 hn_g5)) ?_
  refine yS (oj hn_g1 (oj hn_g3 hn_g5)) ?_
  refine yG (oj hn_g1 (oj hn_g3 hn_g5)) ?_
  refine aw_dr 16 ty_mixed (by kernel_rfl) ?_
  refine yG (oj hn_g1 (oj hn_g3 hn_g5)) ?_
  refine yD (oj hn_g1 (oj hn_g3 hn_g5)) (part37_fa 7 24 ?_ ?_ ?_ ?_ ?_) ?_
  · omega
  · omega
  · omega
  · omega
  · omega
  refine yG (oj hn_g1 (oj hn_g3 hn_g5)) ?_
  refine yD (oj hn_g1 (oj hn_g3 hn_g5)) (ratEq_fa (rd (7 / 24)) (rd (((7 : Int) : Rat) / ((24 : Int) : Rat))) (rd_wf (fits_mono (L := 1) ⟨by decide +kernel, by decide +kernel⟩ ?_))) ?_
  · omega
  rw [rdec_eq (show rd (7 / 24) = rd (((7 : Int) : Rat) / ((24 : Int) : Rat)) from rfl)]
  refine yG (oj hn_g1 (oj hn_g3 hn_g5)) ?_
  refine yD (oj hn_g1 (oj hn_g3 hn_g5)) (part37_fa 1 2 ?_ ?_ ?_ ?_ ?_) ?_
  · omega
  · omega
  · omega
  · omega
  · omega
  refine yG (oj hn_g1 (oj hn_g3 hn_g5)) ?_
  refine yD (oj hn_g1 (oj hn_g3 hn_g5)) (ratEq_fa (rd (1 / 2)) (rd (((1 : Int) : Rat) / ((2 : Int) : Rat))) (rd_wf (fits_mono (L := 1) ⟨by decide +kernel, by decide +kernel⟩ ?_))) ?_
  · omega
  rw [rdec_eq (show rd (1 / 2) = rd (((1 : Int) : Rat) / ((2 : Int) : Rat)) from rfl)]
  refine yG (oj hn_g1 (oj hn_g3 hn_g5)) ?_
  refine yT hC (oj hn_g1 (oj hn_g3 hn_g5)) ?_
  exact .one (.c (.bool _))
theorem awake37_fa : Fa Tryz.prog 37 [] (.c (.bool true)) := by
  have hx := sprobability_fa exD exP ex_small
  rw [if_pos exP_code, show (2 : Nat) ^ exP.length = 8 from rfl, exP_q, exP_code] at hx
  have hy := sgiven_fa exD exP 1 0 ex_small
  rw [ex_gv, ex_gvc] at hy
  exact awake37_of exD exP example37_fa hx hy
end Go.Proofs.YtlpejaefobdajaaGreat

/- faultlinebase.Rats; Accepts of shannon and of the reference. -/
namespace Go.PN
open Go.AI
theorem getRD {xs : List RD} {i : Nat} (h : i < xs.length) : xs.getD i rd0 = xs[i] := by
  rw [List.getD_eq_getElem?_getD, List.getElem?_eq_getElem h]; rfl
theorem ratL_ext {xs ys : List RD} (hl : xs.length = ys.length) (h : ∀ j, j < xs.length → xs.getD j rd0 = ys.getD j rd0) : xs = ys := by
  refine List.ext_getElem hl fun j h1 h2 => ?_
  have := h j h1
  rw [getRD h1, getRD h2] at this
  exact this
/-- The number of the error of Accepts. -/
def acode (d : DG) (p v : List RD) : Int := if dpcode d p ≠ 0 then dpcode d p else if v.length ≠ d.nodes.length then 11 else 0
/-- Do the values answer the equations of the nodes? -/
def accB (p v : List RD) (ns : List DN) : Bool := (List.range ns.length).all fun i => decide ((v.getD i rd0).q = nodeQ p v (ns.getD i dn0))
theorem accB_true {p v : List RD} {ns : List DN} (h : ∀ j, j < ns.length → (v.getD j rd0).q = nodeQ p v (ns.getD j dn0)) : accB p v ns = true := by
  unfold accB
  rw [List.all_eq_true]
  intro j hj
  exact decide_eq_true (h j (List.mem_range.1 hj))
theorem accB_false {p v : List RD} {ns : List DN} {j : Nat} (hj : j < ns.length) (h : (v.getD j rd0).q ≠ nodeQ p v (ns.getD j dn0)) : accB p v ns = false := by
  cases hb : accB p v ns with
  | false => rfl
  | true =>
    unfold accB at hb
    rw [List.all_eq_true] at hb
    exact absurd (of_decide_eq_true (hb j (List.mem_range.2 hj))) h
theorem signQ_zero {x y : Rat} : (signQ (x - y) != 0) = !decide (x = y) := by
  have h0 : signQ (x - y) = 0 ↔ x = y := by
    unfold signQ
    constructor
    · intro h
      split at h
      · rename_i h1; grind
      · split at h <;> cases h
    · intro h; rw [if_pos (by grind)]
  by_cases h : x = y
  · rw [h0.2 h]; simp [h]
  · have : signQ (x - y) ≠ 0 := fun e => h (h0.1 e)
    simp [h, this]
end Go.PN
namespace Go.Proofs.YtlpejaefobdajaaGreat
open Go.AI Go.PN
attribute [local irreducible] aw Fa Fh DrK
theorem nodeok_mono {m k k' : Nat} {n : DN} (h : NodeOk m k n) (hk : k ≤ k') : NodeOk m k' n := by
  obtain ⟨h1, h2, h3, h4, h5, h6⟩ := h
  exact ⟨h1, h2, h3, by omega, h5, by omega⟩
set_option maxHeartbeats 1600000 in
theorem rats_fa (xs ys : List RD) (hw : ∀ x ∈ xs, x.wf 68719476736) (hl : xs.length ≤ 1099511627776) : Fa Tryz.prog 43 [.c (rats false xs), .c (rats false ys)] (.c (.bool (decide (xs = ys)))) := by
  refine fa_of_body Tryz.func43 rfl rfl (by simp [Tryz.ntmps43]) fun C hC => ?_
  simp only [initS, Nat.reduceAdd]
  refine xG ?_
  refine xF (fun hb=>?_) fun hb=>?_
  · refine xG ?_
    refine xT hC ?_
    refine .one (.c (ler_bool ?_))
    have : xs ≠ ys := fun e => by rw [e] at hb; simp at hb
    simp [this]
  · have hlen : xs.length = ys.length := by
      have : ((xs.length : Int) == (ys.length : Int)) = true := by simpa [bne] using hb
      have := eq_of_beq this; omega
    refine xG ?_
    refine aw_lp (fun i : Nat => [(0, .c (rats false xs)), (1, .c (rats false ys)), (12, .c (.int .i64 xs.length)), (13, .c (.int .i64 i))]) (fun _ => []) (fun i => i ≤ xs.length ∧ ∀ j, j < i → xs.getD j rd0 = ys.getD j rd0) (fun i => xs.length - i) 0 eB zZ ⟨Nat.zero_le _, fun j hj => by omega⟩ ?_
    rintro i ⟨hi, hs⟩
    refine xG ?_
    refine xF (fun hb=>?_) fun hb=>?_
    · have hin : i < xs.length := by have := of_decide_eq_true hb; omega
      refine xG ?_
      refine aw_dr 10 ty_mixed (by kernel_rfl) ?_
      refine xG ?_
      refine xD (ratEq_fa (xs.getD i rd0) (ys.getD i rd0) ?_) ?_
      · rw [getRD hin]; exact hw _ (List.getElem_mem hin)
      refine xG ?_
      refine xF (fun hc=>?_) fun hc=>?_
      · have hc' : xs.getD i rd0 ≠ ys.getD i rd0 := by simpa using hc
        refine xG ?_
        refine xT hC ?_
        refine .one (.c (ler_bool ?_))
        have : xs ≠ ys := fun e => hc' (by rw [e])
        simp [this]
      · have hc' : xs.getD i rd0 = ys.getD i rd0 := by simpa using hc
        refine xG ?_
        refine aw_stop ⟨i + 1, by omega, eB, zZ, by omega, fun j hj => ?_⟩
        by_cases hji : j = i
        · rw [hji]; exact hc'
        · exact hs j (by omega)
    · have hin : i = xs.length := by have := of_decide_eq_false hb; omega
      subst hin
      refine xG ?_
      refine xT hC ?_
      refine .one (.c (ler_bool ?_))
      have : xs = ys := ratL_ext hlen hs
      simp [this]
end Go.Proofs.YtlpejaefobdajaaGreat
