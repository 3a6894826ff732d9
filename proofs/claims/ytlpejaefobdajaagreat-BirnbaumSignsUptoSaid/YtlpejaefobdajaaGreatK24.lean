/- Texts of one proof, laid one behind the other by a program (merge.py): Awk, Bir3, Bir4, Bir5, Shan7, Bir6, Tab10. -/
import Derived.Test.YtlpejaefobdajaaGreatK18
import Derived.Test.YtlpejaefobdajaaGreatK23
import Derived.Test.YtlpejaefobdajaaGreatK19
import Derived.Test.YtlpejaefobdajaaGreatK20
import Derived.Test.YtlpejaefobdajaaGreatK22
set_option linter.unusedSimpArgs false
set_option linter.unusedVariables false
/- faultlineref15: Of, Build; faultlinelaw37: example, awake. -/
namespace Go.AI
section
variable {E : Env} {K : List It} {σ : Sl} {h : Heap}
theorem Sl.set_set (t : Nat) (u v : AV) : ∀ σ : Sl, (σ.set t u).set t v = σ.set t v
  | [] => by simp [Sl.set]
  | (t', x) :: σ => by
    simp only [Sl.set]
    by_cases e : t' = t
    · rw [if_pos e, if_pos e]; simp [Sl.set]
    · rw [if_neg e, if_neg e]; simp only [Sl.set, if_neg e]; rw [Sl.set_set t u v σ]
/-- A block of its own is given up, told otherwise. -/
theorem aw_frzT {t g s off n m : Nat} {ty : TypeId} {f : Nat → CV} (f' : Nat → CV) {σ' : Sl} {h' : Heap} (ht : σ.get t = .c (.osl g s off n)) (hg : h.get g = some (.cells ty m f)) (hm : off + n * s ≤ m) (hn : ¬ E.C.own0 g) (hf : ∀ j, j < n * s → f (off + j) = f' j) (hσ : σ.set t (.c (.row true s n f')) = σ') (hh : h.del g = h')
    (k : aw E K σ' h') : aw E K σ h := by
  refine aw_frz ht hg hm hn rfl hh ?_
  refine aw_conv (t := t) (v := .c (.row true s n f')) (σ' := σ') (fun S w u hr => ?_) ?_ k
  · rw [Sl.get_set, if_pos rfl] at hr
    obtain ⟨A, c, hv, hc, hn⟩ := hr
    refine ⟨A, c, hv, hc, fun h0 => ?_⟩
    obtain ⟨ad, hA, hS, hj⟩ := hn h0
    refine ⟨ad, hA, hS, fun j hjl => ?_⟩
    obtain ⟨u, hu, hru⟩ := hj j hjl
    exact ⟨u, hu, by rw [← hf j hjl]; exact hru⟩
  · rw [← hσ, Sl.set_set]
theorem ler_gsd {pre : Heap} {og : Option Nat} {e n : Nat} {t : Bool} {vs : List DN} (hog : og = none → n = 0) (hn : ∀ g, og = some g → g ∉ pre.keys) (hl : vs.length = n) : LeR (pre ++ gh og e (n * 3) (dnsF vs)) (gs og 3 n) (dns t vs) := by
  subst hl
  exact ler_gs hog hn (lf_ler (by omega) fun x _ k hk => by match k, hk with | 0, _ => exact .int _ _ | 1, _ => exact .int _ _ | 2, _ => exact .int _ _)
end
end Go.AI
namespace Go.Proofs.YtlpejaefobdajaaGreat
open Go.AI Go.PN
attribute [local irreducible] aw Fa Fh DrK
theorem add_ok (o : List Int) (tb : List Bool) (rt : Int) (ho : o.length ≤ 12) (hr : ∀ x ∈ o, 0 ≤ x ∧ x < o.length) (ht : tb.length = 2 ^ o.length) : ∀ k, AddOk o tb rt k
  | 0 => add_zero o tb rt ho hr ht
  | k + 1 => add_succ o tb rt ho hr ht k (add_ok o tb rt ho hr ht k)
set_option maxRecDepth 100000 in
set_option maxHeartbeats 1600000 in
theorem of15_fa (tb : List Bool) (o : List Int) (h0 : 0 < o.length) (ho : o.length ≤ 12) (hr : ∀ x ∈ o, 0 ≤ x ∧ x < o.length) (ht : tb.length = 2 ^ o.length) :
    Fa Tryz.prog 120 [.c (bs false tb), .c (is false o)] (.agg (dgc true ⟨o, (addF o tb o.length 0 0 []).1, (addF o tb o.length 0 0 []).2⟩)) := by
  have h2o : 2 ^ o.length ≤ 4096 := by
    have h3 : 2 ^ o.length ≤ 2 ^ 12 := Nat.pow_le_pow_right (by omega) (by omega)
    have h4 : (2 : Nat) ^ 12 = 4096 := by decide
    omega
  have hpos : 0 < 2 ^ o.length := Nat.pow_pos (by omega)
  refine fa_of_body Tryz.func120 rfl rfl (by simp [Tryz.ntmps120]) fun C hC => ?_
  simp only [initS, Nat.reduceAdd]
  refine xG ?_
  refine xA fun g4 hn_g4=>?_
  refine yG hn_g4 ?_
  refine yA hn_g4 fun g5 hn_g5=>?_
  refine yG (oj hn_g4 hn_g5) ?_
  refine yW (oj hn_g4 hn_g5) ?_
  refine yS (oj hn_g4 hn_g5) ?_
  refine yG (oj hn_g4 hn_g5) ?_
  refine aw_appendN (size := 1) (z := [.int .i64 0]) (cx := is false o) (k := o.length) (f2 := isF o) rfl rfl rfl (zE (oj hn_g4 hn_g5)) (zE (oj hn_g4 hn_g5)) rfl (by omega) (zE (oj hn_g4 hn_g5)) (zE (oj hn_g4 hn_g5)) .row h0 (by unfold maxLen; omega) (by omega) fun go hn_go => ?_
  replace hn_go := Heap.ne_of hn_go
  dsimp only [Heap.ne] at hn_go
  refine yS (oj hn_g4 (oj hn_g5 hn_go)) ?_
  refine aw_frzT (t := 10) (isF o) (zE (oj hn_g4 (oj hn_g5 hn_go))) (zE (oj hn_g4 (oj hn_g5 hn_go))) (by omega) (hC go) (fun j _ => by rw [Nat.zero_add]) rfl (zE (oj hn_g4 (oj hn_g5 hn_go))) ?_
  refine yS (oj hn_g4 (oj hn_g5 hn_go)) ?_
  refine yG (oj hn_g4 (oj hn_g5 hn_go)) ?_
  refine yW (oj hn_g4 (oj hn_g5 hn_go)) ?_
  refine yS (oj hn_g4 (oj hn_g5 hn_go)) ?_
  refine yG (oj hn_g4 (oj hn_g5 hn_go)) ?_
  have hcall := add_ok o tb 0 ho hr ht o.length 0 0 [] none 0 (by omega) hpos rfl (by omega) (fun _ => rfl)
  refine aw_callh (hr := [(g5, AObj.cells 25 3 (ofL [is true o, .nils, .int .i64 0])), (g4, AObj.cells 25 3 (ofL [.nils, .nils, .int .i64 0]))]) hcall rfl rfl rfl (List.Perm.refl _) (zL (oj hn_g4 (oj hn_g5 hn_go))) ?_
  generalize addF o tb o.length 0 0 [] = B at *
  rintro _ _ ⟨og, n, hn, hb, hog, rfl, rfl⟩ hk
  have hg : ∀ g, og = some g → ¬ g = g5 ∧ ¬ g = g4 := fun g e => by
    subst e
    have := hk g (by simp [gh, Heap.keys])
    simpa [Heap.keys] using this
  refine aw_perm (List.perm_append_comm (l₂ := [(g5, AObj.cells 25 3 (ofL [is true o, .nils, .int .i64 0])), (g4, AObj.cells 25 3 (ofL [.nils, .nils, .int .i64 0]))])) ?_
  refine yS (oj hn_g4 (oj hn_g5 hn_go)) ?_
  refine yG (oj hn_g4 (oj hn_g5 hn_go)) ?_
  refine yW (oj hn_g4 (oj hn_g5 hn_go)) ?_
  refine yS (oj hn_g4 (oj hn_g5 hn_go)) ?_
  refine yG (oj hn_g4 (oj hn_g5 hn_go)) ?_
  refine yW (oj hn_g4 (oj hn_g5 hn_go)) ?_
  refine yS (oj hn_g4 (oj hn_g5 hn_go)) ?_
  refine yG (oj hn_g4 (oj hn_g5 hn_go)) ?_
  refine yW (oj hn_g4 (oj hn_g5 hn_go)) ?_
  refine yS (oj hn_g4 (oj hn_g5 hn_go)) ?_
  refine yG (oj hn_g4 (oj hn_g5 hn_go)) ?_
  refine yT hC (oj hn_g4 (oj hn_g5 hn_go)) ?_
  refine .one (.agg ⟨ler_is, ?_, .int _ _, trivial⟩)
  exact ler_gsd (pre := [(g5, _), (g4, _)]) hog (fun g e => by have := hg g e; simp only [Heap.keys, List.map_cons, List.map_nil, List.mem_cons, List.not_mem_nil, or_false]; omega) hn
set_option maxHeartbeats 800000 in
theorem build15_fa (f : FM) (hf : FmOk f) (hv : f.vars ≤ 12) (o : List Int) (h0 : 0 < o.length) (ho : (o.length : Int) = f.vars) (hr : ∀ x ∈ o, 0 ≤ x ∧ x < o.length) :
    Fa Tryz.prog 62 [.agg (fmc false f), .c (is false o)] (.agg (dgc true ⟨o, (addF o (formTo f (2 ^ f.vars.toNat)) o.length 0 0 []).1, (addF o (formTo f (2 ^ f.vars.toNat)) o.length 0 0 []).2⟩)) := by
  have hl : f.vars.toNat = o.length := by omega
  refine fa_of_body Tryz.func62 rfl rfl (by simp [Tryz.ntmps62]) fun C hC => ?_
  simp only [initS, Nat.reduceAdd]
  refine xG ?_
  refine xB fun g2 hn_g2=>?_
  refine yG hn_g2 ?_
  refine yA hn_g2 fun g4 hn_g4=>?_
  refine yG (oj hn_g2 hn_g4) ?_
  refine yC (oj hn_g2 hn_g4) (formula_fa f hf ?_) ?_
  · omega
  refine yG (oj hn_g2 hn_g4) ?_
  refine yC (oj hn_g2 hn_g4) (of15_fa (formTo f (2 ^ f.vars.toNat)) o h0 ?_ hr ?_) ?_
  · omega
  · rw [formTo_len, hl]
  refine yG (oj hn_g2 hn_g4) ?_
  refine yW (oj hn_g2 hn_g4) ?_
  refine yS (oj hn_g2 hn_g4) ?_
  refine yG (oj hn_g2 hn_g4) ?_
  refine yT hC (oj hn_g2 hn_g4) ?_
  exact .one (.agg ⟨ler_is, ler_dns, .int _ _, trivial⟩)
theorem ex_small : Small exD exP := ⟨exP_wf, by decide, by decide, by decide, fun _ => by decide⟩
end Go.Proofs.YtlpejaefobdajaaGreat

/- birnbaum: Joint, Critical, Change. -/
namespace Go.Proofs.YtlpejaefobdajaaGreat
open Go.AI Go.PN
attribute [local irreducible] aw Fa Fh DrK
theorem set_comm' {p : List RD} {i j : Nat} (h : ¬ i = j) (a b : RD) : (p.set i a).set j b = (p.set j b).set i a := List.set_comm _ _ h
theorem joint_comm (d : DG) (p : List RD) (i j : Nat) : jointQ d p i j = jointQ d p j i := by
  unfold jointQ
  by_cases h : i = j
  · rw [if_pos h, if_pos h.symm]
  · rw [if_neg h, if_neg (fun e => h e.symm)]
    unfold impQ prS
    simp only [List.length_set]
    rw [set_comm' h (rd 1) (rd 1), set_comm' h (rd 1) rd0, set_comm' h rd0 (rd 1), set_comm' h rd0 rd0]
    grind
theorem bcode_ok {d : DG} {p : List RD} {es : List Int} (h : bcode d p es = 0) : dpcode d p = 0 ∧ ∀ i ∈ es, 0 ≤ i ∧ i < d.order.length := by
  unfold bcode at h
  split at h
  · rename_i h1; exact absurd h h1
  · rename_i h1
    split at h
    · rename_i h2
      refine ⟨by omega, fun i hi => ?_⟩
      have := List.all_eq_true.1 h2 i hi
      simpa using this
    · cases h
set_option maxRecDepth 100000 in
set_option maxHeartbeats 3200000 in
theorem joint_fa (d : DG) (p : List RD) (hs : Small d p) (i j : Int) :
    Fa Tryz.prog 16 [.agg (dgc false d), .c (rats false p), .c (.int .i64 i), .c (.int .i64 j)] (.tup [.agg (rdc (if bcode d p [i, j] = 0 then rd (jointQ d p i.toNat j.toNat) else rd0)), .c (errA (bcode d p [i, j]))]) := by
  have s1 := hs.l
  have s2 := hs.o
  have s3 := hs.n
  have hb := bcheck_fa d p [i, j] hs.w5 (by omega) (by omega) (by omega) (by simp)
  refine fa_of_body Tryz.func16 rfl rfl (by simp [Tryz.ntmps16]) fun C hC => ?_
  simp only [initS, Nat.reduceAdd]
  refine xG ?_
  refine xB fun g4 hn_g4=>?_
  refine yG hn_g4 ?_
  refine yA hn_g4 fun g8 hn_g8=>?_
  refine yG (oj hn_g4 hn_g8) ?_
  refine aw_buildSlice (xs := [.tmp 17, .tmp 18]) (cells := [.int .i64 i, .int .i64 j]) rfl rfl rfl (zE (oj hn_g4 hn_g8)) (by refine yS (oj hn_g4 hn_g8) ?_; rfl) rfl (by omega) (by omega) (by intro x hx; simp only [List.mem_cons, List.not_mem_nil, or_false] at hx; rcases hx with rfl | rfl <;> exact ⟨rfl, rfl, rfl⟩) rfl fun g19 hn_g19 => ?_
  replace hn_g19 := Heap.ne_of hn_g19
  dsimp only [Heap.ne] at hn_g19
  refine yS (oj hn_g4 (oj hn_g8 hn_g19)) ?_
  refine aw_frzT (t := 19) (isF [i, j]) (zE (oj hn_g4 (oj hn_g8 hn_g19))) (zE (oj hn_g4 (oj hn_g8 hn_g19))) (by omega) (hC g19) (fun q hq => by match q, hq with | 0, _ => rfl | 1, _ => rfl) rfl (zE (oj hn_g4 (oj hn_g8 hn_g19))) ?_
  refine yS (oj hn_g4 (oj hn_g8 hn_g19)) ?_
  refine yG (oj hn_g4 (oj hn_g8 hn_g19)) ?_
  refine yC (oj hn_g4 (oj hn_g8 hn_g19)) (hb) ?_
  refine yG (oj hn_g4 (oj hn_g8 hn_g19)) ?_
  refine aw_split 23 (zE (oj hn_g4 (oj hn_g8 hn_g19))) (fun h1 => ?_) (fun h1 => ?_) <;> refine yS (oj hn_g4 (oj hn_g8 hn_g19)) ?_
  · have h1' : bcode d p [i, j] ≠ 0 := by simpa using h1
    rw [if_neg h1']
    refine yG (oj hn_g4 (oj hn_g8 hn_g19)) ?_
    refine yP (oj hn_g4 (oj hn_g8 hn_g19)) ?_
    refine yG (oj hn_g4 (oj hn_g8 hn_g19)) ?_
    refine yW (oj hn_g4 (oj hn_g8 hn_g19)) ?_
    refine yS (oj hn_g4 (oj hn_g8 hn_g19)) ?_
    refine yG (oj hn_g4 (oj hn_g8 hn_g19)) ?_
    refine yT hC (oj hn_g4 (oj hn_g8 hn_g19)) ?_
    exact .tup ⟨.agg ⟨.bool _, .nils, .nils, trivial⟩, .c ler_err, trivial⟩
  have h1' : bcode d p [i, j] = 0 := by simpa using h1
  obtain ⟨h0, hr⟩ := bcode_ok h1'
  obtain ⟨ok, hpl, _⟩ := dp_ok h0
  have hi := hr i (by simp)
  have hj := hr j (by simp)
  rw [if_pos h1', h1']
  obtain ⟨a, rfl⟩ : ∃ a : Nat, i = a := ⟨i.toNat, by omega⟩
  obtain ⟨b, rfl⟩ : ∃ b : Nat, j = b := ⟨j.toNat, by omega⟩
  rw [Int.toNat_natCast, Int.toNat_natCast, joint_comm]
  unfold jointQ
  refine yG (oj hn_g4 (oj hn_g8 hn_g19)) ?_
  refine yF (oj hn_g4 (oj hn_g8 hn_g19)) (fun h2=>?_) fun h2=>?_
  · have h2' : a = b := by have h : (a : Int) = b := eq_of_beq h2; omega
    rw [if_pos h2'.symm, rd_zero]
    refine yG (oj hn_g4 (oj hn_g8 hn_g19)) ?_
    refine yW (oj hn_g4 (oj hn_g8 hn_g19)) ?_
    refine yS (oj hn_g4 (oj hn_g8 hn_g19)) ?_
    refine yG (oj hn_g4 (oj hn_g8 hn_g19)) ?_
    refine yT hC (oj hn_g4 (oj hn_g8 hn_g19)) ?_
    exact .tup ⟨.agg ⟨.bool _, .nils, .nils, trivial⟩, .c .nilI, trivial⟩
  have h2' : ¬ a = b := by intro h; rw [h] at h2; simp at h2
  rw [if_neg (fun e => h2' e.symm)]
  have e1 := derive_fa d (p.set a (rd 1)) (hs.set h0 rd1_wf) (dp_set h0 rd1_prob) b (by rw [List.length_set]; omega)
  have e0 := derive_fa d (p.set a rd0) (hs.set h0 rd0_wf4) (dp_set h0 rd0_prob) b (by rw [List.length_set]; omega)
  have f1 := imp_fits (hs.set h0 (i := a) rd1_wf) (dp_set h0 rd1_prob) b
  have f0 := imp_fits (hs.set h0 (i := a) rd0_wf4) (dp_set h0 rd0_prob) b
  generalize impQ d (p.set a (rd 1)) b = X1 at *
  generalize impQ d (p.set a rd0) b = X0 at *
  refine yG (oj hn_g4 (oj hn_g8 hn_g19)) ?_
  refine aw_callh (hr := [(g8, .cells 33 3 (ofL [.bool false, .nils, .nils])), (g4, .cells 25 3 (ofL (dgc false d)))]) (clone_fh p (by omega)) rfl rfl rfl (List.Perm.refl _) (zL (oj hn_g4 (oj hn_g8 hn_g19))) ?_
  rintro _ _ ⟨og, hog, rfl, rfl⟩ hk2
  obtain ⟨g, rfl⟩ : ∃ g, og = some g := by
    cases og with
    | none => have := hog rfl; omega
    | some g => exact ⟨g, rfl⟩
  have hg := hk2 g (by simp [Heap.keys, gh])
  replace hg := Heap.ne_of hg
  dsimp only [Heap.ne] at hg
  dsimp only [gs, gh, List.cons_append, List.nil_append]
  refine yS (oj hn_g4 (oj hn_g8 (oj hn_g19 hg))) ?_
  refine yG (oj hn_g4 (oj hn_g8 (oj hn_g19 hg))) ?_
  refine yC (oj hn_g4 (oj hn_g8 (oj hn_g19 hg))) (rof_fa 1 ?_ ?_) ?_
  · omega
  · omega
  refine yG (oj hn_g4 (oj hn_g8 (oj hn_g19 hg))) ?_
  refine yW (oj hn_g4 (oj hn_g8 (oj hn_g19 hg))) ?_
  refine yS (oj hn_g4 (oj hn_g8 (oj hn_g19 hg))) ?_
  rw [ratsF_upd (by omega)]
  refine yG (oj hn_g4 (oj hn_g8 (oj hn_g19 hg))) ?_
  refine aw_callq e1 rfl rfl rfl (by refine yS (oj hn_g4 (oj hn_g8 (oj hn_g19 hg))) ?_; exact ⟨.agg (lel_refl _), .c (le_oslr2 (zE (oj hn_g4 (oj hn_g8 (oj hn_g19 hg)))) (by rw [List.length_set])), .c (.refl _)⟩) ?_
  refine yS (oj hn_g4 (oj hn_g8 (oj hn_g19 hg))) ?_
  refine yG (oj hn_g4 (oj hn_g8 (oj hn_g19 hg))) ?_
  refine yA (oj hn_g4 (oj hn_g8 (oj hn_g19 hg))) fun g12 hn_g12=>?_
  refine yG (oj hn_g4 (oj hn_g8 (oj hn_g19 (oj hg hn_g12)))) ?_
  refine yW (oj hn_g4 (oj hn_g8 (oj hn_g19 (oj hg hn_g12)))) ?_
  refine yS (oj hn_g4 (oj hn_g8 (oj hn_g19 (oj hg hn_g12)))) ?_
  refine yG (oj hn_g4 (oj hn_g8 (oj hn_g19 (oj hg hn_g12)))) ?_
  refine yN (oj hn_g4 (oj hn_g8 (oj hn_g19 (oj hg hn_g12)))) ?_
  refine yG (oj hn_g4 (oj hn_g8 (oj hn_g19 (oj hg hn_g12)))) ?_
  refine aw_conv (t := 49) (v := .agg (rdc rd0)) (by refine yS (oj hn_g4 (oj hn_g8 (oj hn_g19 (oj hg hn_g12)))) ?_; exact zero_agg) rfl ?_
  refine yS (oj hn_g4 (oj hn_g8 (oj hn_g19 (oj hg hn_g12)))) ?_
  refine yG (oj hn_g4 (oj hn_g8 (oj hn_g19 (oj hg hn_g12)))) ?_
  refine yW (oj hn_g4 (oj hn_g8 (oj hn_g19 (oj hg hn_g12)))) ?_
  refine yS (oj hn_g4 (oj hn_g8 (oj hn_g19 (oj hg hn_g12)))) ?_
  rw [ratsF_upd (by rw [List.length_set]; omega), List.set_set]
  refine yG (oj hn_g4 (oj hn_g8 (oj hn_g19 (oj hg hn_g12)))) ?_
  refine aw_callq e0 rfl rfl rfl (by refine yS (oj hn_g4 (oj hn_g8 (oj hn_g19 (oj hg hn_g12)))) ?_; exact ⟨.agg (lel_refl _), .c (le_oslr2 (zE (oj hn_g4 (oj hn_g8 (oj hn_g19 (oj hg hn_g12))))) (by rw [List.length_set])), .c (.refl _)⟩) ?_
  refine yS (oj hn_g4 (oj hn_g8 (oj hn_g19 (oj hg hn_g12)))) ?_
  refine yG (oj hn_g4 (oj hn_g8 (oj hn_g19 (oj hg hn_g12)))) ?_
  refine yA (oj hn_g4 (oj hn_g8 (oj hn_g19 (oj hg hn_g12)))) fun g14 hn_g14=>?_
  refine yG (oj hn_g4 (oj hn_g8 (oj hn_g19 (oj hg (oj hn_g12 hn_g14))))) ?_
  refine yW (oj hn_g4 (oj hn_g8 (oj hn_g19 (oj hg (oj hn_g12 hn_g14))))) ?_
  refine yS (oj hn_g4 (oj hn_g8 (oj hn_g19 (oj hg (oj hn_g12 hn_g14))))) ?_
  refine yG (oj hn_g4 (oj hn_g8 (oj hn_g19 (oj hg (oj hn_g12 hn_g14))))) ?_
  refine yC (oj hn_g4 (oj hn_g8 (oj hn_g19 (oj hg (oj hn_g12 hn_g14))))) (rsub_fa (rd X1) (rd X0) (rd_wf (fits_mono f1 ?_)) (rd_wf (fits_mono f0 ?_))) ?_
  · omega
  · omega
  rw [rd_q, rd_q]
  refine yG (oj hn_g4 (oj hn_g8 (oj hn_g19 (oj hg (oj hn_g12 hn_g14))))) ?_
  refine yW (oj hn_g4 (oj hn_g8 (oj hn_g19 (oj hg (oj hn_g12 hn_g14))))) ?_
  refine yS (oj hn_g4 (oj hn_g8 (oj hn_g19 (oj hg (oj hn_g12 hn_g14))))) ?_
  refine yG (oj hn_g4 (oj hn_g8 (oj hn_g19 (oj hg (oj hn_g12 hn_g14))))) ?_
  refine yT hC (oj hn_g4 (oj hn_g8 (oj hn_g19 (oj hg (oj hn_g12 hn_g14))))) ?_
  exact .tup ⟨.agg lerl_rd, .c .nilI, trivial⟩
end Go.Proofs.YtlpejaefobdajaaGreat

/- birnbaum: Critical, Change. -/
namespace Go.Proofs.YtlpejaefobdajaaGreat
open Go.AI Go.PN
attribute [local irreducible] aw Fa Fh DrK
/-- The error of Critical. -/
def cicode (d : DG) (i : Int) : Int := if dcode d ≠ 0 then dcode d else if 0 ≤ i ∧ i < d.order.length then 0 else 10
theorem crit_cnt (d : DG) {i : Nat} (hi : i < d.order.length) : 2 * cntTo (critB d i) (2 ^ d.order.length) = cntTo (fun s => evalD d.nodes (setB s i false) d.root != evalD d.nodes (setB s i true) d.root) (2 ^ d.order.length) := by
  rw [← cnt_crit hi (fun s => evalD d.nodes s d.root)]
  congr 1
  refine cnt_congr _ fun s _ => ?_
  unfold critB
  cases hb : s.testBit i with
  | true => rfl
  | false =>
    have : setB s i false = s := by unfold setB; rw [if_pos hb]
    rw [this]
set_option maxRecDepth 100000 in
set_option maxHeartbeats 3200000 in
theorem critical_fa (d : DG) (hl1 : d.order.length ≤ 1099511627776) (hl2 : d.nodes.length ≤ 1099511627776) (h6 : dcode d = 0 → d.order.length ≤ 6) (i : Int) :
    Fa Tryz.prog 17 [.agg (dgc false d), .c (.int .i64 i)] (.tup [.c (.int .i64 (if cicode d i = 0 then (cntTo (critB d i.toNat) (2 ^ d.order.length) : Int) else 0)), .c (errA (cicode d i))]) := by
  refine fa_of_body Tryz.func17 rfl rfl (by simp [Tryz.ntmps17]) fun C hC => ?_
  simp only [initS, Nat.reduceAdd]
  refine xG ?_
  refine xB fun g2 hn_g2=>?_
  refine yG hn_g2 ?_
  refine yC hn_g2 (dcheck_fa d hl1 hl2) ?_
  refine yG hn_g2 ?_
  refine yF hn_g2 (fun hb=>?_) fun hb=>?_
  · have hb' : dcode d ≠ 0 := by simpa using hb
    have e : cicode d i = dcode d := by unfold cicode; rw [if_pos hb']
    rw [e, if_neg hb']
    refine yG hn_g2 ?_
    refine yT hC hn_g2 ?_
    exact .tup ⟨.c (.int _ _), .c ler_err, trivial⟩
  have hb' : dcode d = 0 := by simpa using hb
  have ok := dg_ok hb'
  have ho := h6 hb'
  have hcode : cicode d i = if 0 ≤ i ∧ i < d.order.length then 0 else 10 := by unfold cicode; rw [if_neg (by simpa using hb')]
  rw [hcode]
  refine yG hn_g2 ?_
  refine aw_split 16 (zE hn_g2) (fun h1 => ?_) (fun h1 => ?_) <;> refine yS hn_g2 ?_
  · have h1' := of_decide_eq_true h1
    rw [if_neg (show ¬ (0 ≤ i ∧ i < (d.order.length : Int)) from fun h => by omega)]
    refine yG hn_g2 ?_
    refine yP hn_g2 ?_
    refine yG hn_g2 ?_
    refine yT hC hn_g2 ?_
    exact .tup ⟨.c (.int _ _), .c (ler_errN rfl (by decide)), trivial⟩
  have h1' := of_decide_eq_false h1
  refine yG hn_g2 ?_
  refine yF hn_g2 (fun h2=>?_) fun h2=>?_
  · have h2' := of_decide_eq_true h2
    rw [if_neg (show ¬ (0 ≤ i ∧ i < (d.order.length : Int)) from fun h => by omega)]
    refine yG hn_g2 ?_
    refine yT hC hn_g2 ?_
    exact .tup ⟨.c (.int _ _), .c (ler_errN rfl (by decide)), trivial⟩
  have h2' := of_decide_eq_false h2
  rw [if_pos (show 0 ≤ i ∧ i < (d.order.length : Int) from by omega), if_pos rfl]
  obtain ⟨a, rfl⟩ : ∃ a : Nat, i = a := ⟨i.toNat, by omega⟩
  rw [Int.toNat_natCast]
  have ha : a < d.order.length := by omega
  have k1 := ok.n4096
  have hcc := crit_cnt d ha
  have hod : OdOk d.order (placesL d.order) := ⟨ok.perm, pl_ok ok.perm, ok.o24⟩
  have hB : 2 ^ (d.order.length + 1) ≤ 128 := Nat.le_trans (Nat.pow_le_pow_right (by omega) (show d.order.length + 1 ≤ 7 by omega)) (by decide)
  have hB0 : 2 ^ d.order.length ≤ 64 := Nat.le_trans (Nat.pow_le_pow_right (by omega) (show d.order.length ≤ 6 by omega)) (by decide)
  have hBB := Nat.mul_le_mul hB0 hB
  refine yG hn_g2 ?_
  refine aw_callh (hc := []) (hr := [(g2, .cells 25 3 (ofL (dgc false d)))]) (new_fh d.order ok.perm ok.o24) rfl rfl rfl (.refl _) (zL hn_g2) ?_
  rintro _ _ ⟨gT, gU, gM, rfl, rfl⟩ hfr
  have hg2 := (ndP_of (l := [g2]) (by simp)).1
  refine yS hn_g2 ?_
  refine aw_perm List.perm_append_comm ?_
  refine yS hn_g2 ?_
  refine aw_nd fun hnd => ?_
  refine yG hn_g2 ?_
  refine aw_perm (h' := THp gT gU gM none d.order (placesL d.order) [] [] ++ [(g2, .cells 25 3 (ofL (dgc false d)))]) (List.perm_append_comm (l₁ := [(g2, _)])) ?_
  have ts0 : TS d.order none [] [] := ⟨fun _ => rfl, fun i hi => absurd hi (Nat.not_lt_zero _), fun e he => absurd he List.not_mem_nil⟩
  refine aw_callh (import_fh gT gU gM d ok ts0 (by simp only [List.length_nil]; omega)) rfl rfl rfl (.refl _) (zL hn_g2) ?_
  rintro _ _ ⟨og1, ns1, mm1, r1, s1, l1, q1, f1, rfl, rfl⟩ _
  have n1 := l1.len
  simp only [List.length_nil, Nat.zero_add] at n1
  refine yS hn_g2 ?_
  refine yG hn_g2 ?_
  refine aw_callh (restrict_fh gT gU gM hod ha s1 (by omega) q1 false) rfl rfl rfl (.refl _) (zL hn_g2) ?_
  rintro _ _ ⟨og2, ns2, mm2, r2, s2, l2, q2, f2, rfl, rfl⟩ _
  have n2 := l2.len
  refine yS hn_g2 ?_
  refine yG hn_g2 ?_
  refine aw_callh (restrict_fh gT gU gM hod ha s2 (by omega) (l2.ref q1) true) rfl rfl rfl (.refl _) (zL hn_g2) ?_
  rintro _ _ ⟨og3, ns3, mm3, r3, s3, l3, q3, f3, rfl, rfl⟩ _
  have n3 := l3.len
  refine yS hn_g2 ?_
  refine yG hn_g2 ?_
  refine aw_callh (txor_fh gT gU gM hod s3 (by omega) (l3.ref q2) q3) rfl rfl rfl (.refl _) (zL hn_g2) ?_
  rintro _ _ ⟨og4, ns4, mm4, r4, s4, l4, q4, f4, rfl, rfl⟩ _
  have n4 := l4.len
  refine yS hn_g2 ?_
  refine yG hn_g2 ?_
  refine aw_callh (count_fh gT gU gM hod s4 (by omega) q4) rfl rfl rfl (.refl _) (zL hn_g2) ?_
  rintro _ _ ⟨rfl, rfl⟩ _
  have hcnt : cntR d.order ns4 r4 = 2 * cntTo (critB d a) (2 ^ d.order.length) := by
    rw [hcc]
    unfold cntR
    refine cnt_congr _ fun s _ => ?_
    rw [f4]
    dsimp only
    rw [l3.eval s2.tab q2, f2, f3]
    dsimp only
    rw [l2.eval s1.tab q1, f1, f1]
  have hle := cntR_le (ns := ns4) (r := r4) ok.o24
  rw [hcnt] at hle ⊢
  have hq : quoZ .i64 ((2 * cntTo (critB d a) (2 ^ d.order.length) : Nat) : Int) 2 = (cntTo (critB d a) (2 ^ d.order.length) : Int) := by rw [quo_two _ (by omega) (by omega)]; omega
  refine yS (oj hn_g2 hq) ?_
  refine yG (oj hn_g2 hq) ?_
  refine yT hC (oj hn_g2 hq) ?_
  exact .tup ⟨.c (.int _ _), .c .nilI, trivial⟩
end Go.Proofs.YtlpejaefobdajaaGreat

/- faultlinelaw42: zero, part, large, valid. -/
namespace Go.Proofs.YtlpejaefobdajaaGreat
open Go.AI Go.PN
attribute [local irreducible] aw Fa Fh DrK
abbrev validB2 (d : DG) (p : List RD) : Bool := !largeB d p && (dpcode d p == 0)
set_option maxHeartbeats 800000 in
theorem part42_fa (n d : Int) (h0 : -9223372036854775808 ≤ n) (h1 : n ≤ 9223372036854775807) (h2 : -9223372036854775808 ≤ d) (h3 : d ≤ 9223372036854775807) (hd : d ≠ 0) :
    Fa Tryz.prog 26 [.c (.int .i64 n), .c (.int .i64 d)] (.agg (rdc (rd ((n : Rat) / (d : Rat))))) := by
  refine fa_of_body Tryz.func26 rfl rfl (by simp [Tryz.ntmps26]) fun C hC => ?_
  simp only [initS, Nat.reduceAdd]
  refine xG ?_
  refine xA fun g4 hn_g4=>?_
  refine yG hn_g4 ?_
  refine yC hn_g4 (smake_fa n d h0 h1 h2 h3 hd) ?_
  refine yG hn_g4 ?_
  refine yA hn_g4 fun g5 hn_g5=>?_
  refine yG (oj hn_g4 hn_g5) ?_
  refine yW (oj hn_g4 hn_g5) ?_
  refine yS (oj hn_g4 hn_g5) ?_
  refine yG (oj hn_g4 hn_g5) ?_
  refine yW (oj hn_g4 hn_g5) ?_
  refine yS (oj hn_g4 hn_g5) ?_
  refine yG (oj hn_g4 hn_g5) ?_
  refine yT hC (oj hn_g4 hn_g5) ?_
  exact ler_rd rfl
set_option maxRecDepth 100000 in
set_option maxHeartbeats 1600000 in
theorem large42_fa (d : DG) (p : List RD) (hl : p.length ≤ 1099511627776) (hl1 : d.order.length ≤ 1099511627776) (hl2 : d.nodes.length ≤ 1099511627776) : Fa Tryz.prog 15 [.agg (dgc false d), .c (rats false p)] (.c (.bool (largeB d p))) := by
  have hA : largeA d p = true → largeB d p = true := fun h => by unfold largeB; rw [h]; rfl
  refine fa_of_body Tryz.func15 rfl rfl (by simp [Tryz.ntmps15]) fun C hC => ?_
  simp only [initS, Nat.reduceAdd]
  apply aw_seq
  apply aw_region
  refine xB fun g2 hn_g2=>?_
  refine yH hn_g2 ?_
  apply aw_seq
  refine aw_cut (fun _ : Unit => [(1, .c (rats false p))]) (fun _ => []) (fun _ => largeA d p = false) ?_ ?_
  · refine yG hn_g2 ?_
    refine aw_split 9 (zE hn_g2) (fun a1 => ?_) (fun a1 => ?_) <;> refine yS hn_g2 ?_
    · rw [hA (by unfold largeA; rw [a1]; rfl)]
      iterate 10 refine yO hn_g2 ?_
      refine aw_skipU (zE hn_g2) rfl ?_
      refine yS hn_g2 ?_
      iterate 4 (refine aw_skipN rfl rfl (zE hn_g2) rfl ?_; refine yS hn_g2 ?_)
      refine yO hn_g2 ?_
      refine yO hn_g2 ?_
      refine yO hn_g2 ?_
      iterate 4 refine yO hn_g2 ?_
      refine aw_skipU (zE hn_g2) rfl ?_
      refine yS hn_g2 ?_
      iterate 3 (refine aw_skipN rfl rfl (zE hn_g2) rfl ?_; refine yS hn_g2 ?_)
      refine yG hn_g2 ?_
      refine yP hn_g2 ?_
      refine yG hn_g2 ?_
      refine yT hC hn_g2 ?_
      exact .one (.c (.bool _))
    refine yG hn_g2 ?_
    refine aw_split 15 (zE hn_g2) (fun a2 => ?_) (fun a2 => ?_) <;> refine yS hn_g2 ?_
    · rw [hA (by unfold largeA; rw [a1, a2]; rfl)]
      iterate 4 refine yO hn_g2 ?_
      refine aw_skipU (zE hn_g2) rfl ?_
      refine yS hn_g2 ?_
      iterate 4 (refine aw_skipN rfl rfl (zE hn_g2) rfl ?_; refine yS hn_g2 ?_)
      refine yO hn_g2 ?_
      refine yO hn_g2 ?_
      refine yO hn_g2 ?_
      iterate 4 refine yO hn_g2 ?_
      refine aw_skipU (zE hn_g2) rfl ?_
      refine yS hn_g2 ?_
      iterate 3 (refine aw_skipN rfl rfl (zE hn_g2) rfl ?_; refine yS hn_g2 ?_)
      refine yG hn_g2 ?_
      refine yP hn_g2 ?_
      refine yG hn_g2 ?_
      refine yT hC hn_g2 ?_
      exact .one (.c (.bool _))
    refine yG hn_g2 ?_
    refine aw_split 20 (zE hn_g2) (fun a3 => ?_) (fun a3 => ?_) <;> refine yS hn_g2 ?_
    · refine yG hn_g2 ?_
      refine aw_split 27 (zE hn_g2) (fun a4 => ?_) (fun a4 => ?_) <;> refine yS hn_g2 ?_
      · rw [hA (by unfold largeA; rw [a1, a2, a3, a4]; rfl)]
        iterate 4 refine yO hn_g2 ?_
        refine aw_skipU (zE hn_g2) rfl ?_
        refine yS hn_g2 ?_
        iterate 3 (refine aw_skipN rfl rfl (zE hn_g2) rfl ?_; refine yS hn_g2 ?_)
        refine yG hn_g2 ?_
        refine yP hn_g2 ?_
        refine yG hn_g2 ?_
        refine yT hC hn_g2 ?_
        exact .one (.c (.bool _))
      refine yG hn_g2 ?_
      refine aw_split 32 (zE hn_g2) (fun a5 => ?_) (fun a5 => ?_) <;> refine yS hn_g2 ?_
      · refine yG hn_g2 ?_
        refine yC hn_g2 (dcheckR_fa d hl1 hl2) ?_
        refine yG hn_g2 ?_
        refine yF hn_g2 (fun a6=>?_) fun a6=>?_
        · rw [hA (by unfold largeA; rw [a1, a2, a3, a4, a5, a6]; rfl)]
          refine yG hn_g2 ?_
          refine yT hC hn_g2 ?_
          exact .one (.c (.bool _))
        · refine yG hn_g2 ?_
          exact aw_stop ⟨(), (zB hn_g2), List.nil_sublist _, by unfold largeA; rw [a1, a2, a3, a4, a5, a6]; rfl⟩
      · refine yG hn_g2 ?_
        refine yN hn_g2 ?_
        refine yG hn_g2 ?_
        exact aw_stop ⟨(), (zB hn_g2), List.nil_sublist _, by unfold largeA; rw [a1, a2, a3, a4, a5]; rfl⟩
    refine yG hn_g2 ?_
    refine aw_split 32 (zE hn_g2) (fun a5 => ?_) (fun a5 => ?_) <;> refine yS hn_g2 ?_
    · refine yG hn_g2 ?_
      refine yC hn_g2 (dcheckR_fa d hl1 hl2) ?_
      refine yG hn_g2 ?_
      refine yF hn_g2 (fun a6=>?_) fun a6=>?_
      · rw [hA (by unfold largeA; rw [a1, a2, a3, a5, a6]; rfl)]
        refine yG hn_g2 ?_
        refine yT hC hn_g2 ?_
        exact .one (.c (.bool _))
      · refine yG hn_g2 ?_
        exact aw_stop ⟨(), (zB hn_g2), List.nil_sublist _, by unfold largeA; rw [a1, a2, a3, a5, a6]; rfl⟩
    · refine yG hn_g2 ?_
      refine yN hn_g2 ?_
      refine yG hn_g2 ?_
      exact aw_stop ⟨(), (zB hn_g2), List.nil_sublist _, by unfold largeA; rw [a1, a2, a3, a5]; rfl⟩
  rintro _ hLA
  have hB : largeB d p = p.any bigR := by unfold largeB; rw [hLA]; rfl
  rw [hB]
  refine yG hn_g2 ?_
  refine aw_lp (fun x : Nat => [(1, .c (rats false p)), (5, .c (.int .i64 x))]) (fun x => []) (fun x => x ≤ p.length ∧ ∀ j, j < x → bigR (p.getD j rd0) = false) (fun x => p.length - x) 0 (zB hn_g2) zZ ⟨Nat.zero_le _, by omega⟩ ?_
  rintro i ⟨hi, hs⟩
  refine yG hn_g2 ?_
  refine yF hn_g2 (fun h1=>?_) fun h1=>?_
  · have h1' : i < p.length := by have := of_decide_eq_true h1; omega
    have hmem : p.getD i rd0 ∈ p := by rw [List.getD_eq_getElem?_getD, List.getElem?_eq_getElem h1']; exact List.getElem_mem h1'
    refine yG hn_g2 ?_
    refine aw_split 51 (zE hn_g2) (fun h2 => ?_) (fun h2 => ?_) <;> refine yS hn_g2 ?_
    · rw [List.any_eq_true.2 ⟨_, hmem, by unfold bigR; rw [h2]; rfl⟩]
      refine yG hn_g2 ?_
      refine yP hn_g2 ?_
      refine yG hn_g2 ?_
      refine yT hC hn_g2 ?_
      exact .one (.c (.bool _))
    · refine yG hn_g2 ?_
      refine yF hn_g2 (fun h3=>?_) fun h3=>?_
      · rw [List.any_eq_true.2 ⟨_, hmem, by unfold bigR; rw [h2, h3]; rfl⟩]
        refine yG hn_g2 ?_
        refine yT hC hn_g2 ?_
        exact .one (.c (.bool _))
      · refine yG hn_g2 ?_
        refine aw_stop ⟨i + 1, by omega, (zB hn_g2), zZ, by omega, fun j hj => ?_⟩
        rcases Nat.lt_succ_iff_lt_or_eq.1 hj with h | h
        · exact hs j h
        · rw [h]; unfold bigR; rw [h2, h3]; rfl
  · have h1' : i = p.length := by have := of_decide_eq_false h1; omega
    subst h1'
    refine yG hn_g2 ?_
    refine yT hC hn_g2 ?_
    refine .one (.c (ler_bool ?_))
    cases ha : p.any bigR with
    | false => rfl
    | true =>
      obtain ⟨x, hx, hxb⟩ := List.any_eq_true.1 ha
      obtain ⟨j, hj, e⟩ := List.mem_iff_getElem.1 hx
      have := hs j hj
      rw [List.getD_eq_getElem?_getD, List.getElem?_eq_getElem hj, Option.getD_some, e, hxb] at this
      cases this
set_option maxHeartbeats 800000 in
theorem valid42_fa (d : DG) (p : List RD) (hw : WordsOk p) (hl : p.length ≤ 1099511627776) (hl1 : d.order.length ≤ 1099511627776) (hl2 : d.nodes.length ≤ 1099511627776) : Fa Tryz.prog 25 [.agg (dgc false d), .c (rats false p)] (.c (.bool (validB2 d p))) := by
  refine fa_of_body Tryz.func25 rfl rfl (by simp [Tryz.ntmps25]) fun C hC => ?_
  simp only [initS, Nat.reduceAdd]
  refine xG ?_
  refine xB fun g2 hn_g2=>?_
  refine yG hn_g2 ?_
  refine yC hn_g2 (large42_fa d p hl hl1 hl2) ?_
  refine yG hn_g2 ?_
  refine aw_split 9 (zE hn_g2) (fun hb => ?_) (fun hb => ?_) <;> refine yS hn_g2 ?_
  · have hb' : largeB d p = false := by simpa using hb
    have hs := small_of hw hl2 hb'
    have s1 := hs.l
    have s2 := hs.o
    refine yG hn_g2 ?_
    refine yC hn_g2 (checkDiagram_fa d p hs.w5 ?_ ?_ ?_) ?_
    · omega
    · omega
    · omega
    refine yG hn_g2 ?_
    refine yT hC hn_g2 ?_
    exact .one (.c (ler_bool (by unfold validB2; rw [hb']; rfl)))
  · have hb' : largeB d p = true := by simpa using hb
    refine yG hn_g2 ?_
    refine yT hC hn_g2 ?_
    exact .one (.c (ler_bool (by unfold validB2; rw [hb']; rfl)))
end Go.Proofs.YtlpejaefobdajaaGreat

/- faultlinebase.Rats; Accepts of shannon and of the reference. -/
namespace Go.PN
open Go.AI
theorem getRD {xs : List RD} {i : Nat} (h : i < xs.length) : xs.getD i rd0 = xs[i] := by
  rw [List.getD_eq_getElem?_getD, List.getElem?_eq_getElem h]; rfl
theorem ratL_ext {xs ys : List RD} (hl : xs.length = ys.length) (h : ∀ j, j < xs.length → xs.getD j rd0 = ys.getD j rd0) : xs = ys := by
  refine List.ext_getElem hl fun j h1 h2 => ?_
  have := h j h1
  rw [getRD h1, getRD h2] at this
  exact this
end Go.PN
namespace Go.Proofs.YtlpejaefobdajaaGreat
open Go.AI Go.PN
attribute [local irreducible] aw Fa Fh DrK
set_option maxHeartbeats 1600000 in
theorem rats_fa (xs ys : List RD) (hw : ∀ x ∈ xs, x.wf 68719476736) (hl : xs.length ≤ 1099511627776) : Fa Tryz.prog 43 [.c (rats false xs), .c (rats false ys)] (.c (.bool (decide (xs = ys)))) := by
  refine fa_of_body Tryz.func43 rfl rfl (by simp [Tryz.ntmps43]) fun C hC => ?_
  simp only [initS, Nat.reduceAdd]
  refine xG ?_
  refine xF (fun hb=>?_) fun hb=>?_
  · refine xG ?_
    refine xT hC ?_
    refine .one (.c (ler_bool ?_))
    have : xs ≠ ys := fun e => by rw [e] at hb; simp at hb
    simp [this]
  · have hlen : xs.length = ys.length := by
      have : ((xs.length : Int) == (ys.length : Int)) = true := by simpa [bne] using hb
      have := eq_of_beq this; omega
    refine xG ?_
    refine aw_lp (fun i : Nat => [(0, .c (rats false xs)), (1, .c (rats false ys)), (12, .c (.int .i64 xs.length)), (13, .c (.int .i64 i))]) (fun _ => []) (fun i => i ≤ xs.length ∧ ∀ j, j < i → xs.getD j rd0 = ys.getD j rd0) (fun i => xs.length - i) 0 eB zZ ⟨Nat.zero_le _, fun j hj => by omega⟩ ?_
    rintro i ⟨hi, hs⟩
    refine xG ?_
    refine xF (fun hb=>?_) fun hb=>?_
    · have hin : i < xs.length := by have := of_decide_eq_true hb; omega
      refine xG ?_
      refine aw_dr 10 ty_mixed (by kernel_rfl) ?_
      refine xG ?_
      refine xD (ratEq_fa (xs.getD i rd0) (ys.getD i rd0) ?_) ?_
      · rw [getRD hin]; exact hw _ (List.getElem_mem hin)
      refine xG ?_
      refine xF (fun hc=>?_) fun hc=>?_
      · have hc' : xs.getD i rd0 ≠ ys.getD i rd0 := by simpa using hc
        refine xG ?_
        refine xT hC ?_
        refine .one (.c (ler_bool ?_))
        have : xs ≠ ys := fun e => hc' (by rw [e])
        simp [this]
      · have hc' : xs.getD i rd0 = ys.getD i rd0 := by simpa using hc
        refine xG ?_
        refine aw_stop ⟨i + 1, by omega, eB, zZ, by omega, fun j hj => ?_⟩
        by_cases hji : j = i
        · rw [hji]; exact hc'
        · exact hs j (by omega)
    · have hin : i = xs.length := by have := of_decide_eq_false hb; omega
      subst hin
      refine xG ?_
      refine xT hC ?_
      refine .one (.c (ler_bool ?_))
      have : xs = ys := ratL_ext hlen hs
      simp [this]
end Go.Proofs.YtlpejaefobdajaaGreat

/- faultlinelaw42.awake. -/
namespace Go.AI
section
variable {E : Env} {K : List It} {l : List Oper} {FP FP' : Heap} {σ σ' : Sl} {h : Heap} {o : Oper} {i m : Nat} {cs : List (Nat × Nat)}
/-- A slice literal, at its place. -/
theorem cw_buildSlice {t e size bytes len : Nat} {xs : List Operand} {cells : List CV} (ho : l[i]? = some o) (hop : o.op = .buildSlice t len (enumO 0 xs).toArray) (hw : wantA l σ o = some true) (hd : dstOk E.N o.dst = true) (ht : tElem E.P t = some (e, size, bytes))
    (hz : (tZero E.P e).isSome = true) (hl : xs.length = len) (hsm : len * size ≤ 16777216) (hlm : len ≤ 16777216) (hx : ∀ x ∈ xs, (ev σ x).flat = true ∧ (ev σ x).cells.all CV.solid = true ∧ (ev σ x).cells.length = size) (hc : (xs.map (ev σ)).flatMap AV.cells = cells) (hops : ∀ x ∈ xs, x ∈ o.op.operands) (hFP : Has0 FP' h)
    (k : ∀ g, g ∉ h.keys → CW E l K FP' cs (σ.setO o.dst (.c (.osl g size 0 len))) ((g, .cells e (len * size) (ofL cells)) :: h)) (hm : m = 2 ∨ m = 1 ∧ FP' = FP := by first | exact .inl rfl | exact .inr ⟨rfl, rfl⟩) : CW E l K FP ((i, m) :: cs) σ h := by
  refine .pin ho hm (R := fun r h2 => ∃ g, g ∉ h.keys ∧ r = .c (.osl g size 0 len) ∧ h2 = (g, .cells e (len * size) (ofL cells)) :: h) (fun σ' K hs => ?_) ?_ ?_
  · have he : ∀ x ∈ xs, ev σ' x = ev σ x := fun x hxx => ev_same (hops x hxx) hs
    exact aw_buildSlice hop ((want_same hs).trans hw) hd ht hz hl hsm hlm (fun x hxx => by rw [he x hxx]; exact hx x hxx) (by rw [List.map_congr_left he]; exact hc) fun g hg => aw_ops_nil (aw_stop ⟨_, ⟨g, hg, rfl, rfl⟩, rfl⟩)
  · rintro r h2 ⟨g, _, _, rfl⟩; exact fun p hp => List.mem_cons_of_mem _ (hFP p hp)
  · rintro r h2 ⟨g, hg, rfl, rfl⟩; exact k g hg
/-- A call of a function that only looks, at its place. -/
theorem cw_callqP {f : FuncId} {xs : List Operand} {ts : Array TypeId} {args : List AV} {r : AV} (ho : l[i]? = some o) (hf : Fa E.P f args r) (hop : o.op = .call { callee := .value (.func f), args := xs.toArray, argTypes := ts }) (hw : wantA l σ o = some true) (hd : dstOk E.N o.dst = true)
    (le : LeA h (xs.map (ev σ)) args) (hFP : Has0 FP' h) (k : CW E l K FP' cs (σ.setO o.dst r) h) (hm : m = 2 ∨ m = 1 ∧ FP' = FP := by first | exact .inl rfl | exact .inr ⟨rfl, rfl⟩) : CW E l K FP ((i, m) :: cs) σ h := by
  refine .pin ho hm (R := fun x h2 => x = r ∧ h2 = h) (fun σ' K hs => ?_) ?_ ?_
  · have he : xs.map (ev σ') = xs.map (ev σ) := evs_same (fun x hx => by rw [hop]; simp [Op.operands, Call.operands, hx]) hs
    exact aw_callq hf hop ((want_same hs).trans hw) hd (by rw [he]; exact le) (aw_ops_nil (aw_stop ⟨r, ⟨rfl, rfl⟩, rfl⟩))
  · rintro _ _ ⟨_, rfl⟩; exact hFP
  · rintro _ _ ⟨rfl, rfl⟩; exact k
end
end Go.AI
namespace Go.Proofs.YtlpejaefobdajaaGreat
open Go.AI Go.PN
attribute [local irreducible] aw Fa Fh DrK
theorem imp_ex (i : Nat) : impQ exD exP i = smQ (exQ3.set i 1) (tabL exD) 8 - smQ (exQ3.set i 0) (tabL exD) 8 := by
  unfold impQ prS
  rw [rd0_rd, show exP = exQ3.map rd from rfl, ← List.map_set, ← List.map_set, sumQ_rd, sumQ_rd]
  simp
theorem imp_exL : impL exD exP 3 = [rd (5 / 12), rd (1 / 2), rd (1 / 2)] := by
  have e0 : impQ exD exP 0 = 5 / 12 := by rw [imp_ex]; decide +kernel
  have e1 : impQ exD exP 1 = 1 / 2 := by rw [imp_ex]; decide +kernel
  have e2 : impQ exD exP 2 = 1 / 2 := by rw [imp_ex]; decide +kernel
  show [rd (impQ exD exP 0), rd (impQ exD exP 1), rd (impQ exD exP 2)] = _
  rw [e0, e1, e2]
theorem imp_ex2 (i j : Nat) (a : Rat) : impQ exD (exP.set j (rd a)) i = smQ ((exQ3.set j a).set i 1) (tabL exD) 8 - smQ ((exQ3.set j a).set i 0) (tabL exD) 8 := by
  unfold impQ prS
  rw [rd0_rd, show exP = exQ3.map rd from rfl, ← List.map_set, ← List.map_set, ← List.map_set, sumQ_rd, sumQ_rd]
  simp
theorem joint_ex : jointQ exD exP 0 1 = 1 / 2 := by
  unfold jointQ
  rw [if_neg (by omega), show rd0 = rd 0 from rd0_rd, imp_ex2, imp_ex2]
  decide +kernel
theorem crit_ex : cntTo (critB exD 1) 8 = 2 := by decide +kernel
theorem imp_exw : ∀ x ∈ impL exD exP 3, x.wf 68719476736 := by
  rw [imp_exL]
  intro r hr
  simp only [List.mem_cons, List.not_mem_nil, or_false] at hr
  rcases hr with rfl | rfl | rfl <;> exact rd_wf (fits_mono (L := 1) ⟨by decide +kernel, by decide +kernel⟩ (by omega))
set_option maxRecDepth 100000 in
set_option maxHeartbeats 3200000 in
theorem awake42_of (D : DG) (P : List RD) (hbd : Fa Tryz.prog 62 [.agg (fmc false exF), .c (is false [0, 1, 2])] (.agg (dgc true D))) (hP : P = exP) (hb : Fa Tryz.prog 27 [.agg (dgc false D), .c (rats false P)] (.tup [.c (rats true [rd (5 / 12), rd (1 / 2), rd (1 / 2)]), .c .nilI])) (hc : Fa Tryz.prog 17 [.agg (dgc false D), .c (.int .i64 1)] (.tup [.c (.int .i64 2), .c .nilI])) (hj : Fa Tryz.prog 16 [.agg (dgc false D), .c (rats false P), .c (.int .i64 0), .c (.int .i64 1)] (.tup [.agg (rdc (rd (1 / 2))), .c .nilI])) :
    Fa Tryz.prog 14 [] (.c (.bool true)) := by
  refine fa_of_body Tryz.func14 rfl rfl (by simp [Tryz.ntmps14]) fun C hC => ?_
  simp only [initS, Nat.reduceAdd]
  refine xG ?_
  refine aw_buildSlice (xs := [.const (.int .i64 0), .const (.int .i64 1), .const (.int .i64 2)]) (cells := [.int .i64 0, .int .i64 1, .int .i64 2]) rfl rfl rfl eE (by refine xS ?_; rfl) rfl (by omega) (by omega) (by intro x hx; simp only [List.mem_cons, List.not_mem_nil, or_false] at hx; rcases hx with rfl | rfl | rfl <;> exact ⟨rfl, rfl, rfl⟩) rfl fun g3 hn_g3 => ?_
  refine xS ?_
  refine aw_frzT (t := 10) (isF [0, 1, 2]) eE eE (by omega) (hC g3) (fun j hj => by match j, hj with | 0, _ => rfl | 1, _ => rfl | 2, _ => rfl) rfl eE ?_
  refine xS ?_
  refine xG ?_
  refine aw_buildSlice (xs := [.tmp 11]) (cells := [.int .i64 4, .int .i64 2, is true [0, 1, 2]]) rfl rfl rfl eE (by refine xS ?_; rfl) rfl (by omega) (by omega) (by intro x hx; simp only [List.mem_singleton] at hx; subst hx; exact ⟨rfl, rfl, rfl⟩) rfl fun g5 hn_g5 => ?_
  refine xS ?_
  refine aw_frzT (t := 12) (fnsF exF.nodes) eE eE (by omega) (hC g5) (fun j hj => by match j, hj with | 0, _ => rfl | 1, _ => rfl | 2, _ => rfl) rfl eE ?_
  refine xS ?_
  refine xG ?_
  refine xA fun g1 hn_g1=>?_
  refine yG hn_g1 ?_
  refine yW hn_g1 ?_
  refine yS hn_g1 ?_
  refine yG hn_g1 ?_
  refine aw_buildSlice (xs := [.const (.int .i64 0), .const (.int .i64 1), .const (.int .i64 2)]) (cells := [.int .i64 0, .int .i64 1, .int .i64 2]) rfl rfl rfl (zE hn_g1) (by refine yS hn_g1 ?_; rfl) rfl (by omega) (by omega) (by intro x hx; simp only [List.mem_cons, List.not_mem_nil, or_false] at hx; rcases hx with rfl | rfl | rfl <;> exact ⟨rfl, rfl, rfl⟩) rfl fun g8 hn_g8 => ?_
  replace hn_g8 := Heap.ne_of hn_g8
  dsimp only [Heap.ne] at hn_g8
  refine yS (oj hn_g1 hn_g8) ?_
  refine aw_frzT (t := 15) (isF [0, 1, 2]) (zE (oj hn_g1 hn_g8)) (zE (oj hn_g1 hn_g8)) (by omega) (hC g8) (fun j hj => by match j, hj with | 0, _ => rfl | 1, _ => rfl | 2, _ => rfl) rfl (zE (oj hn_g1 hn_g8)) ?_
  refine yS (oj hn_g1 hn_g8) ?_
  refine yG (oj hn_g1 hn_g8) ?_
  refine aw_callq hbd rfl rfl rfl (by refine yS (oj hn_g1 hn_g8) ?_; exact ⟨.agg ⟨.refl _, le_any_row (by simp), .refl _, trivial⟩, .c (le_any_row (by simp))⟩) ?_
  refine yS (oj hn_g1 hn_g8) ?_
  refine yG (oj hn_g1 hn_g8) ?_
  refine yC (oj hn_g1 hn_g8) (part42_fa 1 2 ?_ ?_ ?_ ?_ ?_) ?_
  · omega
  · omega
  · omega
  · omega
  · omega
  refine yG (oj hn_g1 hn_g8) ?_
  refine yC (oj hn_g1 hn_g8) (part42_fa 1 3 ?_ ?_ ?_ ?_ ?_) ?_
  · omega
  · omega
  · omega
  · omega
  · omega
  refine yG (oj hn_g1 hn_g8) ?_
  refine yC (oj hn_g1 hn_g8) (part42_fa 1 4 ?_ ?_ ?_ ?_ ?_) ?_
  · omega
  · omega
  · omega
  · omega
  · omega
  refine yG (oj hn_g1 hn_g8) ?_
  refine aw_buildSlice (xs := [.tmp 17, .tmp 18, .tmp 19]) (cells := rdc (rd (1 / 2)) ++ (rdc (rd (1 / 3)) ++ rdc (rd (1 / 4)))) rfl rfl rfl (zE (oj hn_g1 hn_g8)) (by refine yS (oj hn_g1 hn_g8) ?_; rfl) rfl (by omega) (by omega) (by intro x hx; simp only [List.mem_cons, List.not_mem_nil, or_false] at hx; rcases hx with rfl | rfl | rfl <;> exact ⟨rfl, rfl, rfl⟩) rfl fun g13 hn_g13 => ?_
  replace hn_g13 := Heap.ne_of hn_g13
  dsimp only [Heap.ne] at hn_g13
  refine yS (oj hn_g1 (oj hn_g8 hn_g13)) ?_
  refine aw_frzT (t := 20) (ratsF exP) (zE (oj hn_g1 (oj hn_g8 hn_g13))) (zE (oj hn_g1 (oj hn_g8 hn_g13))) (by omega) (hC g13) (fun j hj => by match j, hj with | 0, _ => rfl | 1, _ => rfl | 2, _ => rfl | 3, _ => rfl | 4, _ => rfl | 5, _ => rfl | 6, _ => rfl | 7, _ => rfl | 8, _ => rfl) rfl (zE (oj hn_g1 (oj hn_g8 hn_g13))) ?_
  refine yS (oj hn_g1 (oj hn_g8 hn_g13)) ?_
  refine yG (oj hn_g1 (oj hn_g8 hn_g13)) ?_
  refine yA (oj hn_g1 (oj hn_g8 hn_g13)) fun g2 hn_g2=>?_
  refine yG (oj hn_g1 (oj hn_g8 (oj hn_g13 hn_g2))) ?_
  refine yW (oj hn_g1 (oj hn_g8 (oj hn_g13 hn_g2))) ?_
  refine yS (oj hn_g1 (oj hn_g8 (oj hn_g13 hn_g2))) ?_
  refine yG (oj hn_g1 (oj hn_g8 (oj hn_g13 hn_g2))) ?_
  refine aw_weak (σ' := [(0, .c (.bool false)), (2, .c (.optr g2 0)), (3, .c (rats true P)), (22, .agg (dgc true D)), (23, .c (rats true P))]) (h' := [(g2, .cells 25 3 (ofL (dgc true D)))]) (Sl.sub_le (by subst hP; exact ⟨rfl, rfl, rfl, rfl, rfl, trivial⟩)) (List.Sublist.cons_cons _ (List.nil_sublist _)) ?_
  refine xG ?_
  refine xC (hb) ?_
  refine xG ?_
  refine xC (hc) ?_
  refine xG ?_
  refine xC (hj) ?_
  refine xG ?_
  refine xA fun g8 hn_g8=>?_
  refine yG hn_g8 ?_
  refine yW hn_g8 ?_
  refine yS hn_g8 ?_
  refine yG hn_g8 ?_
  have h22 : ((2 : Int) == 2) = true := rfl
  refine aw_cw ([(g8, .cells 33 3 (ofL (rdc (rd (1 / 2)))))]) [(0,0),(1,0),(2,0),(3,0),(4,0),(5,0),(6,0),(7,0),(8,0),(9,0),(10,0),(11,0),(12,0),(13,0),(14,0),(15,0),(16,0),(17,0),(18,0),(19,0),(20,0),(21,0),(22,0),(23,0),(24,1),(25,1),(26,0),(27,0)] ty_mixed (by kernel_rfl) eI ?_
  refine yG (oj hn_g8 h22) ?_
  refine cw_callq rfl (part42_fa 1 2 (by omega) (by omega) (by omega) (by omega) (by omega)) rfl rfl rfl (fun _ _ => (zL (oj hn_g8 h22))) ?_
  refine yS (oj hn_g8 h22) ?_
  refine cw_callq rfl (ratEq_fa (rd (1 / 2)) (rd (((1 : Int) : Rat) / ((2 : Int) : Rat))) (rd_wf (fits_mono (L := 1) ⟨by decide +kernel, by decide +kernel⟩ (by omega)))) rfl rfl rfl (fun _ _ => (zL (oj hn_g8 h22))) ?_
  rw [rdec_eq (show rd (1 / 2) = rd (((1 : Int) : Rat) / ((2 : Int) : Rat)) from rfl)]
  refine yS (oj hn_g8 h22) ?_
  refine yG (oj hn_g8 h22) ?_
  refine cw_callq rfl (part42_fa 5 12 (by omega) (by omega) (by omega) (by omega) (by omega)) rfl rfl rfl (fun _ _ => (zL (oj hn_g8 h22))) ?_
  refine yS (oj hn_g8 h22) ?_
  refine cw_callq rfl (part42_fa 1 2 (by omega) (by omega) (by omega) (by omega) (by omega)) rfl rfl rfl (fun _ _ => (zL (oj hn_g8 h22))) ?_
  refine yS (oj hn_g8 h22) ?_
  refine cw_callq rfl (part42_fa 1 2 (by omega) (by omega) (by omega) (by omega) (by omega)) rfl rfl rfl (fun _ _ => (zL (oj hn_g8 h22))) ?_
  refine yS (oj hn_g8 h22) ?_
  refine cw_buildSlice (xs := [.tmp 59, .tmp 60, .tmp 61]) (cells := rdc (rd (5 / 12)) ++ (rdc (rd (1 / 2)) ++ rdc (rd (1 / 2)))) rfl rfl rfl rfl (zE (oj hn_g8 h22)) (by refine yS (oj hn_g8 h22) ?_; rfl) rfl (by omega) (by omega) (by intro x hx; simp only [List.mem_cons, List.not_mem_nil, or_false] at hx; rcases hx with rfl | rfl | rfl <;> exact ⟨rfl, rfl, rfl⟩) rfl (by simp [Op.operands]) eI (fun g24 hn_g24 => ?_) (hm := .inr ⟨rfl, rfl⟩)
  refine yS (oj hn_g8 h22) ?_
  refine cw_callqP rfl (rats_fa [rd (5 / 12), rd (1 / 2), rd (1 / 2)] [rd (5 / 12), rd (1 / 2), rd (1 / 2)] (by rw [← imp_exL]; exact imp_exw) (by simp)) rfl rfl rfl (by refine yS (oj hn_g8 h22) ?_; exact ⟨.c wl2, .c (.osl (m := 9) (zE (oj hn_g8 h22)) (by omega) (fun j hj => by match j, hj with | 0, _ => exact .refl _ | 1, _ => exact .refl _ | 2, _ => exact .refl _ | 3, _ => exact .refl _ | 4, _ => exact .refl _ | 5, _ => exact .refl _ | 6, _ => exact .refl _ | 7, _ => exact .refl _ | 8, _ => exact .refl _))⟩) eI ?_ (hm := .inr ⟨rfl, rfl⟩)
  refine yS (oj hn_g8 h22) ?_
  refine yG (oj hn_g8 h22) ?_
  refine yT hC (oj hn_g8 h22) ?_
  exact .one (.c (ler_bool (by simp)))
theorem awake42_fa : Fa Tryz.prog 14 [] (.c (.bool true)) := by
  have hbd := build15_fa exF exF_ok (by decide) [0, 1, 2] (by decide) rfl (by simp)
  rw [exT_eq] at hbd
  rw [show ([0, 1, 2] : List Int).length = 3 from rfl, exD_eq] at hbd
  have hb := birnbaum_fa exD exP ex_small
  rw [if_pos exP_code, exP_code, show exP.length = 3 from rfl, imp_exL] at hb
  have hc := critical_fa exD (by decide) (by decide) (fun _ => by decide) 1
  have ec : cicode exD 1 = 0 := by unfold cicode; rw [exD_code]; rfl
  rw [ec, if_pos rfl, show (1 : Int).toNat = 1 from rfl, show 2 ^ exD.order.length = 8 from rfl, crit_ex] at hc
  have hj := joint_fa exD exP ex_small 0 1
  have ej : bcode exD exP [0, 1] = 0 := by unfold bcode; rw [exP_code]; rfl
  rw [ej, if_pos rfl, show (0 : Int).toNat = 0 from rfl, show (1 : Int).toNat = 1 from rfl, joint_ex] at hj
  exact awake42_of exD exP hbd rfl hb hc hj
end Go.Proofs.YtlpejaefobdajaaGreat

/- decision.Table: Translate. Lists of ints compared. -/
namespace Go.Proofs.YtlpejaefobdajaaGreat
open Go.AI Go.PN
attribute [local irreducible] aw Fa Fh DrK
/-- How far Translate has come: rs are the references of the diagram's references below k + 2. -/
structure TrOk (d : DG) (ns : List DN) (rs : List Int) (k : Nat) : Prop where
  ref : ∀ r : Nat, r < k + 2 → RefOk ns (rs.getD r 0) ∧ ∀ s, evalD ns s (rs.getD r 0) = evalD d.nodes s r
theorem tr_step {d : DG} (ok : DgOk d) {o : List Int} {ns ns2 : List DN} (ht : TabOk o ns) {m : Nat} (hl2 : Later o ns ns2 m) {rs : List Int} {k : Nat} (hk : k < d.nodes.length) (hl : k + 2 < rs.length) (h : TrOk d ns rs k) {x : Int} (hx : RefOk ns2 x)
    (he : ∀ s, evalD ns2 s x = if s.testBit (d.nodes.getD k dn0).v.toNat then evalD ns s (rs.getD (d.nodes.getD k dn0).hi.toNat 0) else evalD ns s (rs.getD (d.nodes.getD k dn0).lo.toNat 0)) : TrOk d ns2 (rs.set (2 + k) x) (k + 1) := by
  obtain ⟨v0, v1, l0, l1, g0, g1⟩ := ok.ns k hk
  obtain ⟨r1, r3⟩ := h.ref (d.nodes.getD k dn0).lo.toNat (by omega)
  obtain ⟨q1, q3⟩ := h.ref (d.nodes.getD k dn0).hi.toNat (by omega)
  rw [show (((d.nodes.getD k dn0).lo.toNat : Nat) : Int) = (d.nodes.getD k dn0).lo from by omega] at r3
  rw [show (((d.nodes.getD k dn0).hi.toNat : Nat) : Int) = (d.nodes.getD k dn0).hi from by omega] at q3
  refine ⟨fun r hr => ?_⟩
  by_cases e : r = 2 + k
  · subst e
    rw [getZset (by omega)]
    refine ⟨hx, fun s => ?_⟩
    show evalD _ s _ = evalD d.nodes s ((2 + k : Nat) : Int)
    rw [show (((2 + k : Nat)) : Int) = 2 + (k : Int) from by omega, evalD_step ok.ns (by omega) (by omega)]
    unfold kid
    rw [show ((2 : Int) + (k : Int) - 2).toNat = k from by omega, he s, r3 s, q3 s]
    split <;> rfl
  · rw [getZset' e]
    obtain ⟨a1, a3⟩ := h.ref r (by omega)
    exact ⟨hl2.ref a1, fun s => by rw [hl2.eval ht a1, a3 s]⟩
theorem tr_zero {d : DG} {ns : List DN} {n : Nat} (hn : 0 < n) : TrOk d ns ((List.replicate (n + 1) 0).set 1 1) 0 := ⟨fun r hr => by
  obtain rfl | rfl : r = 0 ∨ r = 1 := by omega
  · rw [getZset' (by omega), show (List.replicate (n + 1) (0 : Int)).getD 0 0 = 0 from by simp]
    exact ⟨ref0, fun s => by show evalD ns s 0 = evalD d.nodes s 0; rw [ev0, ev0]⟩
  · rw [getZset (by rw [List.length_replicate]; omega)]
    exact ⟨ref1, fun s => by show evalD ns s 1 = evalD d.nodes s 1; rw [ev1, ev1]⟩⟩
set_option maxRecDepth 100000 in
set_option maxHeartbeats 3200000 in
theorem translate_fh (gT gU gM : Nat) (d : DG) (ok : DgOk d) {o pl : List Int} (ho : OdOk o pl) (hol : o.length = d.order.length) {og : Option Nat} {ns : List DN} {mm : Mem3} (hs : TS o og ns mm) (hn : ns.length + d.nodes.length * 2 ^ (o.length + 1) + 1 ≤ 1000000000) :
    Fh Tryz.prog 149 (THp gT gU gM og o pl ns mm) [.c (.optr gT 0), .agg (dgc false d)] (OpQ gT gU gM o pl ns (d.nodes.length * 2 ^ (o.length + 1)) fun s => evalD d.nodes s d.root) := by
  have k1 := ok.n4096
  have k2 := ok.r0
  have k3 := ok.r1
  have hB : 0 < 2 ^ (o.length + 1) := Nat.pow_pos (by omega)
  refine fh_of_body Tryz.func149 rfl rfl (by simp [Tryz.ntmps149]) fun C hC => ?_
  simp only [initS, Nat.reduceAdd]
  simp only [THp, TH, List.cons_append, List.nil_append]
  refine xG ?_
  refine xB fun g3 hn_g3=>?_
  refine yG hn_g3 ?_
  refine aw_make (n := d.nodes.length + 2) (c := d.nodes.length + 2) (size := 1) (bytes := 8) (z := [.int .i64 0]) rfl rfl rfl (zE hn_g3) (zE hn_g3) rfl (by omega) (zE hn_g3) (zE hn_g3) (by omega) (by omega) (by omega) (by omega) (by omega) fun g5 hn_g5 => ?_
  clear hn_g5 hn_g3
  simp only [Nat.mul_one]
  rw [make_is]
  refine aw_nd fun hnd => ?_
  simp only [Heap.keys, List.map_cons] at hnd
  replace hnd := ndP_of hnd
  dsimp only [ndP, neA] at hnd
  refine yS hnd ?_
  refine yG hnd ?_
  refine yW hnd ?_
  refine yS hnd ?_
  rw [updF_is (zs := List.replicate (d.nodes.length + 2) 0) (i := 1) (v := 1) (by rw [List.length_replicate]; omega)]
  refine yG hnd ?_
  refine aw_lp (fun x : Nat × Option Nat × List DN × Mem3 × List Int => [(0, .c (.optr gT 0)), (3, .c (.optr g3 0)), (5, .c (.osl g5 1 0 (d.nodes.length + 2))), (16, .c (dns false d.nodes)), (17, .c (.int .i64 d.nodes.length)), (18, .c (.int .i64 x.1))]) (fun x => [(g5, .cells 3 (d.nodes.length + 2) (isF x.2.2.2.2)), (g3, .cells 25 3 (ofL (dgc false d)))] ++ THp gT gU gM x.2.1 o pl x.2.2.1 x.2.2.2.1)
    (fun x => x.1 ≤ d.nodes.length ∧ TS o x.2.1 x.2.2.1 x.2.2.2.1 ∧ Later o ns x.2.2.1 (x.1 * 2 ^ (o.length + 1)) ∧ x.2.2.2.2.length = d.nodes.length + 2 ∧ TrOk d x.2.2.1 x.2.2.2.2 x.1) (fun x => d.nodes.length - x.1) (0, og, ns, mm, (List.replicate (d.nodes.length + 2) 0).set 1 1) (zB hnd) zZ ⟨Nat.zero_le _, hs, Later.refl hs.tab _, by simp, tr_zero (by omega)⟩ ?_
  clear hnd
  rintro ⟨k, og', ns', mm', rs⟩ ⟨hk, hs', hl', hrl, hi⟩
  dsimp only at hk hs' hl' hrl hi ⊢
  simp only [THp, TH, List.cons_append, List.nil_append]
  refine aw_nd fun hnd => ?_
  simp only [Heap.keys, List.map_cons] at hnd
  replace hnd := ndP_of hnd
  dsimp only [ndP, neA] at hnd
  have hln := hl'.len
  refine yG hnd ?_
  refine yF hnd (fun h1=>?_) fun h1=>?_
  · have h1' : k < d.nodes.length := by have := of_decide_eq_true h1; omega
    have hkb : k * 2 ^ (o.length + 1) + 2 ^ (o.length + 1) ≤ d.nodes.length * 2 ^ (o.length + 1) := by
      have := Nat.mul_le_mul_right (2 ^ (o.length + 1)) (show k + 1 ≤ d.nodes.length by omega)
      rwa [Nat.add_mul, Nat.one_mul] at this
    obtain ⟨v0, v1, l0, l1, q0, q1⟩ := ok.ns k h1'
    obtain ⟨r1, _⟩ := hi.ref (d.nodes.getD k dn0).lo.toNat (by omega)
    obtain ⟨r2, _⟩ := hi.ref (d.nodes.getD k dn0).hi.toNat (by omega)
    have hst : ∀ {ns2 : List DN} {m : Nat} {x : Int}, Later o ns' ns2 m → RefOk ns2 x → (∀ s, evalD ns2 s x = if s.testBit (d.nodes.getD k dn0).v.toNat then evalD ns' s (rs.getD (d.nodes.getD k dn0).hi.toNat 0) else evalD ns' s (rs.getD (d.nodes.getD k dn0).lo.toNat 0)) → TrOk d ns2 (rs.set (2 + k) x) (k + 1) := fun a b c => tr_step ok hs'.tab a h1' (by omega) hi b c
    refine yG hnd ?_
    refine yA hnd fun g7 hn_g7=>?_
    clear hn_g7
    refine aw_nd fun hnd2 => ?_
    simp only [Heap.keys, List.map_cons] at hnd2
    replace hnd2 := ndP_of hnd2
    dsimp only [ndP, neA] at hnd2
    clear hnd
    refine yG hnd2 ?_
    refine yW hnd2 ?_
    refine yS hnd2 ?_
    generalize hx0 : d.nodes.getD k dn0 = nd at *
    refine yG (oj hnd2 hx0) ?_
    refine aw_cw ([(g5, .cells 3 (d.nodes.length + 2) (isF rs)), (g7, .cells 139 3 (ofL [.int .i64 nd.v, .int .i64 nd.lo, .int .i64 nd.hi]))]) [(0,0),(1,0),(2,0),(3,0),(4,0),(5,0),(6,0),(8,0),(9,0),(10,0),(11,0),(12,0),(13,0),(14,0),(15,0),(16,0),(17,0),(7,1),(18,1),(19,0),(20,2)] ty_mixed (by kernel_rfl) eI ?_
    refine yG (oj hnd2 hx0) ?_
    refine cw_callh (hc := THp gT gU gM og' o pl ns' mm') (hr := [(g7, .cells 139 3 (ofL [.int .i64 nd.v, .int .i64 nd.lo, .int .i64 nd.hi])), (g5, .cells 3 (d.nodes.length + 2) (isF rs)), (g3, .cells 25 3 (ofL (dgc false d)))]) rfl (tevent_fh gT gU gM hs' (by omega) v0 (by omega)) rfl rfl rfl (List.perm_append_comm (l₁ := [(g7, _), (g5, _), (g3, _)])) (zL (oj hnd2 hx0)) (by
      rintro _ _ ⟨_, _, _, _, _, _, _, _, rfl, rfl⟩; exact has0_app2 eI) ?_ (hm := .inr ⟨rfl, rfl⟩)
    rintro _ _ ⟨og1, ns1, mm1, c1, e1, e2, e3, e4, rfl, rfl⟩ _
    have n1 := e2.len
    refine yS (oj hnd2 hx0) ?_
    refine yG (oj hnd2 hx0) ?_
    refine cw_callh (hc := THp gT gU gM og1 o pl ns1 mm1) (hr := [(g7, .cells 139 3 (ofL [.int .i64 nd.v, .int .i64 nd.lo, .int .i64 nd.hi])), (g5, .cells 3 (d.nodes.length + 2) (isF rs)), (g3, .cells 25 3 (ofL (dgc false d)))]) rfl (choose_fh gT gU gM ho e1 (by omega) e3 (e2.ref r2) (e2.ref r1)) rfl rfl rfl (.refl _) (zL (oj hnd2 hx0)) (by
      rintro _ _ ⟨_, _, _, _, _, _, _, _, rfl, rfl⟩; exact has0_app2 eI) ?_ (hm := .inr ⟨rfl, rfl⟩)
    rintro _ _ ⟨og2, ns2, mm2, x, f1, f2, f3, f4, rfl, rfl⟩ _
    have n2 := f2.len
    refine yS (oj hnd2 hx0) ?_
    refine cw_perm List.perm_append_comm ?_
    simp only [List.cons_append, List.nil_append]
    refine yS (oj hnd2 hx0) ?_
    refine yG (oj hnd2 hx0) ?_
    refine cw_store (FP' := []) rfl rfl rfl rfl rfl (zE (oj hnd2 hx0)) (zE (oj hnd2 hx0)) (zE (oj hnd2 hx0)) (zE (oj hnd2 hx0)) (fun _ e => by cases e) rfl rfl (by show (2 + (k : Int)).toNat + 1 ≤ _; omega) rfl has0_nil ?_
    simp only [AV.cells]
    rw [show ((2 : Int) + (k : Int)).toNat = 2 + k from by omega, updF_is (by omega)]
    refine yS (oj hnd2 hx0) ?_
    refine yG (oj hnd2 hx0) ?_
    have l02 := e2.trans f2 (Nat.le_refl _)
    have hk1 : (k + 1) * 2 ^ (o.length + 1) = k * 2 ^ (o.length + 1) + 2 ^ (o.length + 1) := by rw [Nat.add_mul, Nat.one_mul]
    refine aw_stop ⟨(k + 1, og2, ns2, mm2, rs.set (2 + k) x), by dsimp only; omega, (zB (oj hnd2 hx0)), List.Sublist.cons _ (List.Sublist.refl _), by dsimp only; omega, f1, hl'.trans l02 (by dsimp only; omega), by dsimp only; rw [List.length_set]; exact hrl, ?_⟩
    refine hst l02 f3 fun s => ?_
    rw [f4 s]
    dsimp only
    rw [e4 s, e2.eval hs'.tab r1, e2.eval hs'.tab r2]
  · have h1' : k = d.nodes.length := by have := of_decide_eq_false h1; omega
    subst h1'
    have hrt : ((d.root.toNat : Nat) : Int) = d.root := by omega
    obtain ⟨r1, r3⟩ := hi.ref d.root.toNat (by omega)
    rw [hrt] at r3
    refine yG hnd ?_
    refine aw_keep [(4, .c (.int .i64 (rs.getD d.root.toNat 0)))] (THp gT gU gM og' o pl ns' mm') (zB hnd) (List.Sublist.cons _ (List.Sublist.cons _ (List.Sublist.refl _))) ?_
    refine yU hnd ?_
    exact ⟨og', ns', mm', _, hs', hl', r1, r3, rfl, rfl⟩
theorem ints_ext {xs ys : List Int} (hl : xs.length = ys.length) (h : ∀ j, j < xs.length → xs.getD j 0 = ys.getD j 0) : xs = ys := by
  apply List.ext_getElem hl
  intro i h1 h2
  have := h i h1
  rw [List.getD_eq_getElem?_getD, List.getD_eq_getElem?_getD, List.getElem?_eq_getElem h1, List.getElem?_eq_getElem h2] at this
  exact this
set_option maxHeartbeats 800000 in
theorem slEqual_fa (xs ys : List Int) (hl : xs.length ≤ 68719476736) : Fa Tryz.prog 152 [.c (is false xs), .c (is false ys)] (.c (.bool (decide (xs = ys)))) := by
  refine fa_of_body Tryz.func152 rfl rfl (by simp [Tryz.ntmps152]) fun C hC => ?_
  simp only [initS, Nat.reduceAdd]
  refine xG ?_
  refine xF (fun hb=>?_) fun hb=>?_
  · refine xG ?_
    refine xT hC ?_
    refine .one (.c (ler_bool ?_))
    have : xs ≠ ys := fun e => by rw [e] at hb; simp at hb
    simp [this]
  · have hlen : xs.length = ys.length := by
      have : ((xs.length : Int) == (ys.length : Int)) = true := by simpa [bne] using hb
      have := eq_of_beq this; omega
    refine xG ?_
    refine aw_lp (fun i : Nat => [(0, .c (is false xs)), (1, .c (is false ys)), (12, .c (.int .i64 xs.length)), (13, .c (.int .i64 i))]) (fun _ => []) (fun i => i ≤ xs.length ∧ ∀ j, j < i → xs.getD j 0 = ys.getD j 0) (fun i => xs.length - i) 0 eB zZ ⟨Nat.zero_le _, fun j hj => by omega⟩ ?_
    rintro i ⟨hi, hs⟩
    refine xG ?_
    refine xF (fun hb=>?_) fun hb=>?_
    · have hin : i < xs.length := by have := of_decide_eq_true hb; omega
      refine xG ?_
      refine aw_dr 9 ty_mixed (by kernel_rfl) ?_
      refine xG ?_
      refine xF (fun hc=>?_) fun hc=>?_
      · refine xG ?_
        refine xT hC ?_
        refine .one (.c (ler_bool ?_))
        have : xs ≠ ys := fun e => by rw [e] at hc; simp at hc
        simp [this]
      · have he : xs.getD i 0 = ys.getD i 0 := by
          have : ((xs.getD i 0 : Int) == (ys.getD i 0 : Int)) = true := by simpa [bne] using hc
          exact eq_of_beq this
        refine xG ?_
        refine aw_stop ⟨i + 1, by omega, eB, zZ, by omega, fun j hj => ?_⟩
        by_cases hji : j = i
        · rw [hji]; exact he
        · exact hs j (by omega)
    · have hin : i = xs.length := by have := of_decide_eq_false hb; omega
      subst hin
      refine xG ?_
      refine xT hC ?_
      refine .one (.c (ler_bool ?_))
      have : xs = ys := ints_ext hlen hs
      simp [this]
end Go.Proofs.YtlpejaefobdajaaGreat
