/- Texts of one proof, laid one behind the other by a program (merge.py): Bir6, Law6. -/
import Derived.Test.YtlpejaefobdajaaGreatM26
import Derived.Test.YtlpejaefobdajaaGreatM25
set_option linter.unusedSimpArgs false
set_option linter.unusedVariables false
/- faultlinelaw42.awake. -/
namespace Go.AI
section
variable {E : Env} {K : List It} {l : List Oper} {FP FP' : Heap} {σ σ' : Sl} {h : Heap} {o : Oper} {i m : Nat} {cs : List (Nat × Nat)}
/-- A slice literal, at its place. -/
theorem cw_buildSlice {t e size bytes len : Nat} {xs : List Operand} {cells : List CV} (ho : l[i]? = some o) (hop : o.op = .buildSlice t len (enumO 0 xs).toArray) (hw : wantA l σ o = some true) (hd : dstOk E.N o.dst = true) (ht : tElem E.P t = some (e, size, bytes))
    (hz : (tZero E.P e).isSome = true) (hl : xs.length = len) (hsm : len * size ≤ 16777216) (hlm : len ≤ 16777216) (hx : ∀ x ∈ xs, (ev σ x).flat = true ∧ (ev σ x).cells.all CV.solid = true ∧ (ev σ x).cells.length = size) (hc : (xs.map (ev σ)).flatMap AV.cells = cells) (hops : ∀ x ∈ xs, x ∈ o.op.operands) (hFP : Has0 FP' h)
    (k : ∀ g, g ∉ h.keys → CW E l K FP' cs (σ.setO o.dst (.c (.osl g size 0 len))) ((g, .cells e (len * size) (ofL cells)) :: h)) (hm : m = 2 ∨ m = 1 ∧ FP' = FP := by first | exact .inl rfl | exact .inr ⟨rfl, rfl⟩) : CW E l K FP ((i, m) :: cs) σ h := by
  refine .pin ho hm (R := fun r h2 => ∃ g, g ∉ h.keys ∧ r = .c (.osl g size 0 len) ∧ h2 = (g, .cells e (len * size) (ofL cells)) :: h) (fun σ' K hs => ?_) ?_ ?_
  · have he : ∀ x ∈ xs, ev σ' x = ev σ x := fun x hxx => ev_same (hops x hxx) hs
    exact aw_buildSlice hop ((want_same hs).trans hw) hd ht hz hl hsm hlm (fun x hxx => by rw [he x hxx]; exact hx x hxx) (by rw [List.map_congr_left he]; exact hc) fun g hg => aw_ops_nil (aw_stop ⟨_, ⟨g, hg, rfl, rfl⟩, rfl⟩)
  · rintro r h2 ⟨g, _, _, rfl⟩; exact fun p hp => List.mem_cons_of_mem _ (hFP p hp)
  · rintro r h2 ⟨g, hg, rfl, rfl⟩; exact k g hg
/-- A call of a function that only looks, at its place. -/
theorem cw_callqP {f : FuncId} {xs : List Operand} {ts : Array TypeId} {args : List AV} {r : AV} (ho : l[i]? = some o) (hf : Fa E.P f args r) (hop : o.op = .call { callee := .value (.func f), args := xs.toArray, argTypes := ts }) (hw : wantA l σ o = some true) (hd : dstOk E.N o.dst = true)
    (le : LeA h (xs.map (ev σ)) args) (hFP : Has0 FP' h) (k : CW E l K FP' cs (σ.setO o.dst r) h) (hm : m = 2 ∨ m = 1 ∧ FP' = FP := by first | exact .inl rfl | exact .inr ⟨rfl, rfl⟩) : CW E l K FP ((i, m) :: cs) σ h := by
  refine .pin ho hm (R := fun x h2 => x = r ∧ h2 = h) (fun σ' K hs => ?_) ?_ ?_
  · have he : xs.map (ev σ') = xs.map (ev σ) := evs_same (fun x hx => by rw [hop]; simp [Op.operands, Call.operands, hx]) hs
    exact aw_callq hf hop ((want_same hs).trans hw) hd (by rw [he]; exact le) (aw_ops_nil (aw_stop ⟨r, ⟨rfl, rfl⟩, rfl⟩))
  · rintro _ _ ⟨_, rfl⟩; exact hFP
  · rintro _ _ ⟨rfl, rfl⟩; exact k
end
end Go.AI
namespace Go.Proofs.YtlpejaefobdajaaGreat
open Go.AI Go.PN
attribute [local irreducible] aw Fa Fh DrK
theorem imp_ex (i : Nat) : impQ exD exP i = smQ (exQ3.set i 1) (tabL exD) 8 - smQ (exQ3.set i 0) (tabL exD) 8 := by
  unfold impQ prS
  rw [rd0_rd, show exP = exQ3.map rd from rfl, ← List.map_set, ← List.map_set, sumQ_rd, sumQ_rd]
  simp
theorem imp_exL : impL exD exP 3 = [rd (5 / 12), rd (1 / 2), rd (1 / 2)] := by
  have e0 : impQ exD exP 0 = 5 / 12 := by rw [imp_ex]; decide +kernel
  have e1 : impQ exD exP 1 = 1 / 2 := by rw [imp_ex]; decide +kernel
  have e2 : impQ exD exP 2 = 1 / 2 := by rw [imp_ex]; decide +kernel
  show [rd (impQ exD exP 0), rd (impQ exD exP 1), rd (impQ exD exP 2)] = _
  rw [e0, e1, e2]
theorem imp_ex2 (i j : Nat) (a : Rat) : impQ exD (exP.set j (rd a)) i = smQ ((exQ3.set j a).set i 1) (tabL exD) 8 - smQ ((exQ3.set j a).set i 0) (tabL exD) 8 := by
  unfold impQ prS
  rw [rd0_rd, show exP = exQ3.map rd from rfl, ← List.map_set, ← List.map_set, ← List.map_set, sumQ_rd, sumQ_rd]
  simp
theorem joint_ex : jointQ exD exP 0 1 = 1 / 2 := by
  unfold jointQ
  rw [if_neg (by omega), show rd0 = rd 0 from rd0_rd, imp_ex2, imp_ex2]
  decide +kernel
theorem crit_ex : cntTo (critB exD 1) 8 = 2 := by decide +kernel
theorem imp_exw : ∀ x ∈ impL exD exP 3, x.wf 68719476736 := by
  rw [imp_exL]
  intro r hr
  simp only [List.mem_cons, List.not_mem_nil, or_false] at hr
  rcases hr with rfl | rfl | rfl <;> exact rd_wf (fits_mono (L := 1) ⟨by decide +kernel, by decide +kernel⟩ (by omega))
set_option maxRecDepth 100000 in
set_option maxHeartbeats 3200000 in
theorem awake42_of (D : DG) (P : List RD) (hbd : Fa Tryz.prog 62 [.agg (fmc false exF), .c (is false [0, 1, 2])] (.agg (dgc true D))) (hP : P = exP) (hb : Fa Tryz.prog 27 [.agg (dgc false D), .c (rats false P)] (.tup [.c (rats true [rd (5 / 12), rd (1 / 2), rd (1 / 2)]), .c .nilI])) (hc : Fa Tryz.prog 17 [.agg (dgc false D), .c (.int .i64 1)] (.tup [.c (.int .i64 2), .c .nilI])) (hj : Fa Tryz.prog 16 [.agg (dgc false D), .c (rats false P), .c (.int .i64 0), .c (.int .i64 1)] (.tup [.agg (rdc (rd (1 / 2))), .c .nilI])) :
    Fa Tryz.prog 14 [] (.c (.bool true)) := by
  refine fa_of_body Tryz.func14 rfl rfl (by simp [Tryz.ntmps14]) fun C hC => ?_
  simp only [initS, Nat.reduceAdd]
  refine xG ?_
  refine aw_buildSlice (xs := [.const (.int .i64 0), .const (.int .i64 1), .const (.int .i64 2)]) (cells := [.int .i64 0, .int .i64 1, .int .i64 2]) rfl rfl rfl eE (by refine xS ?_; rfl) rfl (by omega) (by omega) (by intro x hx; simp only [List.mem_cons, List.not_mem_nil, or_false] at hx; rcases hx with rfl | rfl | rfl <;> exact ⟨rfl, rfl, rfl⟩) rfl fun g3 hn_g3 => ?_
  refine xS ?_
  refine aw_frzT (t := 10) (isF [0, 1, 2]) eE eE (by omega) (hC g3) (fun j hj => by match j, hj with | 0, _ => rfl | 1, _ => rfl | 2, _ => rfl) rfl eE ?_
  refine xS ?_
  refine xG ?_
  refine aw_buildSlice (xs := [.tmp 11]) (cells := [.int .i64 4, .int .i64 2, is true [0, 1, 2]]) rfl rfl rfl eE (by refine xS ?_; rfl) rfl (by omega) (by omega) (by intro x hx; simp only [List.mem_singleton] at hx; subst hx; exact ⟨rfl, rfl, rfl⟩) rfl fun g5 hn_g5 => ?_
  refine xS ?_
  refine aw_frzT (t := 12) (fnsF exF.nodes) eE eE (by omega) (hC g5) (fun j hj => by match j, hj with | 0, _ => rfl | 1, _ => rfl | 2, _ => rfl) rfl eE ?_
  refine xS ?_
  refine xG ?_
  refine xA fun g1 hn_g1=>?_
  refine yG hn_g1 ?_
  refine yW hn_g1 ?_
  refine yS hn_g1 ?_
  refine yG hn_g1 ?_
  refine aw_buildSlice (xs := [.const (.int .i64 0), .const (.int .i64 1), .const (.int .i64 2)]) (cells := [.int .i64 0, .int .i64 1, .int .i64 2]) rfl rfl rfl (zE hn_g1) (by refine yS hn_g1 ?_; rfl) rfl (by omega) (by omega) (by intro x hx; simp only [List.mem_cons, List.not_mem_nil, or_false] at hx; rcases hx with rfl | rfl | rfl <;> exact ⟨rfl, rfl, rfl⟩) rfl fun g8 hn_g8 => ?_
  replace hn_g8 := Heap.ne_of hn_g8
  dsimp only [Heap.ne] at hn_g8
  refine yS (oj hn_g1 hn_g8) ?_
  refine aw_frzT (t := 15) (isF [0, 1, 2]) (zE (oj hn_g1 hn_g8)) (zE (oj hn_g1 hn_g8)) (by omega) (hC g8) (fun j hj => by match j, hj with | 0, _ => rfl | 1, _ => rfl | 2, _ => rfl) rfl (zE (oj hn_g1 hn_g8)) ?_
  refine yS (oj hn_g1 hn_g8) ?_
  refine yG (oj hn_g1 hn_g8) ?_
  refine aw_callq hbd rfl rfl rfl (by refine yS (oj hn_g1 hn_g8) ?_; exact ⟨.agg ⟨.refl _, le_any_row (by simp), .refl _, trivial⟩, .c (le_any_row (by simp))⟩) ?_
  refine yS (oj hn_g1 hn_g8) ?_
  refine yG (oj hn_g1 hn_g8) ?_
  refine yC (oj hn_g1 hn_g8) (part42_fa 1 2 ?_ ?_ ?_ ?_ ?_) ?_
  · omega
  · omega
  · omega
  · omega
  · omega
  refine yG (oj hn_g1 hn_g8) ?_
  refine yC (oj hn_g1 hn_g8) (part42_fa 1 3 ?_ ?_ ?_ ?_ ?_) ?_
  · omega
  · omega
  · omega
  · omega
  · omega
  refine yG (oj hn_g1 hn_g8) ?_
  refine yC (oj hn_g1 hn_g8) (part42_fa 1 4 ?_ ?_ ?_ ?_ ?_) ?_
  · omega
  · omega
  · omega
  · omega
  · omega
  refine yG (oj hn_g1 hn_g8) ?_
  refine aw_buildSlice (xs := [.tmp 17, .tmp 18, .tmp 19]) (cells := rdc (rd (1 / 2)) ++ (rdc (rd (1 / 3)) ++ rdc (rd (1 / 4)))) rfl rfl rfl (zE (oj hn_g1 hn_g8)) (by refine yS (oj hn_g1 hn_g8) ?_; rfl) rfl (by omega) (by omega) (by intro x hx; simp only [List.mem_cons, List.not_mem_nil, or_false] at hx; rcases hx with rfl | rfl | rfl <;> exact ⟨rfl, rfl, rfl⟩) rfl fun g13 hn_g13 => ?_
  replace hn_g13 := Heap.ne_of hn_g13
  dsimp only [Heap.ne] at hn_g13
  refine yS (oj hn_g1 (oj hn_g8 hn_g13)) ?_
  refine aw_frzT (t := 20) (ratsF exP) (zE (oj hn_g1 (oj hn_g8 hn_g13))) (zE (oj hn_g1 (oj hn_g8 hn_g13))) (by omega) (hC g13) (fun j hj => by match j, hj with | 0, _ => rfl | 1, _ => rfl | 2, _ => rfl | 3, _ => rfl | 4, _ => rfl | 5, _ => rfl | 6, _ => rfl | 7, _ => rfl | 8, _ => rfl) rfl (zE (oj hn_g1 (oj hn_g8 hn_g13))) ?_
  refine yS (oj hn_g1 (oj hn_g8 hn_g13)) ?_
  refine yG (oj hn_g1 (oj hn_g8 hn_g13)) ?_
  refine yA (oj hn_g1 (oj hn_g8 hn_g13)) fun g2 hn_g2=>?_
  refine yG (oj hn_g1 (oj hn_g8 (oj hn_g13 hn_g2))) ?_
  refine yW (oj hn_g1 (oj hn_g8 (oj hn_g13 hn_g2))) ?_
  refine yS (oj hn_g1 (oj hn_g8 (oj hn_g13 hn_g2))) ?_
  refine yG (oj hn_g1 (oj hn_g8 (oj hn_g13 hn_g2))) ?_
  refine aw_weak (σ' := [(0, .c (.bool false)), (2, .c (.optr g2 0)), (3, .c (rats true P)), (22, .agg (dgc true D)), (23, .c (rats true P))]) (h' := [(g2, .cells 25 3 (ofL (dgc true D)))]) (Sl.sub_le (by subst hP; exact ⟨rfl, rfl, rfl, rfl, rfl, trivial⟩)) (List.Sublist.cons_cons _ (List.nil_sublist _)) ?_
  refine xG ?_
  refine xC (hb) ?_
  refine xG ?_
  refine xC (hc) ?_
  refine xG ?_
  refine xC (hj) ?_
  refine xG ?_
  refine xA fun g8 hn_g8=>?_
  refine yG hn_g8 ?_
  refine yW hn_g8 ?_
  refine yS hn_g8 ?_
  refine yG hn_g8 ?_
  have h22 : ((2 : Int) == 2) = true := rfl
  refine aw_cw ([(g8, .cells 33 3 (ofL (rdc (rd (1 / 2)))))]) [(0,0),(1,0),(2,0),(3,0),(4,0),(5,0),(6,0),(7,0),(8,0),(9,0),(10,0),(11,0),(12,0),(13,0),(14,0),(15,0),(16,0),(17,0),(18,0),(19,0),(20,0),(21,0),(22,0),(23,0),(24,1),(25,1),(26,0),(27,0)] ty_mixed (by kernel_rfl) eI ?_
  refine yG (oj hn_g8 h22) ?_
  refine cw_callq rfl (part42_fa 1 2 (by omega) (by omega) (by omega) (by omega) (by omega)) rfl rfl rfl (fun _ _ => (zL (oj hn_g8 h22))) ?_
  refine yS (oj hn_g8 h22) ?_
  refine cw_callq rfl (ratEq_fa (rd (1 / 2)) (rd (((1 : Int) : Rat) / ((2 : Int) : Rat))) (rd_wf (fits_mono (L := 1) ⟨by decide +kernel, by decide +kernel⟩ (by omega)))) rfl rfl rfl (fun _ _ => (zL (oj hn_g8 h22))) ?_
  rw [rdec_eq (show rd (1 / 2) = rd (((1 : Int) : Rat) / ((2 : Int) : Rat)) from rfl)]
  refine yS (oj hn_g8 h22) ?_
  refine yG (oj hn_g8 h22) ?_
  refine cw_callq rfl (part42_fa 5 12 (by omega) (by omega) (by omega) (by omega) (by omega)) rfl rfl rfl (fun _ _ => (zL (oj hn_g8 h22))) ?_
  refine yS (oj hn_g8 h22) ?_
  refine cw_callq rfl (part42_fa 1 2 (by omega) (by omega) (by omega) (by omega) (by omega)) rfl rfl rfl (fun _ _ => (zL (oj hn_g8 h22))) ?_
  refine yS (oj hn_g8 h22) ?_
  refine cw_callq rfl (part42_fa 1 2 (by omega) (by omega) (by omega) (by omega) (by omega)) rfl rfl rfl (fun _ _ => (zL (oj hn_g8 h22))) ?_
  refine yS (oj hn_g8 h22) ?_
  refine cw_buildSlice (xs := [.tmp 59, .tmp 60, .tmp 61]) (cells := rdc (rd (5 / 12)) ++ (rdc (rd (1 / 2)) ++ rdc (rd (1 / 2)))) rfl rfl rfl rfl (zE (oj hn_g8 h22)) (by refine yS (oj hn_g8 h22) ?_; rfl) rfl (by omega) (by omega) (by intro x hx; simp only [List.mem_cons, List.not_mem_nil, or_false] at hx; rcases hx with rfl | rfl | rfl <;> exact ⟨rfl, rfl, rfl⟩) rfl (by simp [Op.operands]) eI (fun g24 hn_g24 => ?_) (hm := .inr ⟨rfl, rfl⟩)
  refine yS (oj hn_g8 h22) ?_
  refine cw_callqP rfl (rats_fa [rd (5 / 12), rd (1 / 2), rd (1 / 2)] [rd (5 / 12), rd (1 / 2), rd (1 / 2)] (by rw [← imp_exL]; exact imp_exw) (by simp)) rfl rfl rfl (by refine yS (oj hn_g8 h22) ?_; exact ⟨.c wl2, .c (.osl (m := 9) (zE (oj hn_g8 h22)) (by omega) (fun j hj => by match j, hj with | 0, _ => exact .refl _ | 1, _ => exact .refl _ | 2, _ => exact .refl _ | 3, _ => exact .refl _ | 4, _ => exact .refl _ | 5, _ => exact .refl _ | 6, _ => exact .refl _ | 7, _ => exact .refl _ | 8, _ => exact .refl _))⟩) eI ?_ (hm := .inr ⟨rfl, rfl⟩)
  refine yS (oj hn_g8 h22) ?_
  refine yG (oj hn_g8 h22) ?_
  refine yT hC (oj hn_g8 h22) ?_
  exact .one (.c (ler_bool (by simp)))
theorem awake42_fa : Fa Tryz.prog 14 [] (.c (.bool true)) := by
  have hbd := build15_fa exF exF_ok (by decide) [0, 1, 2] (by decide) rfl (by simp)
  rw [exT_eq] at hbd
  rw [show ([0, 1, 2] : List Int).length = 3 from rfl, exD_eq] at hbd
  have hb := birnbaum_fa exD exP ex_small
  rw [if_pos exP_code, exP_code, show exP.length = 3 from rfl, imp_exL] at hb
  have hc := critical_fa exD (by decide) (by decide) (fun _ => by decide) 1
  have ec : cicode exD 1 = 0 := by unfold cicode; rw [exD_code]; rfl
  rw [ec, if_pos rfl, show (1 : Int).toNat = 1 from rfl, show 2 ^ exD.order.length = 8 from rfl, crit_ex] at hc
  have hj := joint_fa exD exP ex_small 0 1
  have ej : bcode exD exP [0, 1] = 0 := by unfold bcode; rw [exP_code]; rfl
  rw [ej, if_pos rfl, show (0 : Int).toNat = 0 from rfl, show (1 : Int).toNat = 1 from rfl, joint_ex] at hj
  exact awake42_of exD exP hbd rfl hb hc hj
end Go.Proofs.YtlpejaefobdajaaGreat

/- The law BirnbaumOwn. -/
namespace Go.Proofs.YtlpejaefobdajaaGreat
open Go.AI Go.PN
attribute [local irreducible] aw Fa Fh DrK
theorem valid2_ok {d : DG} {p : List RD} (h : validB2 d p = true) : largeB d p = false ∧ dpcode d p = 0 := by
  unfold validB2 at h
  rw [Bool.and_eq_true] at h
  exact ⟨by simpa using h.1, by simpa using h.2⟩
theorem imp_own (d : DG) (p : List RD) (i : Nat) (q : RD) : impQ d (p.set i q) i = impQ d p i := by
  unfold impQ prS
  simp only [List.set_set, List.length_set]
theorem impL_get {d : DG} {p : List RD} {k i : Nat} (h : i < k) : (impL d p k).getD i rd0 = rd (impQ d p i) := by
  unfold impL
  rw [List.getD_eq_getElem?_getD]
  simp [h]
theorem lit_wf {n d : Int} (h : fits ((n : Rat) / (d : Rat)) 1) : (rd ((n : Rat) / (d : Rat))).wf 4 := rd_wf (fits_mono h (by omega))
theorem ratSame_fa (a : RD) (hw : a.wf 68719476736) : Fa Tryz.prog 22 [.agg (rdc a), .agg (rdc a)] (.c (.bool true)) := by
  have := ratEq_fa a a hw
  rwa [rdec_eq rfl] at this
theorem bcode_in {d : DG} {p : List RD} (h0 : dpcode d p = 0) {es : List Int} (h : ∀ i ∈ es, 0 ≤ i ∧ i < d.order.length) : bcode d p es = 0 := by
  unfold bcode
  rw [if_neg (by simp [h0]), if_pos]
  rw [List.all_eq_true]
  intro x hx
  have := h x hx
  simpa using this
set_option maxRecDepth 100000 in
set_option maxHeartbeats 3200000 in
theorem lawOwn_fa (haw : Fa Tryz.prog 14 [] (.c (.bool true))) (d : DG) (p : List RD) (i j : Int) (hw : WordsOk p) (hl : p.length ≤ 1099511627776) (hl1 : d.order.length ≤ 1099511627776) (hl2 : d.nodes.length ≤ 1099511627776) :
    Fa Tryz.prog 4 [.agg (dgc false d), .c (rats false p), .agg [.int .i64 i, .int .i64 j]] (.c (.bool true)) := by
  refine fa_of_body Tryz.func4 rfl rfl (by simp [Tryz.ntmps4]) fun C hC => ?_
  simp only [initS, Nat.reduceAdd]
  refine xG ?_
  refine xB fun g3 hn_g3=>?_
  refine yG hn_g3 ?_
  refine yB hn_g3 fun g5 hn_g5=>?_
  refine yG (oj hn_g3 hn_g5) ?_
  refine yC (oj hn_g3 hn_g5) (haw) ?_
  refine yG (oj hn_g3 hn_g5) ?_
  refine yC (oj hn_g3 hn_g5) (valid42_fa d p hw hl hl1 hl2) ?_
  refine yG (oj hn_g3 hn_g5) ?_
  refine aw_split 24 (zE (oj hn_g3 hn_g5)) (fun hv => ?_) (fun hv => ?_) <;> refine yS (oj hn_g3 hn_g5) ?_
  · refine yG (oj hn_g3 hn_g5) ?_
    refine yP (oj hn_g3 hn_g5) ?_
    refine yG (oj hn_g3 hn_g5) ?_
    refine yC (oj hn_g3 hn_g5) (haw) ?_
    refine yG (oj hn_g3 hn_g5) ?_
    refine yT hC (oj hn_g3 hn_g5) ?_
    exact .one (.c (.bool _))
  refine yG (oj hn_g3 hn_g5) ?_
  refine aw_split 29 (zE (oj hn_g3 hn_g5)) (fun hi0 => ?_) (fun hi0 => ?_) <;> refine yS (oj hn_g3 hn_g5) ?_
  · refine yG (oj hn_g3 hn_g5) ?_
    refine yP (oj hn_g3 hn_g5) ?_
    refine yG (oj hn_g3 hn_g5) ?_
    refine yC (oj hn_g3 hn_g5) (haw) ?_
    refine yG (oj hn_g3 hn_g5) ?_
    refine yT hC (oj hn_g3 hn_g5) ?_
    exact .one (.c (.bool _))
  refine yG (oj hn_g3 hn_g5) ?_
  refine aw_split 36 (zE (oj hn_g3 hn_g5)) (fun hi1 => ?_) (fun hi1 => ?_) <;> refine yS (oj hn_g3 hn_g5) ?_
  · refine yG (oj hn_g3 hn_g5) ?_
    refine yP (oj hn_g3 hn_g5) ?_
    refine yG (oj hn_g3 hn_g5) ?_
    refine yC (oj hn_g3 hn_g5) (haw) ?_
    refine yG (oj hn_g3 hn_g5) ?_
    refine yT hC (oj hn_g3 hn_g5) ?_
    exact .one (.c (.bool _))
  refine yG (oj hn_g3 hn_g5) ?_
  refine aw_split 41 (zE (oj hn_g3 hn_g5)) (fun hj0 => ?_) (fun hj0 => ?_) <;> refine yS (oj hn_g3 hn_g5) ?_
  · refine yG (oj hn_g3 hn_g5) ?_
    refine yP (oj hn_g3 hn_g5) ?_
    refine yG (oj hn_g3 hn_g5) ?_
    refine yC (oj hn_g3 hn_g5) (haw) ?_
    refine yG (oj hn_g3 hn_g5) ?_
    refine yT hC (oj hn_g3 hn_g5) ?_
    exact .one (.c (.bool _))
  refine yG (oj hn_g3 hn_g5) ?_
  refine yF (oj hn_g3 hn_g5) (fun hj1=>?_) fun hj1=>?_
  · refine yG (oj hn_g3 hn_g5) ?_
    refine yC (oj hn_g3 hn_g5) (haw) ?_
    refine yG (oj hn_g3 hn_g5) ?_
    refine yT hC (oj hn_g3 hn_g5) ?_
    exact .one (.c (.bool _))
  obtain ⟨hb, hdp⟩ := valid2_ok (show validB2 d p = true from by simpa using hv)
  have hs := small_of hw hl2 hb
  obtain ⟨ok, hpl, hpr⟩ := dp_ok hdp
  replace hi0 := of_decide_eq_false hi0
  replace hi1 := of_decide_eq_false hi1
  replace hj0 := of_decide_eq_false hj0
  replace hj1 := of_decide_eq_false hj1
  obtain ⟨a, rfl⟩ : ∃ a : Nat, i = a := ⟨i.toNat, by omega⟩
  obtain ⟨b, rfl⟩ : ∃ b : Nat, j = b := ⟨j.toNat, by omega⟩
  have ha : a < p.length := by omega
  have hbl : b < p.length := by omega
  have hs1 := hs.l
  have hqw : (rd (((1 : Int) : Rat) / ((7 : Int) : Rat))).wf 4 := lit_wf ⟨by decide +kernel, by decide +kernel⟩
  have hqp : (rd (((1 : Int) : Rat) / ((7 : Int) : Rat))).prob = true := rd_prob (by decide +kernel) (by decide +kernel)
  generalize hqd : rd (((1 : Int) : Rat) / ((7 : Int) : Rat)) = q at hqw hqp
  have B1 := birnbaum_fa d p hs
  rw [if_pos hdp, hdp] at B1
  have B2 := birnbaum_fa d (p.set a q) (hs.set hdp hqw)
  rw [if_pos (dp_set hdp hqp), dp_set hdp hqp, List.length_set] at B2
  have J1 := joint_fa d p hs a b
  rw [bcode_in hdp (es := [(a : Int), (b : Int)]) (by simp only [List.mem_cons, List.not_mem_nil, or_false]; rintro x (rfl | rfl) <;> omega), if_pos rfl, Int.toNat_natCast, Int.toNat_natCast] at J1
  have J2 := joint_fa d p hs b a
  rw [bcode_in hdp (es := [(b : Int), (a : Int)]) (by simp only [List.mem_cons, List.not_mem_nil, or_false]; rintro x (rfl | rfl) <;> omega), if_pos rfl, Int.toNat_natCast, Int.toNat_natCast, joint_comm] at J2
  have hjf := joint_fits hs hdp a b
  have hif := imp_fits hs hdp a
  have g1 := impL_get (d := d) (p := p) ha
  have g2 := impL_get (d := d) (p := p.set a q) ha
  rw [imp_own] at g2
  have n1 := impL_len d p p.length
  have n2 := impL_len d (p.set a q) p.length
  change Fa Tryz.prog _ _ (.tup [_, .c .nilI]) at B1
  change Fa Tryz.prog _ _ (.tup [_, .c .nilI]) at B2
  change Fa Tryz.prog _ _ (.tup [_, .c .nilI]) at J1
  change Fa Tryz.prog _ _ (.tup [_, .c .nilI]) at J2
  generalize jointQ d p a b = Y at *
  generalize impQ d p a = X at *
  generalize impL d p p.length = L1 at *
  generalize impL d (p.set a q) p.length = L2 at *
  refine yG (oj hn_g3 hn_g5) ?_
  refine aw_buildSlice (xs := []) (cells := []) rfl rfl rfl (zE (oj hn_g3 hn_g5)) (by refine yS (oj hn_g3 hn_g5) ?_; rfl) rfl (by omega) (by omega) (by simp) rfl fun gE hn_gE => ?_
  refine aw_convR (f' := ratsF []) (fun j hj => absurd hj (by omega)) ?_
  replace hn_gE := Heap.ne_of hn_gE
  dsimp only [Heap.ne] at hn_gE
  refine yS (oj hn_g3 (oj hn_g5 hn_gE)) ?_
  refine yG (oj hn_g3 (oj hn_g5 hn_gE)) ?_
  refine aw_append (size := 3) (z := [.bool false, .nils, .nils]) rfl rfl rfl (zE (oj hn_g3 (oj hn_g5 hn_gE))) (zE (oj hn_g3 (oj hn_g5 hn_gE))) rfl (by omega) (zE (oj hn_g3 (oj hn_g5 hn_gE))) (zE (oj hn_g3 (oj hn_g5 hn_gE))) (by omega) (zE (oj hn_g3 (oj hn_g5 hn_gE))) .row (fun j hj => ratsF_solid p j hj) (by omega) (by unfold maxLen; omega) (by omega) (zE (oj hn_g3 (oj hn_g5 hn_gE))) fun gw hn_gw => ?_
  refine yS (oj hn_g3 (oj hn_g5 hn_gE)) ?_
  have hf : appF (ratsF []) 0 (ratsF p) = ratsF p := by funext j; simp [appF]
  rw [hf]
  replace hn_gw := Heap.ne_of hn_gw
  dsimp only [Heap.ne] at hn_gw
  refine yG (oj hn_g3 (oj hn_g5 (oj hn_gE hn_gw))) ?_
  refine aw_dr 5 ty_mixed (by kernel_rfl) ?_
  refine yG (oj hn_g3 (oj hn_g5 (oj hn_gE hn_gw))) ?_
  refine yD (oj hn_g3 (oj hn_g5 (oj hn_gE hn_gw))) (part42_fa 1 7 ?_ ?_ ?_ ?_ ?_) ?_
  · omega
  · omega
  · omega
  · omega
  · omega
  rw [hqd]
  refine yG (oj hn_g3 (oj hn_g5 (oj hn_gE hn_gw))) ?_
  refine yW (oj hn_g3 (oj hn_g5 (oj hn_gE hn_gw))) ?_
  refine yS (oj hn_g3 (oj hn_g5 (oj hn_gE hn_gw))) ?_
  rw [ratsF_upd (by omega)]
  refine yG (oj hn_g3 (oj hn_g5 (oj hn_gE hn_gw))) ?_
  refine yC (oj hn_g3 (oj hn_g5 (oj hn_gE hn_gw))) (B1) ?_
  refine yG (oj hn_g3 (oj hn_g5 (oj hn_gE hn_gw))) ?_
  refine aw_callq B2 rfl rfl rfl (by refine yS (oj hn_g3 (oj hn_g5 (oj hn_gE hn_gw))) ?_; exact ⟨.agg (lel_refl _), .c (le_oslr2 (zE (oj hn_g3 (oj hn_g5 (oj hn_gE hn_gw)))) (by rw [List.length_set]))⟩) ?_
  refine yS (oj hn_g3 (oj hn_g5 (oj hn_gE hn_gw))) ?_
  refine yG (oj hn_g3 (oj hn_g5 (oj hn_gE hn_gw))) ?_
  refine yC (oj hn_g3 (oj hn_g5 (oj hn_gE hn_gw))) (J1) ?_
  refine yG (oj hn_g3 (oj hn_g5 (oj hn_gE hn_gw))) ?_
  refine yA (oj hn_g3 (oj hn_g5 (oj hn_gE hn_gw))) fun g12 hn_g12=>?_
  refine yG (oj hn_g3 (oj hn_g5 (oj hn_gE (oj hn_gw hn_g12)))) ?_
  refine yW (oj hn_g3 (oj hn_g5 (oj hn_gE (oj hn_gw hn_g12)))) ?_
  refine yS (oj hn_g3 (oj hn_g5 (oj hn_gE (oj hn_gw hn_g12)))) ?_
  refine yG (oj hn_g3 (oj hn_g5 (oj hn_gE (oj hn_gw hn_g12)))) ?_
  refine yC (oj hn_g3 (oj hn_g5 (oj hn_gE (oj hn_gw hn_g12)))) (J2) ?_
  refine yG (oj hn_g3 (oj hn_g5 (oj hn_gE (oj hn_gw hn_g12)))) ?_
  refine yA (oj hn_g3 (oj hn_g5 (oj hn_gE (oj hn_gw hn_g12)))) fun g14 hn_g14=>?_
  refine yG (oj hn_g3 (oj hn_g5 (oj hn_gE (oj hn_gw (oj hn_g12 hn_g14))))) ?_
  refine yW (oj hn_g3 (oj hn_g5 (oj hn_gE (oj hn_gw (oj hn_g12 hn_g14))))) ?_
  refine yS (oj hn_g3 (oj hn_g5 (oj hn_gE (oj hn_gw (oj hn_g12 hn_g14))))) ?_
  have e1 : (!decide ((L1.length : Int) = (p.length : Int))) = false := by rw [n1]; simp
  have e2 : (!decide ((L2.length : Int) = (p.length : Int))) = false := by rw [n2]; simp
  have e3 : ((L1.length : Int) != (p.length : Int)) = false := by rw [n1]; simp
  have e4 : ((L2.length : Int) != (p.length : Int)) = false := by rw [n2]; simp
  have q1 : (a : Int) < L1.length := by omega
  have q2 : (a : Int) < L2.length := by omega
  refine yG (oj hn_g3 (oj hn_g5 (oj hn_gE (oj hn_gw (oj hn_g12 (oj hn_g14 (oj e1 (oj e2 (oj e3 (oj e4 (oj g1 g2))))))))))) ?_
  refine yN (oj hn_g3 (oj hn_g5 (oj hn_gE (oj hn_gw (oj hn_g12 (oj hn_g14 (oj e1 (oj e2 (oj e3 (oj e4 (oj g1 g2))))))))))) ?_
  refine yG (oj hn_g3 (oj hn_g5 (oj hn_gE (oj hn_gw (oj hn_g12 (oj hn_g14 (oj e1 (oj e2 (oj e3 (oj e4 (oj g1 g2))))))))))) ?_
  refine aw_dr 16 ty_mixed (by kernel_rfl) ?_
  refine yG (oj hn_g3 (oj hn_g5 (oj hn_gE (oj hn_gw (oj hn_g12 (oj hn_g14 (oj e1 (oj e2 (oj e3 (oj e4 (oj g1 g2))))))))))) ?_
  refine yD (oj hn_g3 (oj hn_g5 (oj hn_gE (oj hn_gw (oj hn_g12 (oj hn_g14 (oj e1 (oj e2 (oj e3 (oj e4 (oj g1 g2))))))))))) (ratSame_fa (rd X) (rd_wf (fits_mono hif ?_))) ?_
  · decide
  refine yG (oj hn_g3 (oj hn_g5 (oj hn_gE (oj hn_gw (oj hn_g12 (oj hn_g14 (oj e1 (oj e2 (oj e3 (oj e4 (oj g1 g2))))))))))) ?_
  refine yD (oj hn_g3 (oj hn_g5 (oj hn_gE (oj hn_gw (oj hn_g12 (oj hn_g14 (oj e1 (oj e2 (oj e3 (oj e4 (oj g1 g2))))))))))) (ratSame_fa (rd Y) (rd_wf (fits_mono hjf ?_))) ?_
  · decide
  refine yG (oj hn_g3 (oj hn_g5 (oj hn_gE (oj hn_gw (oj hn_g12 (oj hn_g14 (oj e1 (oj e2 (oj e3 (oj e4 (oj g1 g2))))))))))) ?_
  refine yT hC (oj hn_g3 (oj hn_g5 (oj hn_gE (oj hn_gw (oj hn_g12 (oj hn_g14 (oj e1 (oj e2 (oj e3 (oj e4 (oj g1 g2))))))))))) ?_
  exact .one (.c (.bool _))
end Go.Proofs.YtlpejaefobdajaaGreat
