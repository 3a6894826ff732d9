/- Texts of one proof, laid one behind the other by a program (merge.py): AiCopy, Rep1, Str1, Law12. -/
import Derived.Test.YtlpejaefobdajaaGreatM21
import Derived.Test.YtlpejaefobdajaaGreatM03
import Derived.Test.YtlpejaefobdajaaGreatM16
import Derived.Test.YtlpejaefobdajaaGreatM12
import Derived.Test.YtlpejaefobdajaaGreatM26
import Derived.Test.YtlpejaefobdajaaGreatM29
import Derived.Test.YtlpejaefobdajaaGreatM27
import Derived.Test.YtlpejaefobdajaaGreatM28
set_option linter.unusedSimpArgs false
set_option linter.unusedVariables false
/- copy into a slice of one's own. -/
namespace Go.AI
section
variable {E : Env} {K : List It} {σ σ' : Sl} {h : Heap} {all rest l : List Oper} {o : Oper}
theorem repL_one {S : Bool → Nat → Prop} {w : World} : ∀ {cs : List CV} {us : List Value}, RepL S w cs us → cs.all CV.solid = true → ∀ u ∈ us, u.oneCell' = true
  | [], [], _, _, u, hu => absurd hu List.not_mem_nil
  | c :: cs, u :: us, h, hs, v, hv => by
    rw [List.all_cons, Bool.and_eq_true] at hs
    rcases List.mem_cons.1 hv with rfl | hv
    · exact solid_one hs.1 h.1
    · exact repL_one h.2 hs.2 v hv
theorem aw_copyS {t e size bytes n m k q g off : Nat} {f f2 : Nat → CV} {x s : Operand} {cx : CV} {h' : Heap} (hop : o.op = .call { callee := .builtin .copy, args := #[x, s], argTypes := #[t, t] }) (hw : wantA all σ o = some true) (hd : dstOk E.N o.dst = true)
    (ht : tElem E.P t = some (e, size, bytes)) (hx : ev σ x = .c (.osl g size off n)) (hg : h.get g = some (.cells e m f)) (hs : ev σ s = .c cx) (hsrc : Src h size cx k f2) (hq : q = min k n) (hm : off + n * size ≤ m)
    (hsol : (cellsAt f2 0 0 (q * size)).all CV.solid = true) (hh : h.set g (.cells e m (updF f off (cellsAt f2 0 0 (q * size)))) = h') (kk : aw E (.ops all rest :: K) (σ.setO o.dst (.c (.int .i64 q))) h') : aw E (.ops all (o :: rest) :: K) σ h := by
  subst hh
  refine aw_step hw (fun ac w st => ?_) kk
  have h1 := ev_rep st x
  have h2 := ev_rep st s
  rw [hx] at h1
  rw [hs] at h2
  obtain ⟨c, hv1, hnc, hcm, cs0, ty0, hb0, hcs0⟩ := h1
  obtain ⟨A, d, hv2, hA⟩ := hsrc.cells st.heap h2
  obtain ⟨cs, hb, hn, hj⟩ := st.heap g _ (Heap.get_mem hg)
  obtain ⟨hu, inf, hi, hsz, hbb⟩ := tElem_spec ht
  have hqk : q * size ≤ k * size := Nat.mul_le_mul_right _ (by omega)
  have hqn : q * size ≤ n * size := Nat.mul_le_mul_right _ (by omega)
  have hload : ∃ us, (Builtin.firstCells size q (.slice A k d)).run E.P w = .ok us.toArray w ∧ RepL (Stab E.C h w) w (cellsAt f2 0 0 (q * size)) us := by
    rcases Nat.eq_zero_or_pos (q * size) with h0 | h0
    · refine ⟨[], ?_, by rw [h0]; trivial⟩
      cases A with
      | none => simp [Builtin.firstCells]
      | some a => simp [Builtin.firstCells, h0, loadCells, loadCellsFrom]
    · obtain ⟨ad, rfl, hc⟩ := hA (by omega)
      obtain ⟨us, hus, hrs⟩ := run_loadCellsFrom (P := E.P) (S := Stab E.C h w) (w := w) (ad := ad) (f := f2) (off := 0) (q * size) 0 #[] (fun j _ hj => by
        obtain ⟨u, e1, e2⟩ := hc j (by omega)
        exact ⟨u, e1, by rw [Nat.zero_add]; exact e2⟩)
      exact ⟨us, by simp [Builtin.firstCells, loadCells, hus], hrs⟩
  obtain ⟨us, hus, hL⟩ := hload
  have hul : us.length = q * size := by rw [hL.length, cellsAt_len]
  obtain ⟨w', hrun, hbl, hfr⟩ := run_storeCells (P := E.P) us w cs off 0 hb (by omega) (repL_one hL hsol)
  refine ⟨.int .i64 (q : Int), w', .inl ?_, ?_⟩
  · have hq' : Nat.min k n = q := by rw [hq]
    simp only [execOp, hop, resolve, invoke, Go.builtin, Builtin.copy_, Sem.run_bind, Sem.run_pure, Result.andThen_ok, List.map_toArray, List.map_cons, List.map_nil, hv1, hv2, run_underlying hu, Builtin.lenOf, sizeOf, typeInfo, hi, hsz, hq', hus, hrun, List.size_toArray, List.length_cons, List.length_nil, List.getElem?_toArray, List.getElem?_cons_zero, List.getElem?_cons_succ, goInt]
    simp [Sem.run_bind, run_underlying hu, Builtin.lenOf, sizeOf, typeInfo, hi, hsz, hq', hus, hrun, goInt]
  · have hgm : g ∈ h.keys := List.mem_map.2 ⟨_, Heap.get_mem hg, rfl⟩
    have hkk : (h.set g (.cells e m (updF f off (cellsAt f2 0 0 (q * size))))).keys = h.keys := Heap.keys_set _ _ _
    have kp : Keeps (Stab E.C h w) (Stab E.C (h.set g (.cells e m (updF f off (cellsAt f2 0 0 (q * size))))) w') w w' :=
      ⟨fun t b hb => ⟨hb.1, Nat.lt_of_lt_of_le hb.2.1 hfr.size, by rw [hkk]; exact hb.2.2⟩, fun t b hb => hfr.block b hb.2.1 (fun e => hb.2.2 (e ▸ hgm)), hfr.has⟩
    refine (st.setObj (ob' := .cells e m (updF f off (cellsAt f2 0 0 (q * size)))) hg hfr ⟨_, hbl, by rw [putL_size]; exact hn, ?_⟩).put hd (r := .c (.int .i64 q)) rfl
    have := putL_rep (cellsAt f2 0 0 (q * size)) us cs f (off + 0) (hL.keep kp) hn (fun j hjn => by obtain ⟨u, hu, hr⟩ := hj j hjn; exact ⟨u, hu, hr.keep kp⟩)
    simpa using this
/-- copy, at its place. -/
theorem cw_copyS {FP FP' : Heap} {i mk : Nat} {cs : List (Nat × Nat)} {t e size bytes n m k q g off : Nat} {f f2 : Nat → CV} {x s : Operand} {cx : CV} {h' : Heap} (ho : l[i]? = some o) (hop : o.op = .call { callee := .builtin .copy, args := #[x, s], argTypes := #[t, t] }) (hw : wantA l σ o = some true) (hd : dstOk E.N o.dst = true)
    (ht : tElem E.P t = some (e, size, bytes)) (hx : ev σ x = .c (.osl g size off n)) (hg : h.get g = some (.cells e m f)) (hs : ev σ s = .c cx) (hsrc : Src h size cx k f2) (hq : q = min k n) (hm : off + n * size ≤ m)
    (hsol : (cellsAt f2 0 0 (q * size)).all CV.solid = true) (hh : h.set g (.cells e m (updF f off (cellsAt f2 0 0 (q * size)))) = h') (hFP : Has0 FP' h') (kk : CW E l K FP' cs (σ.setO o.dst (.c (.int .i64 q))) h') (hmk : mk = 2 ∨ mk = 1 ∧ FP' = FP := by first | exact .inl rfl | exact .inr ⟨rfl, rfl⟩) : CW E l K FP ((i, mk) :: cs) σ h := by
  refine .pin ho hmk (R := fun r h2 => r = .c (.int .i64 q) ∧ h2 = h') (fun σ' K hsm => ?_) ?_ ?_
  · exact aw_copyS hop ((want_same hsm).trans hw) hd ht ((ev_same (by rw [hop]; simp [Op.operands, Call.operands]) hsm).trans hx) hg ((ev_same (by rw [hop]; simp [Op.operands, Call.operands]) hsm).trans hs) hsrc hq hm hsol hh (aw_ops_nil (aw_stop ⟨_, ⟨rfl, rfl⟩, rfl⟩))
  · rintro _ _ ⟨_, rfl⟩; exact hFP
  · rintro _ _ ⟨rfl, rfl⟩; exact kk
theorem cellsAt_get (f : Nat → CV) : ∀ (n k j : Nat), j < n → ofL (cellsAt f 0 k n) j = f (k + j)
  | n + 1, k, 0, _ => by
    show f (0 + k) = f (k + 0)
    rw [Nat.zero_add, Nat.add_zero]
  | n + 1, k, j + 1, h => by
    show ofL (cellsAt f 0 (k + 1) n) j = _
    rw [cellsAt_get f n (k + 1) j (by omega)]
    congr 1
    omega
theorem cellsAt_all {p : CV → Bool} (f : Nat → CV) : ∀ (n k : Nat), (∀ j, k ≤ j → j < k + n → p (f j) = true) → (cellsAt f 0 k n).all p = true
  | 0, _, _ => rfl
  | n + 1, k, h => by
    show (p (f (0 + k)) && (cellsAt f 0 (k + 1) n).all p) = true
    rw [Nat.zero_add, h k (by omega) (by omega), cellsAt_all f n (k + 1) fun j h1 h2 => h j (by omega) (by omega)]
    rfl
/-- What copy leaves. -/
theorem copy_at (f f2 : Nat → CV) (off n j : Nat) : updF f off (cellsAt f2 0 0 n) j = if off ≤ j ∧ j < off + n then f2 (j - off) else f j := by
  by_cases h : off ≤ j ∧ j < off + n
  · rw [if_pos h]
    have := updF_in (cellsAt f2 0 0 n) f off (j - off) (by rw [cellsAt_len]; omega)
    rw [show off + (j - off) = j from by omega] at this
    rw [this, cellsAt_get f2 n 0 (j - off) (by omega), Nat.zero_add]
  · rw [if_neg h]
    exact updF_out _ f off j (by rw [cellsAt_len]; omega)
end
end Go.AI

/- rational.Make, bits.Mul of 1, slices.Repeat of one fraction. -/
namespace Go.AI
theorem aw_condC0 {E : Env} {K : List It} {σ : Sl} {h : Heap} {x y : Code} (k : aw E (.code y :: K) σ h) : aw E (.code (.cond (.const (.bool false)) x y) :: K) σ h := fun a w s => wp_cond_split (t := false) rfl (fun e => by cases e) (fun _ => k a w s)
theorem and_mask (x : Nat) (hx : x < 4294967296) : andZ .u64 (x : Int) 4294967295 = (x : Int) := by
  rw [andZ_eq]
  show IntKind.u64.wrap (((BitVec.ofInt 64 (x : Int) &&& BitVec.ofInt 64 (4294967295 : Int)).toNat : Nat) : Int) = _
  have : (BitVec.ofInt 64 (x : Int) &&& BitVec.ofInt 64 ((4294967295 : Nat) : Int)).toNat = x := by
    rw [BitVec.toNat_and, ofInt64, ofInt64, Nat.mod_eq_of_lt (show x < 18446744073709551616 by omega), Nat.mod_eq_of_lt (show 4294967295 < 18446744073709551616 by omega)]
    have := Nat.and_two_pow_sub_one_eq_mod x 32
    rw [show (2 : Nat) ^ 32 - 1 = 4294967295 from rfl] at this
    rw [this]
    exact Nat.mod_eq_of_lt hx
  rw [show (4294967295 : Int) = ((4294967295 : Nat) : Int) from rfl, this, IntKind.wrap_u64]
  omega
theorem wrap_nat64 {n : Nat} (h : n ≤ 9223372036854775807) : wrapZ .u64 (n : Int) = n ∧ wrapZ .i64 (n : Int) = n := ⟨by rw [wrapZ_eq, IntKind.wrap_u64]; omega, by rw [wrapZ_eq, wrap_i64 (by omega) (by omega)]⟩
end Go.AI
namespace Go.PN
open Go.AI
/-- i times the first fraction, and nothing behind. -/
def repF (p : List RD) (i j : Nat) : CV := if j < i * 3 then ratsF p (j % 3) else ofL [.bool false, .nils, .nils] (j % 3)
theorem rep_first (p : List RD) {q : Nat} (hq : q ≤ 1) : updF (fun j => ofL [.bool false, .nils, .nils] (j % 3)) 0 (cellsAt (ratsF p) 0 0 (q * 3)) = repF p q := by
  funext j
  rw [copy_at]
  unfold repF
  by_cases h : j < q * 3
  · rw [if_pos ⟨by omega, by omega⟩, if_pos h, Nat.sub_zero, Nat.mod_eq_of_lt (by omega)]
  · rw [if_neg (by omega), if_neg h]
theorem rep_first' (p : List RD) {q : Nat} (hq : q ≤ 1) : updF (fun j => [CV.bool false, .nils, .nils][j % 3]?.getD .any) 0 (cellsAt (ratsF p) 0 0 (q * 3)) = repF p q := by
  have := rep_first p hq
  simpa only [ofL_at] using this
theorem rep_step (p : List RD) {i q : Nat} (hq : q ≤ i) : updF (repF p i) (i * 3) (cellsAt (repF p i) 0 0 (q * 3)) = repF p (i + q) := by
  funext j
  rw [copy_at]
  by_cases h : i * 3 ≤ j ∧ j < i * 3 + q * 3
  · rw [if_pos h]
    unfold repF
    rw [if_pos (by omega), if_pos (by omega)]
    congr 1
    omega
  · rw [if_neg h]
    unfold repF
    by_cases h2 : j < i * 3
    · rw [if_pos h2, if_pos (by omega)]
    · rw [if_neg h2, if_neg (by omega)]
theorem rep_end (p : List RD) {n j : Nat} (hj : j < n * 3) : repF p n j = ratsF (List.replicate n (p.getD 0 rd0)) j := by
  unfold repF
  rw [if_pos hj]
  unfold ratsF lf
  rw [show j % 3 / 3 = 0 from by omega, Nat.mod_mod]
  have : (List.replicate n (p.getD 0 rd0)).getD (j / 3) rd0 = p.getD 0 rd0 := by
    rw [List.getD_eq_getElem?_getD, List.getElem?_replicate, if_pos (by omega)]; rfl
  rw [this]
theorem rep_solid {p : List RD} (hp : p.length = 1) {i k : Nat} (h : k ≤ i) : (cellsAt (repF p i) 0 0 (k * 3)).all CV.solid = true :=
  cellsAt_all _ _ _ fun j _ hj => by
    unfold repF
    rw [if_pos (by omega)]
    exact ratsF_solid p _ (by omega)
end Go.PN
namespace Go.Proofs.YtlpejaefobdajaaGreat
open Go.AI Go.PN
attribute [local irreducible] aw Fa Fh DrK
set_option maxHeartbeats 1600000 in
theorem rmake_fa (n d : Int) (h0 : -9223372036854775808 ≤ n) (h1 : n ≤ 9223372036854775807) (h2 : -9223372036854775808 ≤ d) (h3 : d ≤ 9223372036854775807) (hd : d ≠ 0) :
    Fa Tryz.prog 102 [.c (.int .i64 n), .c (.int .i64 d)] (.tup [.agg (rdc (rd ((n : Rat) / (d : Rat)))), .c .nilI]) := by
  have l1 := words_small (n := n.natAbs) (by omega)
  have l2 := words_small (n := d.natAbs) (by omega)
  have z := ieq_f hd
  refine fa_of_body Tryz.func102 rfl rfl (by simp [Tryz.ntmps102]) fun C hC => ?_
  simp only [initS, Nat.reduceAdd]
  refine yG z ?_
  refine yA z fun g4 hn_g4=>?_
  refine yG (oj z hn_g4) ?_
  refine yN (oj z hn_g4) ?_
  refine yG (oj z hn_g4) ?_
  refine yC (oj z hn_g4) (rsize_fa n h0 h1) ?_
  refine yG (oj z hn_g4) ?_
  refine yC (oj z hn_g4) (rsize_fa d h2 h3) ?_
  refine yG (oj z hn_g4) ?_
  refine yC (oj z hn_g4) (rform_fa _ n.natAbs d.natAbs ?_ ?_ ?_) ?_
  · omega
  · omega
  · omega
  rw [sq_make]
  refine yG (oj z hn_g4) ?_
  refine yW (oj z hn_g4) ?_
  refine yS (oj z hn_g4) ?_
  refine yG (oj z hn_g4) ?_
  refine yT hC (oj z hn_g4) ?_
  exact .tup ⟨.agg lerl_rd, .c .nilI, trivial⟩
set_option maxHeartbeats 1600000 in
theorem mul64_fa (n : Nat) (hn : n < 4294967296) : Fa Tryz.prog 188 [.c (.int .u64 1), .c (.int .u64 n)] (.tup [.c (.int .u64 0), .c (.int .u64 n)]) := by
  have e1 : andZ .u64 1 4294967295 = 1 := and_mask 1 (by omega)
  have e0 : andZ .u64 0 4294967295 = 0 := and_mask 0 (by omega)
  have e2 := and_mask n hn
  have f1 : (1 : Int) / 4294967296 = 0 := rfl
  have f0 : (0 : Int) / 4294967296 = 0 := rfl
  have f2 : (n : Int) / 4294967296 = 0 := by omega
  have m1 : (1 : Int) * (n : Int) = n := by omega
  have m0 : (0 : Int) * (n : Int) = 0 := by omega
  refine fa_of_body Tryz.func188 rfl rfl (by simp [Tryz.ntmps188]) fun C hC => ?_
  simp only [initS, Nat.reduceAdd]
  have a0 : (0 : Int) + 0 = 0 := rfl
  have q1 : (1 : Int) * 0 = 0 := rfl
  have q0 : (0 : Int) * 0 = 0 := rfl
  refine yG (oj e0 (oj e1 (oj e2 (oj f0 (oj f1 (oj f2 (oj m0 (oj m1 (oj a0 (oj q1 (oj q0 shr_u64_32))))))))))) ?_
  refine yT hC (oj e0 (oj e1 (oj e2 (oj f0 (oj f1 (oj f2 (oj m0 (oj m1 (oj a0 (oj q1 (oj q0 shr_u64_32))))))))))) ?_
  exact .tup ⟨.c (.int _ _), .c (.int _ _), trivial⟩
set_option maxHeartbeats 1600000 in
theorem mul_fa1 (n : Nat) (hn : n < 4294967296) : Fa Tryz.prog 148 [.c (.int .u64 1), .c (.int .u64 n)] (.tup [.c (.int .u64 0), .c (.int .u64 n)]) := by
  refine fa_of_body Tryz.func148 rfl rfl (by simp [Tryz.ntmps148]) fun C hC => ?_
  simp only [initS, Nat.reduceAdd]
  refine xG ?_
  refine aw_condC0 ?_
  refine xG ?_
  refine xC (mul64_fa n hn) ?_
  refine xG ?_
  refine xT hC ?_
  exact .tup ⟨.c (.int _ _), .c (.int _ _), trivial⟩
set_option maxRecDepth 100000 in
set_option maxHeartbeats 3200000 in
theorem repeat_fa (p : List RD) (hp : p.length = 1) (n : Nat) (hn : n ≤ 1000) : Fa Tryz.prog 103 [.c (rats false p), .c (.int .i64 n)] (.c (rats true (List.replicate n (p.getD 0 rd0)))) := by
  obtain ⟨w1, w2⟩ := wrap_nat64 (n := n) (by omega)
  have w3 : wrapZ .u64 1 = 1 := (wrap_nat64 (n := 1) (by omega)).1
  have hp1 : (p.length : Int) = 1 := by omega
  have z1 : decide ((n : Int) < 0) = false := decide_eq_false (by omega)
  have z2 : decide ((n : Int) > 9223372036854775807) = false := decide_eq_false (by omega)
  have z3 : decide ((0 : Int) > 0) = false := rfl
  refine fa_of_body Tryz.func103 rfl rfl (by simp [Tryz.ntmps103]) fun C hC => ?_
  simp only [initS, Nat.reduceAdd]
  refine yG (oj w1 (oj w2 (oj w3 (oj hp1 (oj z1 (oj z2 z3)))))) ?_
  refine yN (oj w1 (oj w2 (oj w3 (oj hp1 (oj z1 (oj z2 z3)))))) ?_
  refine yG (oj w1 (oj w2 (oj w3 (oj hp1 (oj z1 (oj z2 z3)))))) ?_
  refine yC (oj w1 (oj w2 (oj w3 (oj hp1 (oj z1 (oj z2 z3)))))) (mul_fa1 n ?_) ?_
  · omega
  refine yG (oj w1 (oj w2 (oj w3 (oj hp1 (oj z1 (oj z2 z3)))))) ?_
  refine yN (oj w1 (oj w2 (oj w3 (oj hp1 (oj z1 (oj z2 z3)))))) ?_
  refine yG (oj w1 (oj w2 (oj w3 (oj hp1 (oj z1 (oj z2 z3)))))) ?_
  refine aw_make (n := n) (c := n) (size := 3) (z := [.bool false, .nils, .nils]) rfl rfl rfl (zE (oj w1 (oj w2 (oj w3 (oj hp1 (oj z1 (oj z2 z3))))))) (zE (oj w1 (oj w2 (oj w3 (oj hp1 (oj z1 (oj z2 z3))))))) rfl (by omega) (zE (oj w1 (oj w2 (oj w3 (oj hp1 (oj z1 (oj z2 z3))))))) (zE (oj w1 (oj w2 (oj w3 (oj hp1 (oj z1 (oj z2 z3))))))) rfl rfl (by omega) (by omega) (by omega) fun g hn_g => ?_
  refine yS (oj w1 (oj w2 (oj w3 (oj hp1 (oj z1 (oj z2 z3)))))) ?_
  refine yG (oj w1 (oj w2 (oj w3 (oj hp1 (oj z1 (oj z2 z3)))))) ?_
  refine aw_copyS (n := n) (m := n * 3) (k := p.length) (q := min p.length n) (g := g) (off := 0) (f2 := ratsF p) rfl rfl rfl (zE (oj w1 (oj w2 (oj w3 (oj hp1 (oj z1 (oj z2 z3))))))) (zE (oj w1 (oj w2 (oj w3 (oj hp1 (oj z1 (oj z2 z3))))))) (zE (oj w1 (oj w2 (oj w3 (oj hp1 (oj z1 (oj z2 z3))))))) (zE (oj w1 (oj w2 (oj w3 (oj hp1 (oj z1 (oj z2 z3))))))) .row rfl (by omega) (cellsAt_all _ _ _ fun j _ hj => ratsF_solid p _ (by omega)) (zE (oj w1 (oj w2 (oj w3 (oj hp1 (oj z1 (oj z2 z3))))))) ?_
  rw [rep_first' p (q := min p.length n) (by omega)]
  refine yS (oj w1 (oj w2 (oj w3 (oj hp1 (oj z1 (oj z2 z3)))))) ?_
  refine yG (oj w1 (oj w2 (oj w3 (oj hp1 (oj z1 (oj z2 z3)))))) ?_
  refine aw_lp (fun i : Nat => [(7, .c (.osl g 3 0 n)), (8, .c (.int .i64 i))]) (fun i => [(g, .cells 33 (n * 3) (repF p i))]) (fun i => i ≤ n ∧ (n ≠ 0 → 1 ≤ i)) (fun i => n - i) (min p.length n) (zB (oj w1 (oj w2 (oj w3 (oj hp1 (oj z1 (oj z2 z3))))))) zZ ⟨by omega, by omega⟩ ?_
  rintro i ⟨hi, hi1⟩
  refine yG (oj w1 (oj w2 (oj w3 (oj hp1 (oj z1 (oj z2 z3)))))) ?_
  refine yF (oj w1 (oj w2 (oj w3 (oj hp1 (oj z1 (oj z2 z3)))))) (fun h1=>?_) fun h1=>?_
  · have h1' : i < n := by have := of_decide_eq_true h1; omega
    refine yG (oj w1 (oj w2 (oj w3 (oj hp1 (oj z1 (oj z2 z3)))))) ?_
    refine aw_cw ([]) [(0,0),(1,0),(2,0),(3,0),(4,0),(5,0),(6,0),(7,1),(8,0),(9,0)] ty_mixed (by kernel_rfl) eI ?_
    refine yG (oj w1 (oj w2 (oj w3 (oj hp1 (oj z1 (oj z2 z3)))))) ?_
    refine cw_copyS (n := n - i) (m := n * 3) (k := i) (q := min i (n - i)) (g := g) (off := i * 3) (f := repF p i) (f2 := repF p i) rfl rfl rfl rfl (zE (oj w1 (oj w2 (oj w3 (oj hp1 (oj z1 (oj z2 z3))))))) (zE (oj w1 (oj w2 (oj w3 (oj hp1 (oj z1 (oj z2 z3))))))) (zE (oj w1 (oj w2 (oj w3 (oj hp1 (oj z1 (oj z2 z3))))))) (zE (oj w1 (oj w2 (oj w3 (oj hp1 (oj z1 (oj z2 z3))))))) (.osl (m := n * 3) (zE (oj w1 (oj w2 (oj w3 (oj hp1 (oj z1 (oj z2 z3))))))) (by omega) (fun j _ => by rw [Nat.zero_add])) rfl (by omega) (rep_solid hp (by omega)) (zE (oj w1 (oj w2 (oj w3 (oj hp1 (oj z1 (oj z2 z3))))))) has0_nil ?_ (hmk := .inr ⟨rfl, rfl⟩)
    rw [rep_step p (by omega)]
    refine yS (oj w1 (oj w2 (oj w3 (oj hp1 (oj z1 (oj z2 z3)))))) ?_
    refine yG (oj w1 (oj w2 (oj w3 (oj hp1 (oj z1 (oj z2 z3)))))) ?_
    exact aw_stop ⟨i + min i (n - i), by omega, (zB (oj w1 (oj w2 (oj w3 (oj hp1 (oj z1 (oj z2 z3))))))), zZ, by omega, by omega⟩
  · have h1' : i = n := by have := of_decide_eq_false h1; omega
    subst h1'
    refine yG (oj w1 (oj w2 (oj w3 (oj hp1 (oj z1 (oj z2 z3)))))) ?_
    refine aw_convR (f' := ratsF (List.replicate i (p.getD 0 rd0))) (fun j hj S w u h => by rw [← rep_end p hj]; exact h) ?_
    refine yT hC (oj w1 (oj w2 (oj w3 (oj hp1 (oj z1 (oj z2 z3)))))) ?_
    exact .one (.c (ler_oslr2 (zE (oj w1 (oj w2 (oj w3 (oj hp1 (oj z1 (oj z2 z3))))))) (by simp)))
end Go.Proofs.YtlpejaefobdajaaGreat

/- birnbaum.Structural and its reference. -/
namespace Go.Proofs.YtlpejaefobdajaaGreat
open Go.AI Go.PN
attribute [local irreducible] aw Fa Fh DrK
/-- One half. -/
abbrev halfR : RD := rd (((1 : Int) : Rat) / ((2 : Int) : Rat))
theorem half_fits : fits (((1 : Int) : Rat) / ((2 : Int) : Rat)) 1 := ⟨by decide +kernel, by decide +kernel⟩
theorem half_wf : halfR.wf 4 := rd_wf (fits_mono half_fits (by omega))
theorem half_prob : halfR.prob = true := rd_prob (by decide +kernel) (by decide +kernel)
/-- Probabilities that are all one half. -/
abbrev halves (d : DG) : List RD := List.replicate d.order.length halfR
theorem halves_code {d : DG} (h : dcode d = 0) : dpcode d (halves d) = 0 := by
  unfold dpcode
  rw [if_neg (by simpa using h)]
  unfold pcode
  rw [if_neg (by simp), if_pos]
  rw [List.all_eq_true]
  intro r hr
  rw [List.eq_of_mem_replicate hr]
  exact half_prob
theorem halves_small {d : DG} (h : dcode d = 0) (h6 : d.order.length ≤ 6) : Small d (halves d) := by
  have := (dg_ok h).n4096
  exact ⟨fun r hr => by rw [List.eq_of_mem_replicate hr]; exact half_wf, by simp; omega, by omega, by omega, fun _ => h6⟩
/-- The structural importances. -/
def strL (d : DG) : List RD := impL d (halves d) d.order.length
set_option maxRecDepth 100000 in
set_option maxHeartbeats 3200000 in
theorem structural_fa (d : DG) (hl1 : d.order.length ≤ 1099511627776) (hl2 : d.nodes.length ≤ 1099511627776) (h6 : dcode d = 0 → d.order.length ≤ 6) :
    Fa Tryz.prog 42 [.agg (dgc false d)] (.tup [.c (rats true (if dcode d = 0 then strL d else [])), .c (errA (dcode d))]) := by
  refine fa_of_body Tryz.func42 rfl rfl (by simp [Tryz.ntmps42]) fun C hC => ?_
  simp only [initS, Nat.reduceAdd]
  refine xG ?_
  refine xB fun g1 hn_g1=>?_
  refine yG hn_g1 ?_
  refine yC hn_g1 (dcheck_fa d hl1 hl2) ?_
  refine yG hn_g1 ?_
  refine yF hn_g1 (fun h0=>?_) fun h0=>?_
  · have h0' : dcode d ≠ 0 := by simpa using h0
    rw [if_neg h0']
    refine yG hn_g1 ?_
    refine yT hC hn_g1 ?_
    exact .tup ⟨.c .nils, .c ler_err, trivial⟩
  have h0' : dcode d = 0 := by simpa using h0
  rw [if_pos h0', h0']
  have ho := h6 h0'
  have B := birnbaum_fa d (halves d) (halves_small h0' ho)
  rw [if_pos (halves_code h0'), halves_code h0', List.length_replicate] at B
  change Fa Tryz.prog _ _ (.tup [.c (rats true (strL d)), .c .nilI]) at B
  have R := repeat_fa [halfR] rfl d.order.length (by omega)
  change Fa Tryz.prog _ _ (.c (rats true (halves d))) at R
  have M := rmake_fa 1 2 (by omega) (by omega) (by omega) (by omega) (by omega)
  change Fa Tryz.prog _ _ (.tup [.agg (rdc halfR), .c .nilI]) at M
  generalize halves d = P at *
  generalize halfR = x at *
  refine yG hn_g1 ?_
  refine yC hn_g1 (M) ?_
  refine yG hn_g1 ?_
  refine yA hn_g1 fun g5 hn_g5=>?_
  refine yG (oj hn_g1 hn_g5) ?_
  refine yW (oj hn_g1 hn_g5) ?_
  refine yS (oj hn_g1 hn_g5) ?_
  refine yG (oj hn_g1 hn_g5) ?_
  refine yN (oj hn_g1 hn_g5) ?_
  refine yG (oj hn_g1 hn_g5) ?_
  refine aw_cw ([(g1, .cells 25 3 (ofL (dgc false d))), (g5, .cells 33 3 (ofL (rdc x)))]) [(0,0),(1,0),(3,0),(4,0),(5,0),(2,1),(6,1),(7,0),(8,0),(9,0),(10,0),(11,0)] ty_mixed (by kernel_rfl) eI ?_
  refine yG (oj hn_g1 hn_g5) ?_
  refine cw_buildSlice (xs := [.tmp 20]) (cells := rdc x) rfl rfl rfl rfl (zE (oj hn_g1 hn_g5)) (by refine yS (oj hn_g1 hn_g5) ?_; rfl) rfl (by omega) (by omega) (by intro x hx; simp only [List.mem_singleton] at hx; subst hx; exact ⟨rfl, rfl, rfl⟩) rfl (by simp [Op.operands]) eI (fun g24 hn_g24 => ?_) (hm := .inr ⟨rfl, rfl⟩)
  refine yS (oj hn_g1 hn_g5) ?_
  refine cw_callqP rfl R rfl rfl rfl (by refine yS (oj hn_g1 hn_g5) ?_; exact ⟨.c (.osl (m := 3) (zE (oj hn_g1 hn_g5)) (by omega) (fun j hj => by match j, hj with | 0, _ => exact .refl _ | 1, _ => exact .refl _ | 2, _ => exact .refl _)), .c (.refl _)⟩) eI ?_ (hm := .inr ⟨rfl, rfl⟩)
  refine yS (oj hn_g1 hn_g5) ?_
  refine yG (oj hn_g1 hn_g5) ?_
  refine cw_callq rfl B rfl rfl rfl (fun _ _ => (zL (oj hn_g1 hn_g5))) ?_
  refine yS (oj hn_g1 hn_g5) ?_
  refine yG (oj hn_g1 hn_g5) ?_
  refine yT hC (oj hn_g1 hn_g5) ?_
  exact .tup ⟨.c ler_rats, .c .nilI, trivial⟩
set_option maxRecDepth 100000 in
set_option maxHeartbeats 3200000 in
theorem structural42_fa (d : DG) (h0 : dcode d = 0) (h6 : d.order.length ≤ 6) : Fa Tryz.prog 44 [.agg (dgc false d)] (.c (rats true (strL d))) := by
  have B := birnbaum42_fa d (halves d) (halves_small h0 h6) (halves_code h0)
  rw [List.length_replicate] at B
  change Fa Tryz.prog _ _ (.c (rats true (strL d))) at B
  refine fa_of_body Tryz.func44 rfl rfl (by simp [Tryz.ntmps44]) fun C hC => ?_
  simp only [initS, Nat.reduceAdd]
  refine xG ?_
  refine xB fun g1 hn_g1=>?_
  refine yG hn_g1 ?_
  refine yC hn_g1 (smake_fa 1 2 ?_ ?_ ?_ ?_ ?_) ?_
  · omega
  · omega
  · omega
  · omega
  · omega
  refine yG hn_g1 ?_
  refine yA hn_g1 fun g3 hn_g3=>?_
  refine yG (oj hn_g1 hn_g3) ?_
  refine yW (oj hn_g1 hn_g3) ?_
  refine yS (oj hn_g1 hn_g3) ?_
  refine yG (oj hn_g1 hn_g3) ?_
  obtain ⟨x, hx⟩ : ∃ x, x = halfR := ⟨_, rfl⟩
  rw [show rd (((1 : Int) : Rat) / ((2 : Int) : Rat)) = x from hx.symm]
  refine aw_lp (fun y : Option Nat × Nat => [(1, .c (.optr g1 0)), (3, .c (.optr g3 0)), (5, .c (gs y.1 3 y.2)), (6, .c (.int .i64 y.2))]) (fun y => (g3, .cells 33 3 (ofL (rdc x))) :: (g1, .cells 25 3 (ofL (dgc false d))) :: gh y.1 33 (y.2 * 3) (ratsF (List.replicate y.2 x)))
    (fun y => y.2 ≤ d.order.length ∧ (y.1 = none → y.2 = 0)) (fun y => d.order.length - y.2) (none, 0) (zB (oj hn_g1 hn_g3)) (by simp only [gh]; exact List.Sublist.refl _) ⟨Nat.zero_le _, fun _ => rfl⟩ ?_
  rintro ⟨og, k⟩ ⟨hk, hog⟩
  dsimp only at hk hog ⊢
  refine yG (oj hn_g1 hn_g3) ?_
  refine yF (oj hn_g1 hn_g3) (fun h1=>?_) fun h1=>?_
  · have h1' : k < d.order.length := by have := of_decide_eq_true h1; omega
    refine yG (oj hn_g1 hn_g3) ?_
    refine aw_push (pre := [(g3, .cells 33 3 (ofL (rdc x))), (g1, .cells 25 3 (ofL (dgc false d)))]) rfl rfl rfl rfl rfl rfl rfl (zE (oj hn_g1 hn_g3)) (zE (oj hn_g1 hn_g3)) (by rfl) (by omega) (by omega) (zE (oj hn_g1 hn_g3)) (by omega) (by exact hog) (zE (oj hn_g1 hn_g3)) (by rfl) (by rfl) (by first | rfl | simp only [Nat.mul_one, List.nil_append, List.cons_append] <;> rfl) (by unfold maxLen; omega) (by omega) (by exact rats_push (List.length_replicate ..) x) fun g hn_g => ?_
    replace hn_g := Heap.ne_of hn_g
    first | dsimp only [Heap.ne, gh] at hn_g | dsimp only [Heap.ne] at hn_g | skip
    refine yS (oj hn_g1 (oj hn_g3 hn_g)) ?_
    refine yG (oj hn_g1 (oj hn_g3 hn_g)) ?_
    refine aw_stop ⟨(some g, k + 1), by dsimp only; omega, (zB (oj hn_g1 (oj hn_g3 hn_g))), ?_, by dsimp only; omega, some_ne⟩
    rw [show List.replicate (k + 1) x = List.replicate k x ++ [x] from List.replicate_succ']
    exact List.Sublist.refl _
  · have h1' : k = d.order.length := by have := of_decide_eq_false h1; omega
    subst h1'
    refine yG (oj hn_g1 hn_g3) ?_
    refine aw_nd fun hnd => ?_
    rw [show halves d = List.replicate d.order.length x from by rw [hx]] at B
    refine aw_callq B rfl rfl rfl (by
      refine yS (oj hn_g1 hn_g3) ?_
      exact ⟨.agg (lel_refl _), .c (le_gsr (pre := [(g3, _), (g1, _)]) hog (fun g e => by
        subst e
        simp only [Heap.keys, gh, List.map_cons, List.map_nil, List.nodup_cons, List.mem_cons, List.not_mem_nil, or_false, not_or] at hnd
        simp only [Heap.keys, List.map_cons, List.map_nil, List.mem_cons, List.not_mem_nil, or_false, not_or]
        exact ⟨fun e => hnd.1.2 e.symm, fun e => hnd.2.1 e.symm⟩) (List.length_replicate ..))⟩) ?_
    refine yS (oj hn_g1 hn_g3) ?_
    refine yG (oj hn_g1 hn_g3) ?_
    refine yT hC (oj hn_g1 hn_g3) ?_
    exact .one (.c ler_rats)
end Go.Proofs.YtlpejaefobdajaaGreat

/- The law BirnbaumComputes. -/
namespace Go.Proofs.YtlpejaefobdajaaGreat
open Go.AI Go.PN
attribute [local irreducible] aw Fa Fh DrK
theorem impL_wf {d : DG} {p : List RD} (hs : Small d p) (h0 : dpcode d p = 0) (k : Nat) : ∀ x ∈ impL d p k, x.wf 68719476736 := fun x hx => by
  unfold impL at hx
  obtain ⟨i, _, rfl⟩ := List.mem_map.1 hx
  exact rd_wf (fits_mono (imp_fits hs h0 i) (by decide))
set_option maxRecDepth 100000 in
set_option maxHeartbeats 6400000 in
theorem lawComputes42_fa (haw : Fa Tryz.prog 14 [] (.c (.bool true))) (d : DG) (p : List RD) (hw : WordsOk p) (hl : p.length ≤ 1099511627776) (hl1 : d.order.length ≤ 1099511627776) (hl2 : d.nodes.length ≤ 1099511627776) :
    Fa Tryz.prog 8 [.agg (dgc false d), .c (rats false p)] (.c (.bool true)) := by
  refine fa_of_body Tryz.func8 rfl rfl (by simp [Tryz.ntmps8]) fun C hC => ?_
  simp only [initS, Nat.reduceAdd]
  refine xG ?_
  refine xB fun g2 hn_g2=>?_
  refine yG hn_g2 ?_
  refine yC hn_g2 (haw) ?_
  refine yG hn_g2 ?_
  refine yC hn_g2 (large42_fa d p hl hl1 hl2) ?_
  refine yG hn_g2 ?_
  refine yF hn_g2 (fun hb=>?_) fun hb=>?_
  · refine yG hn_g2 ?_
    refine yC hn_g2 (haw) ?_
    refine yG hn_g2 ?_
    refine yT hC hn_g2 ?_
    exact .one (.c (.bool _))
  have hs := small_of hw hl2 hb
  have six := six_of hb
  have B1 := birnbaum_fa d p hs
  have S1 := structural_fa d hl1 hl2 six
  by_cases hd : dcode d = 0
  · have z0 := ieq_t hd
    rw [if_pos hd, hd] at S1
    change Fa Tryz.prog _ _ (.tup [_, .c .nilI]) at S1
    have S2 := structural42_fa d hd (six hd)
    have sw : ∀ x ∈ strL d, x.wf 68719476736 := impL_wf (halves_small hd (six hd)) (halves_code hd) _
    have slen : (strL d).length ≤ 1099511627776 := by unfold strL; rw [impL_len]; omega
    have sR := rats_fa (strL d) (strL d) sw slen
    have e0 : decide (strL d = strL d) = true := by simp
    have hc : pcode p d.order.length = dpcode d p := by unfold dpcode; rw [if_neg (by simpa using hd)]
    generalize strL d = s at *
    by_cases h0 : dpcode d p = 0
    · have z1 := ieq_t h0
      obtain ⟨_, hpl, _⟩ := dp_ok h0
      rw [if_pos h0, h0] at B1
      change Fa Tryz.prog _ _ (.tup [_, .c .nilI]) at B1
      have B2 := birnbaum42_fa d p hs h0
      have bR := rats_fa (impL d p p.length) (impL d p p.length) (impL_wf hs h0 _) (by rw [impL_len]; omega)
      have e1 : decide (impL d p p.length = impL d p p.length) = true := by simp
      generalize impL d p p.length = b at *
      refine yG (oj hn_g2 (oj z0 (oj z1 (oj e0 (oj e1 hc))))) ?_
      refine yC (oj hn_g2 (oj z0 (oj z1 (oj e0 (oj e1 hc))))) (B1) ?_
      refine yG (oj hn_g2 (oj z0 (oj z1 (oj e0 (oj e1 hc))))) ?_
      refine yC (oj hn_g2 (oj z0 (oj z1 (oj e0 (oj e1 hc))))) (S1) ?_
      refine yG (oj hn_g2 (oj z0 (oj z1 (oj e0 (oj e1 hc))))) ?_
      refine yC (oj hn_g2 (oj z0 (oj z1 (oj e0 (oj e1 hc))))) (dcheckR_fa d hl1 hl2) ?_
      refine yG (oj hn_g2 (oj z0 (oj z1 (oj e0 (oj e1 hc))))) ?_
      refine yN (oj hn_g2 (oj z0 (oj z1 (oj e0 (oj e1 hc))))) ?_
      refine yG (oj hn_g2 (oj z0 (oj z1 (oj e0 (oj e1 hc))))) ?_
      refine yC (oj hn_g2 (oj z0 (oj z1 (oj e0 (oj e1 hc))))) (S2) ?_
      refine yG (oj hn_g2 (oj z0 (oj z1 (oj e0 (oj e1 hc))))) ?_
      refine yC (oj hn_g2 (oj z0 (oj z1 (oj e0 (oj e1 hc))))) (sR) ?_
      refine yG (oj hn_g2 (oj z0 (oj z1 (oj e0 (oj e1 hc))))) ?_
      refine yN (oj hn_g2 (oj z0 (oj z1 (oj e0 (oj e1 hc))))) ?_
      refine yG (oj hn_g2 (oj z0 (oj z1 (oj e0 (oj e1 hc))))) ?_
      refine yC (oj hn_g2 (oj z0 (oj z1 (oj e0 (oj e1 hc))))) (check37_fa p d.order.length hs.w5 hl) ?_
      refine yG (oj hn_g2 (oj z0 (oj z1 (oj e0 (oj e1 hc))))) ?_
      refine yN (oj hn_g2 (oj z0 (oj z1 (oj e0 (oj e1 hc))))) ?_
      refine yG (oj hn_g2 (oj z0 (oj z1 (oj e0 (oj e1 hc))))) ?_
      refine yC (oj hn_g2 (oj z0 (oj z1 (oj e0 (oj e1 hc))))) (B2) ?_
      refine yG (oj hn_g2 (oj z0 (oj z1 (oj e0 (oj e1 hc))))) ?_
      refine yC (oj hn_g2 (oj z0 (oj z1 (oj e0 (oj e1 hc))))) (bR) ?_
      refine yG (oj hn_g2 (oj z0 (oj z1 (oj e0 (oj e1 hc))))) ?_
      refine yT hC (oj hn_g2 (oj z0 (oj z1 (oj e0 (oj e1 hc))))) ?_
      exact .one (.c (.bool _))
    · have z1 := ieq_f h0
      have zz := ieq_t (show ((0 : Nat) : Int) = 0 from rfl)
      rw [if_neg h0] at B1
      have y1 := ieq_t (rfl : dpcode d p = dpcode d p)
      refine yG (oj hn_g2 (oj z0 (oj z1 (oj e0 (oj hc (oj y1 zz)))))) ?_
      refine yC (oj hn_g2 (oj z0 (oj z1 (oj e0 (oj hc (oj y1 zz)))))) (B1) ?_
      refine yG (oj hn_g2 (oj z0 (oj z1 (oj e0 (oj hc (oj y1 zz)))))) ?_
      refine yC (oj hn_g2 (oj z0 (oj z1 (oj e0 (oj hc (oj y1 zz)))))) (S1) ?_
      refine yG (oj hn_g2 (oj z0 (oj z1 (oj e0 (oj hc (oj y1 zz)))))) ?_
      refine yC (oj hn_g2 (oj z0 (oj z1 (oj e0 (oj hc (oj y1 zz)))))) (dcheckR_fa d hl1 hl2) ?_
      refine yG (oj hn_g2 (oj z0 (oj z1 (oj e0 (oj hc (oj y1 zz)))))) ?_
      refine yN (oj hn_g2 (oj z0 (oj z1 (oj e0 (oj hc (oj y1 zz)))))) ?_
      refine yG (oj hn_g2 (oj z0 (oj z1 (oj e0 (oj hc (oj y1 zz)))))) ?_
      refine yC (oj hn_g2 (oj z0 (oj z1 (oj e0 (oj hc (oj y1 zz)))))) (S2) ?_
      refine yG (oj hn_g2 (oj z0 (oj z1 (oj e0 (oj hc (oj y1 zz)))))) ?_
      refine yC (oj hn_g2 (oj z0 (oj z1 (oj e0 (oj hc (oj y1 zz)))))) (sR) ?_
      refine yG (oj hn_g2 (oj z0 (oj z1 (oj e0 (oj hc (oj y1 zz)))))) ?_
      refine yN (oj hn_g2 (oj z0 (oj z1 (oj e0 (oj hc (oj y1 zz)))))) ?_
      refine yG (oj hn_g2 (oj z0 (oj z1 (oj e0 (oj hc (oj y1 zz)))))) ?_
      refine yC (oj hn_g2 (oj z0 (oj z1 (oj e0 (oj hc (oj y1 zz)))))) (check37_fa p d.order.length hs.w5 hl) ?_
      refine yG (oj hn_g2 (oj z0 (oj z1 (oj e0 (oj hc (oj y1 zz)))))) ?_
      refine yP (oj hn_g2 (oj z0 (oj z1 (oj e0 (oj hc (oj y1 zz)))))) ?_
      refine yG (oj hn_g2 (oj z0 (oj z1 (oj e0 (oj hc (oj y1 zz)))))) ?_
      refine yC (oj hn_g2 (oj z0 (oj z1 (oj e0 (oj hc (oj y1 zz)))))) (num_fa (dpcode d p)) ?_
      refine yG (oj hn_g2 (oj z0 (oj z1 (oj e0 (oj hc (oj y1 zz)))))) ?_
      refine yT hC (oj hn_g2 (oj z0 (oj z1 (oj e0 (oj hc (oj y1 zz)))))) ?_
      exact .one (.c (.bool _))
  · have z0 := ieq_f hd
    have hdp : dpcode d p = dcode d := by unfold dpcode; rw [if_pos hd]
    rw [if_neg (by rw [hdp]; exact hd), hdp] at B1
    rw [if_neg hd] at S1
    have y1 := ieq_t (rfl : dcode d = dcode d)
    have zz := ieq_t (show ((0 : Nat) : Int) = 0 from rfl)
    refine yG (oj hn_g2 (oj z0 (oj y1 zz))) ?_
    refine yC (oj hn_g2 (oj z0 (oj y1 zz))) (B1) ?_
    refine yG (oj hn_g2 (oj z0 (oj y1 zz))) ?_
    refine yC (oj hn_g2 (oj z0 (oj y1 zz))) (S1) ?_
    refine yG (oj hn_g2 (oj z0 (oj y1 zz))) ?_
    refine yC (oj hn_g2 (oj z0 (oj y1 zz))) (dcheckR_fa d hl1 hl2) ?_
    refine yG (oj hn_g2 (oj z0 (oj y1 zz))) ?_
    refine yP (oj hn_g2 (oj z0 (oj y1 zz))) ?_
    refine yG (oj hn_g2 (oj z0 (oj y1 zz))) ?_
    refine yC (oj hn_g2 (oj z0 (oj y1 zz))) (num_fa (dcode d)) ?_
    refine yG (oj hn_g2 (oj z0 (oj y1 zz))) ?_
    refine yC (oj hn_g2 (oj z0 (oj y1 zz))) (num_fa (dcode d)) ?_
    refine yG (oj hn_g2 (oj z0 (oj y1 zz))) ?_
    refine yT hC (oj hn_g2 (oj z0 (oj y1 zz))) ?_
    exact .one (.c (.bool _))
end Go.Proofs.YtlpejaefobdajaaGreat
