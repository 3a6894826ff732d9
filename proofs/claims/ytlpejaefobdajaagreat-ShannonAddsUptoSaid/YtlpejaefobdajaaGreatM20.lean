/- Texts of one proof, laid one behind the other by a program (merge.py): PBir, Frm1, Frm2, Add0, PTab, PTab3. -/
import Derived.Test.YtlpejaefobdajaaGreatM18
import Derived.Test.YtlpejaefobdajaaGreatM19
import Derived.Test.YtlpejaefobdajaaGreatM16
import Derived.Test.YtlpejaefobdajaaGreatM15
import Derived.Test.YtlpejaefobdajaaGreatM17
set_option linter.unusedSimpArgs false
set_option linter.unusedVariables false
/- Importances: what they are. No program in sight. -/
namespace Go.Proofs.YtlpejaefobdajaaGreat
open Go.AI Go.PN
/-- The probability. -/
abbrev prS (d : DG) (p : List RD) : Rat := sumQ p (tabL d) (2 ^ p.length)
/-- The importance of event i. -/
def impQ (d : DG) (p : List RD) (i : Nat) : Rat := prS d (p.set i (rd 1)) - prS d (p.set i rd0)
theorem rd1_wf : (rd (1 : Rat)).wf 4 := rd_wf (fits_mono fits_one (by omega))
theorem rd0_wf4 : rd0.wf 4 := by
  have := rd_wf (q := 0) (L := 4) (fits_mono fits_zero (by omega))
  rwa [rd_zero] at this
theorem rd_prob {q : Rat} (h0 : 0 ≤ q) (h1 : q ≤ 1) : (rd q).prob = true := by
  unfold RD.prob
  rw [rd_q, decide_eq_true h0, decide_eq_true h1, rd_valid]
  rfl
theorem rd1_prob : (rd (1 : Rat)).prob = true := rd_prob (by decide) (by decide)
theorem rd0_prob : rd0.prob = true := by
  have := rd_prob (q := 0) (by decide) (by decide)
  rwa [rd_zero] at this
theorem dp_set {d : DG} {p : List RD} (h : dpcode d p = 0) {i : Nat} {q : RD} (hq : q.prob = true) : dpcode d (p.set i q) = 0 := by
  have h0 := dp_ok h
  unfold dpcode at h ⊢
  split at h
  · rename_i h1; exact absurd h h1
  · rename_i h1
    rw [if_neg h1]
    unfold pcode
    rw [List.length_set, if_neg (by omega), if_pos]
    rw [List.all_eq_true]
    intro r hr
    rcases List.mem_or_eq_of_mem_set hr with hr | rfl
    · exact h0.2.2 r hr
    · exact hq
theorem Small.set {d : DG} {p : List RD} (hs : Small d p) (h : dpcode d p = 0) {i : Nat} {q : RD} (hq : q.wf 4) : Small d (p.set i q) :=
  ⟨fun r hr => by
    rcases List.mem_or_eq_of_mem_set hr with hr | rfl
    · exact hs.w r hr
    · exact hq, by rw [List.length_set]; exact hs.l, hs.o, hs.n, fun _ => hs.o6 h⟩
theorem pr_fits {d : DG} {p : List RD} (hs : Small d p) (h0 : dpcode d p = 0) : fits (prS d p) 4000 := by
  have h6 := hs.o6 h0
  obtain ⟨ok, hpl, _⟩ := dp_ok h0
  refine fits_mono (fits_sum (L := 4) (by omega) hs.w _) ?_
  have h3 : 2 ^ p.length ≤ 2 ^ 6 := Nat.pow_le_pow_right (by omega) (by omega)
  have h4 := Nat.mul_le_mul (show (2 * 4 + 2) * p.length + 2 ≤ 62 from by omega) h3
  omega
theorem imp_fits {d : DG} {p : List RD} (hs : Small d p) (h0 : dpcode d p = 0) (i : Nat) : fits (impQ d p i) 9000 := by
  have f1 := pr_fits (hs.set h0 (i := i) rd1_wf) (dp_set h0 rd1_prob)
  have f2 := pr_fits (hs.set h0 (i := i) rd0_wf4) (dp_set h0 rd0_prob)
  exact fits_mono (fits_sub f1 f2) (by omega)
/-- The error of a diagram, probabilities and events. -/
def bcode (d : DG) (p : List RD) (es : List Int) : Int := if dpcode d p ≠ 0 then dpcode d p else if es.all (fun i => decide (0 ≤ i) && decide (i < d.order.length)) then 0 else 10
theorem le_oslr2 {h : Heap} {g n : Nat} {ty : TypeId} {W : List RD} (hg : h.get g = some (.cells ty (n * 3) (ratsF W))) (hn : n = W.length) : LeC h (.osl g 3 0 n) (rats false W) := by
  subst hn
  exact .osl hg (by omega) (fun j _ => by rw [Nat.zero_add]; exact .refl _)
/-- The importances of the first k events. -/
def impL (d : DG) (p : List RD) (k : Nat) : List RD := (List.range k).map fun i => rd (impQ d p i)
theorem impL_len (d : DG) (p : List RD) (k : Nat) : (impL d p k).length = k := by simp [impL]
theorem impL_succ (d : DG) (p : List RD) (k : Nat) : impL d p (k + 1) = impL d p k ++ [rd (impQ d p k)] := by simp [impL, List.range_succ]
end Go.Proofs.YtlpejaefobdajaaGreat

/- faultlineref08: Of, Values, Value. -/
namespace Go.PN
open Go.AI
def ofB (f : FM) (vs : List Bool) (s : Nat) (a : Int) : Bool := if a < f.vars then s.testBit a.toNat else vs.getD (a - f.vars).toNat false
def cntB (f : FM) (vs : List Bool) (s : Nat) (az : List Int) : Nat := (az.filter fun a => ofB f vs s a).length
noncomputable def nodeB (f : FM) (vs : List Bool) (s : Nat) (x : FN) : Bool :=
  if x.kind == 0 then x.k == 1 else if x.kind == 1 then ((cntB f vs s x.args : Nat) : Int) == 0 else if x.kind == 2 then ((cntB f vs s x.args : Nat) : Int) == (x.args.length : Int)
  else if x.kind == 3 then decide (((cntB f vs s x.args : Nat) : Int) > 0) else if x.kind == 4 then decide (((cntB f vs s x.args : Nat) : Int) ≥ x.k) else remZ ((cntB f vs s x.args : Nat) : Int) 2 == 1
noncomputable def fvTo (f : FM) (s : Nat) : Nat → List Bool
  | 0 => List.replicate f.nodes.length false
  | k + 1 => (fvTo f s k).set k (nodeB f (fvTo f s k) s (f.nodes.getD k fn0))
theorem fvTo_len (f : FM) (s : Nat) : ∀ k, (fvTo f s k).length = f.nodes.length
  | 0 => by simp [fvTo]
  | k + 1 => by simp [fvTo, fvTo_len f s k]
/-- What a formula must be that its values can be asked for. -/
structure FmOk (f : FM) : Prop where
  v0 : 0 ≤ f.vars
  v1 : f.vars ≤ 62
  n : f.nodes.length ≤ 1000000
  a : ∀ x ∈ f.nodes, x.args.length ≤ 1000000 ∧ ∀ y ∈ x.args, 0 ≤ y ∧ y < f.vars + f.nodes.length
  t0 : 0 ≤ f.top
  t1 : f.top < f.vars + f.nodes.length
theorem le_oslbs {h : Heap} {g n : Nat} {ty : TypeId} {ys : List Bool} (hg : h.get g = some (.cells ty n (bsF ys))) (hn : n = ys.length) : LeC h (.osl g 1 0 n) (bs false ys) := by
  subst hn
  exact .osl hg (by omega) (fun j _ => by rw [Nat.zero_add]; exact .refl _)
theorem ler_oslbs {h : Heap} {t : Bool} {g n : Nat} {ty : TypeId} {ys : List Bool} (hg : h.get g = some (.cells ty n (bsF ys))) (hn : n = ys.length) : LeR h (.osl g 1 0 n) (bs t ys) := by
  subst hn
  exact .osl hg (by omega) (fun j _ => by rw [Nat.zero_add]; exact .bool _)
theorem cnt_take {f : FM} {vs : List Bool} {s : Nat} {az : List Int} {j : Nat} (h : j < az.length) : cntB f vs s (az.take (j + 1)) = cntB f vs s (az.take j) + if ofB f vs s (az.getD j 0) then 1 else 0 := by
  unfold cntB
  rw [List.take_succ_eq_append_getElem h, List.filter_append, List.length_append, getDZ h]
  congr 1
  by_cases hb : ofB f vs s az[j] = true
  · simp [hb]
  · simp [hb]
theorem cnt_le {f : FM} {vs : List Bool} {s : Nat} {az : List Int} : cntB f vs s az ≤ az.length := List.length_filter_le _ _
theorem getFN {xs : List FN} {i : Nat} (h : i < xs.length) : xs.getD i fn0 = xs[i] := by
  rw [List.getD_eq_getElem?_getD, List.getElem?_eq_getElem h]; rfl
end Go.PN
namespace Go.Proofs.YtlpejaefobdajaaGreat
open Go.AI Go.PN
attribute [local irreducible] aw Fa Fh DrK
set_option maxHeartbeats 800000 in
theorem fof_fa (f : FM) (hf : FmOk f) (vs : List Bool) (s : Nat) (a : Int) (hs : s < 9223372036854775808) (hv : vs.length = f.nodes.length) (h0 : 0 ≤ a) (h1 : a < f.vars + f.nodes.length) : Fa Tryz.prog 164 [.agg (fmc false f), .c (bs false vs), .c (.int .i64 s), .c (.int .i64 a)] (.c (.bool (ofB f vs s a))) := by
  have f1 := hf.v0
  have f2 := hf.v1
  have f3 := hf.n
  unfold ofB
  refine fa_of_body Tryz.func164 rfl rfl (by simp [Tryz.ntmps164]) fun C hC => ?_
  simp only [initS, Nat.reduceAdd]
  refine xG ?_
  refine xB fun g4 hn_g4=>?_
  refine yG hn_g4 ?_
  refine yF hn_g4 (fun hb=>?_) fun hb=>?_
  · have hb' := of_decide_eq_true hb
    obtain ⟨k, rfl⟩ : ∃ k : Nat, a = k := ⟨a.toNat, by omega⟩
    have b1 := shrZ_nat s k (by omega)
    have b2 := and_one_nat (s / 2 ^ k) (Nat.lt_of_le_of_lt (Nat.div_le_self _ _) hs)
    have b3 := bit_eq s k
    refine yG (oj hn_g4 (oj b1 (oj b2 b3))) ?_
    refine yT hC (oj hn_g4 (oj b1 (oj b2 b3))) ?_
    exact .one (.c (ler_bool (by rw [if_pos hb']; rfl)))
  · have hb' := of_decide_eq_false hb
    refine yG hn_g4 ?_
    refine yT hC hn_g4 ?_
    exact .one (.c (ler_bool (by rw [if_neg hb'])))
set_option maxRecDepth 100000 in
set_option maxHeartbeats 3200000 in
theorem fvalues_fa (f : FM) (hf : FmOk f) (s : Nat) (hs : s < 9223372036854775808) : Fa Tryz.prog 165 [.agg (fmc false f), .c (.int .i64 s)] (.c (bs true (fvTo f s f.nodes.length))) := by
  have f1 := hf.v0
  have f2 := hf.v1
  have f3 := hf.n
  refine fa_of_body Tryz.func165 rfl rfl (by simp [Tryz.ntmps165]) fun C hC => ?_
  simp only [initS, Nat.reduceAdd]
  refine xG ?_
  refine xB fun g2 hn_g2=>?_
  refine yG hn_g2 ?_
  refine aw_make (n := f.nodes.length) (c := f.nodes.length) (size := 1) (z := [.bool false]) rfl rfl rfl (zE hn_g2) (zE hn_g2) rfl (by omega) (zE hn_g2) (zE hn_g2) rfl rfl (by omega) (by omega) (by omega) fun g hn_g => ?_
  replace hn_g := Heap.ne_of hn_g
  dsimp only [Heap.ne] at hn_g
  rw [make_bs f.nodes.length]
  refine yS (oj hn_g2 hn_g) ?_
  refine yG (oj hn_g2 hn_g) ?_
  refine aw_lp (fun i : Nat => [(1, .c (.int .i64 s)), (2, .c (.optr g2 0)), (5, .c (.osl g 1 0 f.nodes.length)), (16, .c (fns false f.nodes)), (17, .c (.int .i64 f.nodes.length)), (18, .c (.int .i64 i))]) (fun i => [(g, .cells 4 f.nodes.length (bsF (fvTo f s i))), (g2, .cells 79 3 (ofL (fmc false f)))]) (fun i => i ≤ f.nodes.length) (fun i => f.nodes.length - i) 0 (zB (oj hn_g2 hn_g)) zZ (Nat.zero_le _) ?_
  rintro i hi
  have hvl := fvTo_len f s i
  refine yG (oj hn_g2 hn_g) ?_
  refine yF (oj hn_g2 hn_g) (fun h1=>?_) fun h1=>?_
  · have h1' : i < f.nodes.length := by have := of_decide_eq_true h1; omega
    obtain ⟨ha1, ha2⟩ := hf.a (f.nodes.getD i fn0) (by rw [getFN h1']; exact List.getElem_mem h1')
    refine yG (oj hn_g2 hn_g) ?_
    refine yA (oj hn_g2 hn_g) fun g7 hn_g7=>?_
    refine yG (oj hn_g2 (oj hn_g hn_g7)) ?_
    refine yW (oj hn_g2 (oj hn_g hn_g7)) ?_
    refine yS (oj hn_g2 (oj hn_g hn_g7)) ?_
    have hst : fvTo f s (i + 1) = (fvTo f s i).set i (nodeB f (fvTo f s i) s (f.nodes.getD i fn0)) := rfl
    generalize f.nodes.getD i fn0 = x at *
    generalize fvTo f s i = vs at *
    refine yG (oj hn_g2 (oj hn_g hn_g7)) ?_
    refine aw_lp (fun j : Nat => [(1, .c (.int .i64 s)), (2, .c (.optr g2 0)), (5, .c (.osl g 1 0 f.nodes.length)), (6, .c (.int .i64 i)), (7, .c (.optr g7 0)), (8, .c (.int .i64 (cntB f vs s (x.args.take j)))), (16, .c (fns false f.nodes)), (17, .c (.int .i64 f.nodes.length)), (18, .c (.int .i64 i)), (24, .c (is true x.args)), (25, .c (.int .i64 x.args.length)), (26, .c (.int .i64 j))]) (fun j => [(g7, .cells 89 3 (ofL [.int .i64 x.kind, .int .i64 x.k, is true x.args])), (g, .cells 4 f.nodes.length (bsF vs)), (g2, .cells 79 3 (ofL (fmc false f)))]) (fun j => j ≤ x.args.length) (fun j => x.args.length - j) 0 (zB (oj hn_g2 (oj hn_g hn_g7))) zZ (Nat.zero_le _) ?_
    rintro j hj
    have hc1 := cnt_le (f := f) (vs := vs) (s := s) (az := x.args.take j)
    rw [List.length_take] at hc1
    refine yG (oj hn_g2 (oj hn_g hn_g7)) ?_
    refine yF (oj hn_g2 (oj hn_g hn_g7)) (fun h2=>?_) fun h2=>?_
    · have h2' : j < x.args.length := by have := of_decide_eq_true h2; omega
      obtain ⟨y0, y1⟩ := ha2 (x.args.getD j 0) (by rw [getDZ h2']; exact List.getElem_mem h2')
      have hct := cnt_take (f := f) (vs := vs) (s := s) h2'
      refine yG (oj hn_g2 (oj hn_g hn_g7)) ?_
      refine aw_callq (fof_fa f hf vs s (x.args.getD j 0) hs hvl y0 y1) rfl rfl rfl (by refine yS (oj hn_g2 (oj hn_g hn_g7)) ?_; exact ⟨.agg (lel_refl _), .c (le_oslbs (zE (oj hn_g2 (oj hn_g hn_g7))) hvl.symm), .c (.refl _), .c (.refl _)⟩) ?_
      refine yS (oj hn_g2 (oj hn_g hn_g7)) ?_
      refine yG (oj hn_g2 (oj hn_g hn_g7)) ?_
      refine yF (oj hn_g2 (oj hn_g hn_g7)) (fun h3=>?_) fun h3=>?_
      · rw [h3, if_pos rfl] at hct
        refine yG (oj hn_g2 (oj hn_g hn_g7)) ?_
        exact aw_stop ⟨j + 1, by omega, (by rw [hct]; exact (zB (oj hn_g2 (oj hn_g hn_g7)))), zZ, by omega⟩
      · rw [h3, if_neg (by simp), Nat.add_zero] at hct
        refine yG (oj hn_g2 (oj hn_g hn_g7)) ?_
        exact aw_stop ⟨j + 1, by omega, (by rw [hct]; exact (zB (oj hn_g2 (oj hn_g hn_g7)))), zZ, by omega⟩
    · have h2' : j = x.args.length := by have := of_decide_eq_false h2; omega
      subst h2'
      rw [List.take_length]
      have hc2 := cnt_le (f := f) (vs := vs) (s := s) (az := x.args)
      refine yG (oj hn_g2 (oj hn_g hn_g7)) ?_
      refine yF (oj hn_g2 (oj hn_g hn_g7)) (fun k0=>?_) fun k0=>?_
      · refine yG (oj hn_g2 (oj hn_g hn_g7)) ?_
        refine yW (oj hn_g2 (oj hn_g hn_g7)) ?_
        refine yS (oj hn_g2 (oj hn_g hn_g7)) ?_
        rw [updF_bs (by omega)]
        refine yG (oj hn_g2 (oj hn_g hn_g7)) ?_
        exact aw_stop ⟨i + 1, by omega, (zB (oj hn_g2 (oj hn_g hn_g7))), List.Sublist.cons _ (by rw [hst, nodeB, if_pos k0]; exact zZ), by omega⟩
      · refine yG (oj hn_g2 (oj hn_g hn_g7)) ?_
        refine yF (oj hn_g2 (oj hn_g hn_g7)) (fun k1=>?_) fun k1=>?_
        · refine yG (oj hn_g2 (oj hn_g hn_g7)) ?_
          refine yW (oj hn_g2 (oj hn_g hn_g7)) ?_
          refine yS (oj hn_g2 (oj hn_g hn_g7)) ?_
          rw [updF_bs (by omega)]
          refine yG (oj hn_g2 (oj hn_g hn_g7)) ?_
          exact aw_stop ⟨i + 1, by omega, (zB (oj hn_g2 (oj hn_g hn_g7))), List.Sublist.cons _ (by rw [hst, nodeB, if_neg (by rw [k0]; simp), if_pos k1]; exact zZ), by omega⟩
        · refine yG (oj hn_g2 (oj hn_g hn_g7)) ?_
          refine yF (oj hn_g2 (oj hn_g hn_g7)) (fun k2=>?_) fun k2=>?_
          · refine yG (oj hn_g2 (oj hn_g hn_g7)) ?_
            refine yW (oj hn_g2 (oj hn_g hn_g7)) ?_
            refine yS (oj hn_g2 (oj hn_g hn_g7)) ?_
            rw [updF_bs (by omega)]
            refine yG (oj hn_g2 (oj hn_g hn_g7)) ?_
            exact aw_stop ⟨i + 1, by omega, (zB (oj hn_g2 (oj hn_g hn_g7))), List.Sublist.cons _ (by rw [hst, nodeB, if_neg (by rw [k0]; simp), if_neg (by rw [k1]; simp), if_pos k2]; exact zZ), by omega⟩
          · refine yG (oj hn_g2 (oj hn_g hn_g7)) ?_
            refine yF (oj hn_g2 (oj hn_g hn_g7)) (fun k3=>?_) fun k3=>?_
            · refine yG (oj hn_g2 (oj hn_g hn_g7)) ?_
              refine yW (oj hn_g2 (oj hn_g hn_g7)) ?_
              refine yS (oj hn_g2 (oj hn_g hn_g7)) ?_
              rw [updF_bs (by omega)]
              refine yG (oj hn_g2 (oj hn_g hn_g7)) ?_
              exact aw_stop ⟨i + 1, by omega, (zB (oj hn_g2 (oj hn_g hn_g7))), List.Sublist.cons _ (by rw [hst, nodeB, if_neg (by rw [k0]; simp), if_neg (by rw [k1]; simp), if_neg (by rw [k2]; simp), if_pos k3]; exact zZ), by omega⟩
            · refine yG (oj hn_g2 (oj hn_g hn_g7)) ?_
              refine yF (oj hn_g2 (oj hn_g hn_g7)) (fun k4=>?_) fun k4=>?_
              · refine yG (oj hn_g2 (oj hn_g hn_g7)) ?_
                refine yW (oj hn_g2 (oj hn_g hn_g7)) ?_
                refine yS (oj hn_g2 (oj hn_g hn_g7)) ?_
                rw [updF_bs (by omega)]
                refine yG (oj hn_g2 (oj hn_g hn_g7)) ?_
                exact aw_stop ⟨i + 1, by omega, (zB (oj hn_g2 (oj hn_g hn_g7))), List.Sublist.cons _ (by rw [hst, nodeB, if_neg (by rw [k0]; simp), if_neg (by rw [k1]; simp), if_neg (by rw [k2]; simp), if_neg (by rw [k3]; simp), if_pos k4]; exact zZ), by omega⟩
              · refine yG (oj hn_g2 (oj hn_g hn_g7)) ?_
                refine yW (oj hn_g2 (oj hn_g hn_g7)) ?_
                refine yS (oj hn_g2 (oj hn_g hn_g7)) ?_
                rw [updF_bs (by omega)]
                refine yG (oj hn_g2 (oj hn_g hn_g7)) ?_
                exact aw_stop ⟨i + 1, by omega, (zB (oj hn_g2 (oj hn_g hn_g7))), List.Sublist.cons _ (by rw [hst, nodeB, if_neg (by rw [k0]; simp), if_neg (by rw [k1]; simp), if_neg (by rw [k2]; simp), if_neg (by rw [k3]; simp), if_neg (by rw [k4]; simp)]; exact zZ), by omega⟩
  · have h1' : i = f.nodes.length := by have := of_decide_eq_false h1; omega
    subst h1'
    refine yG (oj hn_g2 hn_g) ?_
    refine yT hC (oj hn_g2 hn_g) ?_
    exact .one (.c (ler_oslbs (zE (oj hn_g2 hn_g)) hvl.symm))
noncomputable def fvalB (f : FM) (s : Nat) : Bool := ofB f (fvTo f s f.nodes.length) s f.top
set_option maxHeartbeats 800000 in
theorem fvalue_fa (f : FM) (hf : FmOk f) (s : Nat) (hs : s < 9223372036854775808) : Fa Tryz.prog 118 [.agg (fmc false f), .c (.int .i64 s)] (.c (.bool (fvalB f s))) := by
  refine fa_of_body Tryz.func118 rfl rfl (by simp [Tryz.ntmps118]) fun C hC => ?_
  simp only [initS, Nat.reduceAdd]
  refine xG ?_
  refine xB fun g2 hn_g2=>?_
  refine yG hn_g2 ?_
  refine aw_dr 9 ty_mixed (by kernel_rfl) ?_
  refine yG hn_g2 ?_
  refine yD hn_g2 (fvalues_fa f hf s hs) ?_
  refine yG hn_g2 ?_
  refine yD hn_g2 (fof_fa f hf (fvTo f s f.nodes.length) s f.top hs (fvTo_len f s _) hf.t0 hf.t1) ?_
  refine yG hn_g2 ?_
  refine yT hC hn_g2 ?_
  exact .one (.c (.bool _))
end Go.Proofs.YtlpejaefobdajaaGreat

/- faultlineref15.Formula. -/
namespace Go.PN
open Go.AI
noncomputable def formTo (f : FM) : Nat → List Bool
  | 0 => []
  | k + 1 => formTo f k ++ [fvalB' f k]
where fvalB' (f : FM) (k : Nat) : Bool := ofB f (fvTo f k f.nodes.length) k f.top
theorem formTo_len (f : FM) : ∀ k, (formTo f k).length = k
  | 0 => rfl
  | k + 1 => by simp [formTo, formTo_len f k]
end Go.PN
namespace Go.Proofs.YtlpejaefobdajaaGreat
open Go.AI Go.PN
attribute [local irreducible] aw Fa Fh DrK
set_option maxHeartbeats 1600000 in
theorem formula_fa (f : FM) (hf : FmOk f) (hv : f.vars ≤ 24) : Fa Tryz.prog 58 [.agg (fmc false f)] (.c (bs true (formTo f (2 ^ f.vars.toNat)))) := by
  have f1 := hf.v0
  have e1 := shl_one f.vars.toNat (by omega)
  rw [show ((f.vars.toNat : Nat) : Int) = f.vars from by omega] at e1
  have hp : 2 ^ f.vars.toNat ≤ 16777216 := by
    have h3 : 2 ^ f.vars.toNat ≤ 2 ^ 24 := Nat.pow_le_pow_right (by omega) (by omega)
    have h4 : (2 : Nat) ^ 24 = 16777216 := by decide
    omega
  generalize 2 ^ f.vars.toNat = M at *
  refine fa_of_body Tryz.func58 rfl rfl (by simp [Tryz.ntmps58]) fun C hC => ?_
  simp only [initS, Nat.reduceAdd]
  refine yG e1 ?_
  refine yB e1 fun g1 hn_g1=>?_
  refine yG (oj e1 hn_g1) ?_
  refine aw_lp (fun x : Option Nat × Nat => [(1, .c (.optr g1 0)), (3, .c (gs x.1 1 x.2)), (4, .c (.int .i64 x.2))]) (fun x => [(g1, .cells 79 3 (ofL (fmc false f)))] ++ gh x.1 4 x.2 (bsF (formTo f x.2))) (fun x => (x.1 = none → x.2 = 0) ∧ (∀ g, x.1 = some g → ¬ g = g1) ∧ x.2 ≤ M) (fun x => M - x.2) (none, 0) (zB (oj e1 hn_g1)) zZ ⟨fun _ => rfl, (fun g e => by cases e), Nat.zero_le _⟩ ?_
  rintro ⟨og, k⟩ ⟨hog, hgn, hk⟩
  dsimp only at hog hgn hk ⊢
  refine yS (oj e1 hn_g1) ?_
  have hvl := formTo_len f k
  refine yG (oj e1 hn_g1) ?_
  refine yF (oj e1 hn_g1) (fun hb=>?_) fun hb=>?_
  · have hin : k < M := by have := of_decide_eq_true hb; omega
    refine yG (oj e1 hn_g1) ?_
    refine yC (oj e1 hn_g1) (fvalue_fa f hf k ?_) ?_
    · omega
    refine yG (oj e1 hn_g1) ?_
    refine aw_push (pre := [(g1, .cells 79 3 (ofL (fmc false f)))]) rfl rfl rfl rfl rfl rfl rfl (zE (oj e1 hn_g1)) (zE (oj e1 hn_g1)) (by rfl) (by omega) (by omega) (zE (oj e1 hn_g1)) (by omega) (by exact hog) (zE (oj e1 hn_g1)) (by rfl) (by rfl) (by first | rfl | simp only [Nat.mul_one, List.nil_append, List.cons_append] <;> rfl) (by unfold maxLen; omega) (by omega) (by exact bs_push hvl _) fun g hn_g => ?_
    replace hn_g := Heap.ne_of hn_g
    first | dsimp only [Heap.ne, gh] at hn_g | dsimp only [Heap.ne] at hn_g | skip
    refine yS (oj e1 (oj hn_g1 hn_g)) ?_
    refine yG (oj e1 (oj hn_g1 hn_g)) ?_
    refine aw_stop ⟨(some g, k + 1), by dsimp only; omega, (zB (oj e1 (oj hn_g1 hn_g))), zZ, some_ne, (fun g e => by cases e; exact (of_eq_false hn_g.1.1)), by dsimp only; omega⟩
  · have hin : k = M := by have := of_decide_eq_false hb; omega
    subst hin
    refine yG (oj e1 hn_g1) ?_
    refine yT hC (oj e1 hn_g1) ?_
    exact .one (.c (ler_gsb (pre := [(g1, _)]) hog (fun g e => by simp only [Heap.keys, List.map_cons, List.map_nil, List.mem_singleton]; exact hgn g e) hvl))
end Go.Proofs.YtlpejaefobdajaaGreat

/- faultlineref15.add. -/
namespace Go.PN
open Go.AI
/-- Where a node stands, or none. -/
def findN (x : DN) : List DN → Nat → Option Nat
  | [], _ => none
  | y :: ns, i => if y = x then some i else findN x ns (i + 1)
def addF (o : List Int) (tb : List Bool) : Nat → Nat → Nat → List DN → List DN × Int
  | 0, _, st, ns => (ns, if tb.getD st false then 1 else 0)
  | k + 1, lv, st, ns =>
    let a := addF o tb k (lv + 1) st ns
    let b := addF o tb k (lv + 1) (st ||| 2 ^ (o.getD lv 0).toNat) a.1
    if a.2 = b.2 then (b.1, a.2) else
      let x : DN := ⟨o.getD lv 0, a.2, b.2⟩
      match findN x b.1 0 with
      | some i => (b.1, 2 + i)
      | none => (b.1 ++ [x], 1 + ((b.1.length + 1 : Nat) : Int))
theorem findN_step {x : DN} {ns : List DN} {i : Nat} (h : i < ns.length) : findN x (ns.drop i) i = if ns.getD i dn0 = x then some i else findN x (ns.drop (i + 1)) (i + 1) := by
  rw [List.drop_eq_getElem_cons h, findN]
  rw [List.getD_eq_getElem?_getD, List.getElem?_eq_getElem h]
  rfl
theorem dn_beq (a : DN) (v l u : Int) : (a.v == v && (a.lo == l && a.hi == u)) = decide (a = ⟨v, l, u⟩) := by
  rw [Bool.eq_iff_iff]
  simp only [Bool.and_eq_true, beq_iff_eq, decide_eq_true_eq]
  cases a
  simp
end Go.PN
namespace Go.AI
section
variable {E : Env} {K : List It} {σ : Sl} {h : Heap}
theorem aw_rethw {P : Program} {fn : Func} {C : Ctx} {Q : AV → Heap → Prop} {rvs : List ResultVar} (hrs : fn.results = rvs.toArray) {h' : Heap} (hsub : h'.Sublist h) (k : ∀ R : Option AV → Prop, (∀ x, flatR x = true → Q x h' → R (some x)) → R (resAV P σ h rvs)) :
    aw (envOfH P fn C Q) (.code .ret :: K) σ h := by
  have hr : ∀ x, flatR x = true → Q x h' → some x = resAV P σ h rvs → aw (envOfH P fn C Q) (.code .ret :: K) σ h := fun x hf hq e a w s => by
    refine wp_ret (exW_ret a w ?_)
    obtain ⟨v, hv, hrep⟩ := results_run s hrs e.symm (flatR_spec hf)
    have hks : ∀ b, b ∈ h'.keys → b ∈ h.keys := fun b hb => by
      obtain ⟨p, hp, e⟩ := List.mem_map.1 hb
      exact List.mem_map.2 ⟨p, hsub.subset hp, e⟩
    have kp : Keeps (Stab C h w) (Stab C h' w) w w := ⟨fun t b hb => ⟨hb.1, hb.2.1, fun hm => hb.2.2 (hks b hm)⟩, fun _ _ _ => rfl, fun _ _ e => e⟩
    exact ⟨s.defers, v, hv, v, x, h', rfl, hq, (hsub.map _).nodup s.nodup, fun g hg => s.keys g (hks g hg), hrep.keep kp, fun g o hm => ORep.keep kp rfl (s.heap g o (hsub.subset hm)), s.frame⟩
  have := k (fun y => y = resAV P σ h rvs → aw (envOfH P fn C Q) (.code .ret :: K) σ h) hr
  exact this rfl
end
theorem updF_at (xs : List CV) (i : Nat) (b : CV) (h : i < xs.length) : updF (ofL xs) i [b] = ofL (xs.set i b) := by
  funext j
  simp only [updF]
  by_cases hj : j = i
  · subst hj
    rw [if_pos rfl, ofL_get (xs.set j b) j b (by rw [List.getElem?_set_self h])]
  · rw [if_neg hj]
    by_cases hl : j < xs.length
    · rw [ofL_get xs j xs[j] (List.getElem?_eq_getElem hl), ofL_get (xs.set i b) j xs[j] (by rw [List.getElem?_set_ne (Ne.symm hj)]; exact List.getElem?_eq_getElem hl)]
    · have e : ∀ (ys : List CV) (n : Nat), ys.length ≤ n → ofL ys n = .any := by
        intro ys
        induction ys with
        | nil => intro n _; rfl
        | cons y ys ih =>
          intro n hn
          match n, hn with
          | n + 1, hn => exact ih n (by simpa using hn)
      rw [e xs j (by omega), e (xs.set i b) j (by rw [List.length_set]; omega)]
@[go_sem ↓] theorem updF_3_0 (a b c x : CV) : updF (ofL [a, b, c]) 0 [x] = ofL [x, b, c] := updF_at [a, b, c] 0 x (by simp)
@[go_sem ↓] theorem updF_3_1 (a b c x : CV) : updF (ofL [a, b, c]) 1 [x] = ofL [a, x, c] := updF_at [a, b, c] 1 x (by simp)
@[go_sem ↓] theorem updF_3_2 (a b c x : CV) : updF (ofL [a, b, c]) 2 [x] = ofL [a, b, x] := updF_at [a, b, c] 2 x (by simp)
theorem gs_solid (og : Option Nat) (s n : Nat) : (gs og s n).solid = true := by cases og <;> rfl
theorem solid_gs3 {og : Option Nat} {s n m : Nat} {t : Bool} {f : Nat → CV} {k : IntKind} {z : Int} : (AV.agg [.row t 1 m f, gs og s n, .int k z]).cells.all CV.solid = true := by
  cases og <;> rfl
end Go.AI
namespace Go.Proofs.YtlpejaefobdajaaGreat
open Go.AI Go.PN
attribute [local irreducible] aw Fa Fh DrK
/-- What a call of add with k levels left has come to. -/
def AddOk (o : List Int) (tb : List Bool) (rt : Int) (k : Nat) : Prop := ∀ (lv st : Nat) (ns : List DN) (og : Option Nat) (n : Nat), lv + k = o.length → st < 2 ^ o.length → ns.length = n → n + 2 ^ k ≤ 1000000 → (og = none → n = 0) →
    Fh Tryz.prog 166 (gh og 139 (n * 3) (dnsF ns)) [.agg [is true o, gs og 3 n, .int .i64 rt], .c (bs false tb), .c (.int .i64 lv), .c (.int .i64 st)]
      (fun res h => ∃ og' n', (addF o tb k lv st ns).1.length = n' ∧ n' < n + 2 ^ k ∧ (og' = none → n' = 0) ∧ res = .tup [.agg [is true o, gs og' 3 n', .int .i64 rt], .c (.int .i64 (addF o tb k lv st ns).2)] ∧ h = gh og' 139 (n' * 3) (dnsF (addF o tb k lv st ns).1))
set_option maxRecDepth 100000 in
set_option maxHeartbeats 3200000 in
theorem add_zero (o : List Int) (tb : List Bool) (rt : Int) (ho : o.length ≤ 12) (hr : ∀ x ∈ o, 0 ≤ x ∧ x < o.length) (ht : tb.length = 2 ^ o.length) : AddOk o tb rt 0 := by
  intro lv st ns og n hk hst hn hnl hog
  refine fh_of_body Tryz.func166 rfl rfl (by simp [Tryz.ntmps166]) fun C hC => ?_
  simp only [initS, Nat.reduceAdd]
  refine xG ?_
  refine xB fun g4 hn_g4=>?_
  refine yG hn_g4 ?_
  refine yA hn_g4 fun g8 hn_g8=>?_
  refine yG (oj hn_g4 hn_g8) ?_
  have e1 : ((lv : Int) == (o.length : Int)) = true := by simp; omega
  refine yG (oj hn_g4 (oj hn_g8 e1)) ?_
  refine yP (oj hn_g4 (oj hn_g8 e1)) ?_
  refine yG (oj hn_g4 (oj hn_g8 e1)) ?_
  refine yF (oj hn_g4 (oj hn_g8 e1)) (fun hb=>?_) fun hb=>?_
  · skip
    refine yG (oj hn_g4 (oj hn_g8 e1)) ?_
    refine yW (oj hn_g4 (oj hn_g8 e1)) ?_
    refine yS (oj hn_g4 (oj hn_g8 e1)) ?_
    refine yG (oj hn_g4 (oj hn_g8 e1)) ?_
    refine aw_keep [(8, .c (.optr g8 0)), (9, .c (.int .i64 1))] ((g8, .cells 25 3 (ofL [is true o, gs og 3 n, .int .i64 rt])) :: gh og 139 (n * 3) (dnsF ns)) (zB (oj hn_g4 (oj hn_g8 e1))) (List.Sublist.cons_cons _ (List.Sublist.cons _ (List.Sublist.refl _))) ?_
    refine aw_rethw (h' := gh og 139 (n * 3) (dnsF ns)) rfl (List.Sublist.cons _ (List.Sublist.refl _)) (fun R hR => ?_)
    simp only [go_sem, hn_g4, hn_g8, e1]
    refine hR _ rfl ?_
    clear hR R
    exact ⟨og, n, hn, by simp, hog, by rw [addF, hb]; rfl, rfl⟩
  · skip
    refine yG (oj hn_g4 (oj hn_g8 e1)) ?_
    refine yW (oj hn_g4 (oj hn_g8 e1)) ?_
    refine yS (oj hn_g4 (oj hn_g8 e1)) ?_
    refine yG (oj hn_g4 (oj hn_g8 e1)) ?_
    refine aw_keep [(8, .c (.optr g8 0)), (9, .c (.int .i64 0))] ((g8, .cells 25 3 (ofL [is true o, gs og 3 n, .int .i64 rt])) :: gh og 139 (n * 3) (dnsF ns)) (zB (oj hn_g4 (oj hn_g8 e1))) (List.Sublist.cons_cons _ (List.Sublist.cons _ (List.Sublist.refl _))) ?_
    refine aw_rethw (h' := gh og 139 (n * 3) (dnsF ns)) rfl (List.Sublist.cons _ (List.Sublist.refl _)) (fun R hR => ?_)
    simp only [go_sem, hn_g4, hn_g8, e1]
    refine hR _ rfl ?_
    clear hR R
    exact ⟨og, n, hn, by simp, hog, by rw [addF, hb]; rfl, rfl⟩
end Go.Proofs.YtlpejaefobdajaaGreat

/- Tables of nodes: the invariant, and what Make and Choose come to. No program in sight. -/
namespace Go.PN
open Go.AI
/-- The level of a reference. -/
def lvZ (o : List Int) (ns : List DN) (r : Int) : Int := if r < 2 then o.length else placeZ o (ns.getD (r - 2).toNat dn0).v
structure NdOk (o : List Int) (ns : List DN) (i : Nat) : Prop where
  nk : NodeOk o.length i (ns.getD i dn0)
  ne : (ns.getD i dn0).lo ≠ (ns.getD i dn0).hi
  bl : placeZ o (ns.getD i dn0).v < lvZ o ns (ns.getD i dn0).lo
  bh : placeZ o (ns.getD i dn0).v < lvZ o ns (ns.getD i dn0).hi
  new : ns.getD i dn0 ∉ ns.take i
/-- The nodes of a table. -/
def TabOk (o : List Int) (ns : List DN) : Prop := ∀ i, i < ns.length → NdOk o ns i
def RefOk (ns : List DN) (r : Int) : Prop := 0 ≤ r ∧ r < ns.length + 2
theorem TabOk.ns {o : List Int} {ns : List DN} (h : TabOk o ns) : NsOk o.length ns := fun i hi => (h i hi).nk
theorem getD_app {ns xs : List DN} {i : Nat} (h : i < ns.length) : (ns ++ xs).getD i dn0 = ns.getD i dn0 := by
  rw [List.getD_eq_getElem?_getD, List.getD_eq_getElem?_getD, List.getElem?_append_left h]
theorem ref_app {ns xs : List DN} {r : Int} (h : RefOk ns r) : RefOk (ns ++ xs) r := by
  unfold RefOk at h ⊢
  rw [List.length_append]
  omega
theorem lv_app {o : List Int} {ns xs : List DN} {r : Int} (h : RefOk ns r) : lvZ o (ns ++ xs) r = lvZ o ns r := by
  unfold lvZ
  unfold RefOk at h
  split
  · rfl
  · rw [getD_app (by omega)]
theorem evalF_app {m : Nat} {ns xs : List DN} {s : Nat} (hn : NsOk m ns) : ∀ (k : Nat) (r : Int), RefOk ns r → evalF (ns ++ xs) s k r = evalF ns s k r
  | 0, r, _ => rfl
  | k + 1, r, hr => by
    rw [evalF, evalF]
    split
    · rfl
    · rename_i h1
      unfold RefOk at hr
      rw [getD_app (by omega)]
      have := kid_lt hn (s := s) (r := r) (by omega) hr.2
      unfold kid at this
      exact evalF_app hn k _ ⟨this.1, by omega⟩
theorem eval_app {m : Nat} {ns xs : List DN} {s : Nat} (hn : NsOk m ns) {r : Int} (hr : RefOk ns r) : evalD (ns ++ xs) s r = evalD ns s r := evalF_app hn _ _ hr
theorem kids_ref {o : List Int} {ns : List DN} (h : TabOk o ns) {i : Nat} (hi : i < ns.length) : RefOk ns (ns.getD i dn0).lo ∧ RefOk ns (ns.getD i dn0).hi := by
  obtain ⟨_, _, l0, l1, h0, h1⟩ := (h i hi).nk
  exact ⟨⟨l0, by omega⟩, ⟨h0, by omega⟩⟩
theorem nd_app {o : List Int} {ns xs : List DN} (h : TabOk o ns) {i : Nat} (hi : i < ns.length) : NdOk o (ns ++ xs) i := by
  obtain ⟨r1, r2⟩ := kids_ref h hi
  obtain ⟨a, b, c, d, e⟩ := h i hi
  refine ⟨?_, ?_, ?_, ?_, ?_⟩ <;> rw [getD_app hi]
  · exact a
  · exact b
  · rw [lv_app r1]; exact c
  · rw [lv_app r2]; exact d
  · rw [List.take_append_of_le_length (by omega)]; exact e
theorem findN_none {x : DN} : ∀ {ns : List DN} {i : Nat}, findN x ns i = none → x ∉ ns
  | [], _, _ => by simp
  | y :: ns, i, h => by
    rw [findN] at h
    split at h
    · cases h
    · rename_i hn
      rw [List.mem_cons, not_or]
      exact ⟨fun e => hn e.symm, findN_none h⟩
theorem findN_some {x : DN} : ∀ {ns : List DN} {i j : Nat}, findN x ns i = some j → i ≤ j ∧ j < i + ns.length ∧ ns.getD (j - i) dn0 = x
  | [], _, _, h => by simp [findN] at h
  | y :: ns, i, j, h => by
    rw [findN] at h
    split at h
    · rename_i e
      injection h with h
      subst h
      rw [Nat.sub_self]
      exact ⟨Nat.le_refl _, by simp, e⟩
    · obtain ⟨h1, h2, h3⟩ := findN_some h
      refine ⟨by omega, by simp; omega, ?_⟩
      rw [show j - i = (j - (i + 1)) + 1 from by omega]
      simpa using h3
/-- Make. -/
def mkF (ns : List DN) (v lo hi : Int) : List DN × Int :=
  if lo = hi then (ns, lo) else match findN ⟨v, lo, hi⟩ ns 0 with
    | some i => (ns, 2 + i)
    | none => (ns ++ [⟨v, lo, hi⟩], 2 + ns.length)
/-- From one state of a table to a later one. -/
structure Later (o : List Int) (ns ns' : List DN) (n : Nat) : Prop where
  tab : TabOk o ns'
  pre : ∃ xs, ns' = ns ++ xs
  len : ns'.length ≤ ns.length + n
theorem Later.refl {o : List Int} {ns : List DN} (h : TabOk o ns) (n : Nat) : Later o ns ns n := ⟨h, ⟨[], by simp⟩, by omega⟩
theorem Later.trans {o : List Int} {a b c : List DN} {n m k : Nat} (h1 : Later o a b n) (h2 : Later o b c m) (hk : n + m ≤ k) : Later o a c k := by
  obtain ⟨_, ⟨xs, e1⟩, l1⟩ := h1
  obtain ⟨t2, ⟨ys, e2⟩, l2⟩ := h2
  exact ⟨t2, ⟨xs ++ ys, by rw [e2, e1, List.append_assoc]⟩, by omega⟩
theorem Later.ref {o : List Int} {a b : List DN} {n : Nat} (h : Later o a b n) {r : Int} (hr : RefOk a r) : RefOk b r := by
  obtain ⟨xs, e⟩ := h.pre
  rw [e]; exact ref_app hr
theorem Later.lv {o : List Int} {a b : List DN} {n : Nat} (h : Later o a b n) {r : Int} (hr : RefOk a r) : lvZ o b r = lvZ o a r := by
  obtain ⟨xs, e⟩ := h.pre
  rw [e]; exact lv_app hr
theorem Later.eval {o : List Int} {a b : List DN} {n : Nat} (h : Later o a b n) (ha : TabOk o a) {r : Int} (hr : RefOk a r) (s : Nat) : evalD b s r = evalD a s r := by
  obtain ⟨xs, e⟩ := h.pre
  rw [e]; exact eval_app ha.ns hr
theorem eval_node {o : List Int} {ns : List DN} (h : TabOk o ns) {i : Nat} (hi : i < ns.length) {v lo hi' : Int} (e : ns.getD i dn0 = ⟨v, lo, hi'⟩) (s : Nat) : evalD ns s (2 + i) = if s.testBit v.toNat then evalD ns s hi' else evalD ns s lo := by
  rw [evalD_step h.ns (by omega) (by omega)]
  unfold kid
  rw [show ((2 : Int) + (i : Int) - 2).toNat = i from by omega, e]
  dsimp only
  split <;> rfl
theorem lv_node {o : List Int} {ns : List DN} {i : Nat} : lvZ o ns (2 + i) = placeZ o (ns.getD i dn0).v := by
  unfold lvZ
  rw [if_neg (by omega), show ((2 : Int) + (i : Int) - 2).toNat = i from by omega]
theorem mk_ok {o : List Int} {ns : List DN} (h : TabOk o ns) {v lo hi : Int} (hv0 : 0 ≤ v) (hv1 : v < o.length) (hl : RefOk ns lo) (hh : RefOk ns hi) (bl : placeZ o v < lvZ o ns lo) (bh : placeZ o v < lvZ o ns hi) :
    Later o ns (mkF ns v lo hi).1 1 ∧ RefOk (mkF ns v lo hi).1 (mkF ns v lo hi).2 ∧ placeZ o v ≤ lvZ o (mkF ns v lo hi).1 (mkF ns v lo hi).2 ∧ ∀ s, evalD (mkF ns v lo hi).1 s (mkF ns v lo hi).2 = if s.testBit v.toNat then evalD ns s hi else evalD ns s lo := by
  unfold mkF
  by_cases e : lo = hi
  · subst e
    rw [if_pos rfl]
    exact ⟨Later.refl h 1, hl, Int.le_of_lt bl, fun s => by split <;> rfl⟩
  · rw [if_neg e]
    cases hf : findN ⟨v, lo, hi⟩ ns 0 with
    | some i =>
      obtain ⟨_, h2, h3⟩ := findN_some hf
      rw [Nat.sub_zero] at h3
      have hi' : i < ns.length := by omega
      refine ⟨Later.refl h 1, ⟨by show (0 : Int) ≤ 2 + i; omega, by show (2 : Int) + i < ns.length + 2; omega⟩, ?_, fun s => eval_node h hi' h3 s⟩
      show placeZ o v ≤ lvZ o ns (2 + i)
      rw [lv_node, h3]
      exact Int.le_refl _
    | none =>
      have hnew := findN_none hf
      have hg : (ns ++ [(⟨v, lo, hi⟩ : DN)]).getD ns.length dn0 = ⟨v, lo, hi⟩ := by
        rw [List.getD_eq_getElem?_getD, List.getElem?_append_right (Nat.le_refl _), Nat.sub_self]; rfl
      have htab : TabOk o (ns ++ [(⟨v, lo, hi⟩ : DN)]) := by
        intro i hi2
        rw [List.length_append, List.length_singleton] at hi2
        by_cases hin : i < ns.length
        · exact nd_app h hin
        · have : i = ns.length := by omega
          subst this
          unfold RefOk at hl hh
          refine ⟨?_, ?_, ?_, ?_, ?_⟩ <;> rw [hg]
          · exact ⟨hv0, hv1, hl.1, hl.2, hh.1, hh.2⟩
          · exact e
          · rw [lv_app hl]; exact bl
          · rw [lv_app hh]; exact bh
          · rw [List.take_append_of_le_length (Nat.le_refl _), List.take_length]; exact hnew
      refine ⟨⟨htab, ⟨_, rfl⟩, by simp⟩, ⟨by show (0 : Int) ≤ 2 + ns.length; omega, by show (2 : Int) + ns.length < (ns ++ [_]).length + 2; simp; omega⟩, ?_, fun s => ?_⟩
      · show placeZ o v ≤ lvZ o (ns ++ [_]) (2 + ns.length)
        rw [lv_node, hg]
        exact Int.le_refl _
      · show evalD (ns ++ [_]) s (2 + ns.length) = _
        rw [eval_node htab (by simp) hg s, eval_app h.ns hh, eval_app h.ns hl]
/-- The kids of a reference at a level. -/
def kidsF (o : List Int) (ns : List DN) (r L : Int) : Int × Int := if lvZ o ns r ≠ L then (r, r) else ((ns.getD (r - 2).toNat dn0).lo, (ns.getD (r - 2).toNat dn0).hi)
theorem place_at {o : List Int} {v L : Int} (h : placeZ o v = L) (hL : 0 ≤ L) (hv : v ∈ o) : o.getD L.toNat 0 = v := by
  unfold placeZ at h
  rw [if_pos hv] at h
  have : L.toNat = o.idxOf v := by omega
  rw [this]
  have hlt := List.idxOf_lt_length_of_mem hv
  rw [getDZ hlt]
  exact List.getElem_idxOf hlt
theorem place_nonneg {o : List Int} {v : Int} (hv : v ∈ o) : 0 ≤ placeZ o v := by
  unfold placeZ
  rw [if_pos hv]; omega
theorem lv_le {o : List Int} {ns : List DN} {r : Int} : lvZ o ns r ≤ o.length := by
  unfold lvZ
  split
  · omega
  · unfold placeZ
    split
    · rename_i h; have := List.idxOf_lt_length_of_mem h; omega
    · omega
theorem kids_ok {o : List Int} {ns : List DN} (h : TabOk o ns) (hm : ∀ v : Int, 0 ≤ v → v < o.length → v ∈ o) {r L : Int} (hr : RefOk ns r) (h0 : 0 ≤ L) (hL : L < o.length) (hlv : L ≤ lvZ o ns r) :
    RefOk ns (kidsF o ns r L).1 ∧ RefOk ns (kidsF o ns r L).2 ∧ L + 1 ≤ lvZ o ns (kidsF o ns r L).1 ∧ L + 1 ≤ lvZ o ns (kidsF o ns r L).2 ∧ ∀ s : Nat, evalD ns s r = if s.testBit (o.getD L.toNat 0).toNat then evalD ns s (kidsF o ns r L).2 else evalD ns s (kidsF o ns r L).1 := by
  unfold kidsF
  by_cases e : lvZ o ns r = L
  · rw [if_neg (by simpa using e)]
    have hr2 : 2 ≤ r := by
      refine Classical.byContradiction fun hn => ?_
      unfold lvZ at e
      rw [if_pos (by omega)] at e
      omega
    unfold RefOk at hr
    have hi : (r - 2).toNat < ns.length := by omega
    obtain ⟨r1, r2⟩ := kids_ref h hi
    have nd := h _ hi
    have hpl : placeZ o (ns.getD (r - 2).toNat dn0).v = L := by
      unfold lvZ at e
      rw [if_neg (by omega)] at e
      exact e
    have hvm : (ns.getD (r - 2).toNat dn0).v ∈ o := hm _ nd.nk.v0 nd.nk.v1
    have hg := place_at hpl h0 hvm
    refine ⟨r1, r2, by have := nd.bl; show L + 1 ≤ lvZ o ns (ns.getD (r - 2).toNat dn0).lo; omega, by have := nd.bh; show L + 1 ≤ lvZ o ns (ns.getD (r - 2).toNat dn0).hi; omega, fun s => ?_⟩
    have := eval_node h hi (v := (ns.getD (r - 2).toNat dn0).v) (lo := (ns.getD (r - 2).toNat dn0).lo) (hi' := (ns.getD (r - 2).toNat dn0).hi) rfl s
    rw [show (2 : Int) + (((r - 2).toNat : Nat) : Int) = r from by omega] at this
    rw [this, hg]
  · rw [if_pos (by simpa using e)]
    exact ⟨hr, hr, by show L + 1 ≤ lvZ o ns r; omega, by show L + 1 ≤ lvZ o ns r; omega, fun s => by split <;> rfl⟩
/-- What is remembered of Choose. -/
abbrev Mem3 := List ((Int × Int × Int) × Int)
def lv3 (o : List Int) (ns : List DN) (k : Int × Int × Int) : Int := min (lvZ o ns k.1) (min (lvZ o ns k.2.1) (lvZ o ns k.2.2))
structure MemE (o : List Int) (ns : List DN) (e : (Int × Int × Int) × Int) : Prop where
  c : RefOk ns e.1.1
  a : RefOk ns e.1.2.1
  b : RefOk ns e.1.2.2
  r : RefOk ns e.2
  lv : lv3 o ns e.1 ≤ lvZ o ns e.2
  sem : ∀ s, evalD ns s e.2 = if evalD ns s e.1.1 then evalD ns s e.1.2.1 else evalD ns s e.1.2.2
def MemOk (o : List Int) (ns : List DN) (mm : Mem3) : Prop := ∀ e ∈ mm, MemE o ns e
theorem Later.lv3 {o : List Int} {a b : List DN} {n : Nat} (h : Later o a b n) {k : Int × Int × Int} (h1 : RefOk a k.1) (h2 : RefOk a k.2.1) (h3 : RefOk a k.2.2) : Go.PN.lv3 o b k = Go.PN.lv3 o a k := by
  unfold Go.PN.lv3
  rw [h.lv h1, h.lv h2, h.lv h3]
theorem MemE.later {o : List Int} {a b : List DN} {n : Nat} (h : Later o a b n) (ha : TabOk o a) {e : (Int × Int × Int) × Int} (he : MemE o a e) : MemE o b e :=
  ⟨h.ref he.c, h.ref he.a, h.ref he.b, h.ref he.r, by rw [h.lv3 he.c he.a he.b, h.lv he.r]; exact he.lv, fun s => by rw [h.eval ha he.r, h.eval ha he.c, h.eval ha he.a, h.eval ha he.b]; exact he.sem s⟩
theorem MemOk.later {o : List Int} {a b : List DN} {n : Nat} (h : Later o a b n) (ha : TabOk o a) {mm : Mem3} (hm : MemOk o a mm) : MemOk o b mm := fun e he => (hm e he).later h ha
end Go.PN

/- Tables of nodes: what a reference does not look at, Compose, Count. No program in sight. -/
namespace Go.PN
open Go.AI
/-- s with bit e told. -/
def setB (s e : Nat) (b : Bool) : Nat := if s.testBit e = b then s else s ^^^ 2 ^ e
theorem setB_bit (s e : Nat) (b : Bool) (j : Nat) : (setB s e b).testBit j = if j = e then b else s.testBit j := by
  unfold setB
  split
  · rename_i h
    split
    · rename_i hj; rw [hj, h]
    · rfl
  · rename_i h
    rw [Nat.testBit_xor, Nat.testBit_two_pow]
    split
    · rename_i hj
      subst hj
      cases hb : s.testBit j <;> cases b <;> simp_all
    · rename_i hj
      rw [decide_eq_false (fun h => hj h.symm), Bool.xor_false]
theorem tab_indep {o : List Int} {ns : List DN} (ht : TabOk o ns) {s t : Nat} {P : Int} (hb : ∀ j : Nat, j < o.length → P < placeZ o j → s.testBit j = t.testBit j) : ∀ (n : Nat) (r : Int), r.toNat ≤ n → RefOk ns r → P < lvZ o ns r → evalD ns s r = evalD ns t r := by
  intro n
  induction n with
  | zero =>
    intro r hn h0 hP
    rw [evalD_leaf (by omega), evalD_leaf (by omega)]
  | succ n ih =>
    intro r hn h0 hP
    by_cases h2 : 2 ≤ r
    · unfold RefOk at h0
      have hi : (r - 2).toNat < ns.length := by omega
      have nd := ht _ hi
      obtain ⟨v0, v1, _, _, _, _⟩ := nd.nk
      obtain ⟨r1, r2⟩ := kids_ref ht hi
      have b1 := nd.bl
      have b2 := nd.bh
      have hP' : P < placeZ o (ns.getD (r - 2).toNat dn0).v := by
        unfold lvZ at hP
        rw [if_neg (by omega)] at hP
        exact hP
      have hbit := hb (ns.getD (r - 2).toNat dn0).v.toNat (by omega) (by rw [show (((ns.getD (r - 2).toNat dn0).v.toNat : Nat) : Int) = (ns.getD (r - 2).toNat dn0).v from by omega]; exact hP')
      have hk := kid_lt ht.ns (s := t) h2 h0.2
      rw [evalD_step ht.ns h2 h0.2, evalD_step ht.ns h2 h0.2]
      unfold kid at hk ⊢
      rw [hbit]
      split
      · rename_i hx
        rw [if_pos hx] at hk
        exact ih _ (by omega) r2 (by omega)
      · rename_i hx
        rw [if_neg hx] at hk
        exact ih _ (by omega) r1 (by omega)
    · rw [evalD_leaf (by omega), evalD_leaf (by omega)]
theorem setB_indep {o : List Int} {ns : List DN} (ht : TabOk o ns) {r : Int} (hr : RefOk ns r) {e : Nat} (hl : placeZ o e < lvZ o ns r) (s : Nat) (b : Bool) : evalD ns (setB s e b) r = evalD ns s r :=
  tab_indep ht (P := placeZ o e) (fun j _ hp => by rw [setB_bit, if_neg (fun h => by subst h; omega)]) r.toNat r (Nat.le_refl _) hr hl
/-- A reference's value, with an event replaced by another reference. -/
def CmR (ns0 : List DN) (e : Nat) (y : Int) (ns : List DN) (r x : Int) : Prop := RefOk ns x ∧ ∀ s, evalD ns s x = evalD ns0 (setB s e (evalD ns0 s y)) r
theorem Later.loose {o : List Int} {a b : List DN} {n : Nat} (h : Later o a b n) : Later o a b b.length := ⟨h.tab, h.pre, by omega⟩
/-- Compose on its way. -/
structure CmOk (o : List Int) (ns0 : List DN) (e : Nat) (y : Int) (ns : List DN) (mm : Mem3) (dl : List (Int × Int)) : Prop where
  lat : Later o ns0 ns ns.length
  mem : MemOk o ns mm
  keys : (dl.map (·.1)).Nodup
  bd : ∀ x ∈ dl, 2 ≤ x.1 ∧ x.1 < ns0.length + 2
  sem : ∀ x ∈ dl, CmR ns0 e y ns x.1 x.2
theorem CmR.later {o : List Int} {ns0 ns ns' : List DN} {e : Nat} {y r x : Int} {n : Nat} (h : CmR ns0 e y ns r x) (ht : TabOk o ns) (hl : Later o ns ns' n) : CmR ns0 e y ns' r x :=
  ⟨hl.ref h.1, fun s => by rw [hl.eval ht h.1, h.2 s]⟩
theorem CmOk.later {o : List Int} {ns0 : List DN} {e : Nat} {y : Int} {ns ns' : List DN} {mm mm' : Mem3} {dl : List (Int × Int)} (h : CmOk o ns0 e y ns mm dl) {n : Nat} (hl : Later o ns ns' n) (hm : MemOk o ns' mm') : CmOk o ns0 e y ns' mm' dl :=
  ⟨(h.lat.trans hl (Nat.le_refl _)).loose, hm, h.keys, h.bd, fun x hx => (h.sem x hx).later h.lat.tab hl⟩
theorem CmOk.push {o : List Int} {ns0 : List DN} {e : Nat} {y : Int} {ns : List DN} {mm : Mem3} {dl : List (Int × Int)} (h : CmOk o ns0 e y ns mm dl) {r x : Int} (h2 : 2 ≤ r) (hr : r < ns0.length + 2) (hnew : ∀ x ∈ dl, x.1 ≠ r) (hx : CmR ns0 e y ns r x) :
    CmOk o ns0 e y ns mm (dl ++ [(r, x)]) := by
  refine ⟨h.lat, h.mem, ?_, fun z hz => ?_, fun z hz => ?_⟩
  · rw [List.map_append, List.map_singleton]
    refine List.nodup_append.2 ⟨h.keys, by simp, fun a ha b hb => ?_⟩
    rw [List.mem_singleton] at hb
    subst hb
    obtain ⟨z, hz, rfl⟩ := List.mem_map.1 ha
    exact hnew z hz
  · rcases List.mem_append.1 hz with hz | hz
    · exact h.bd z hz
    · rw [List.mem_singleton] at hz; subst hz; exact ⟨h2, hr⟩
  · rcases List.mem_append.1 hz with hz | hz
    · exact h.sem z hz
    · rw [List.mem_singleton] at hz; subst hz; exact hx
theorem CmOk.len {o : List Int} {ns0 : List DN} {e : Nat} {y : Int} {ns : List DN} {mm : Mem3} {dl : List (Int × Int)} (h : CmOk o ns0 e y ns mm dl) : dl.length ≤ ns0.length := by
  have := nodup_range h.keys (fun x hx => by obtain ⟨z, hz, rfl⟩ := List.mem_map.1 hx; exact h.bd z hz)
  simpa using this
theorem CmOk.room {o : List Int} {ns0 : List DN} {e : Nat} {y : Int} {ns : List DN} {mm : Mem3} {dl : List (Int × Int)} (h : CmOk o ns0 e y ns mm dl) {r : Int} (h2 : 2 ≤ r) (hr : r < ns0.length + 2) (hnew : ∀ z ∈ dl, z.1 ≠ r) (B : Nat) : dl.length * B + B ≤ ns0.length * B := by
  have h1 : dl.length + 1 ≤ ns0.length := by
    have := nodup_range (n := ns0.length) (b := r :: dl.map (·.1)) (List.nodup_cons.2 ⟨fun hm => by obtain ⟨z, hz, e⟩ := List.mem_map.1 hm; exact hnew z hz e, h.keys⟩) (fun x hx => by
      rcases List.mem_cons.1 hx with rfl | hx
      · exact ⟨h2, hr⟩
      · obtain ⟨z, hz, rfl⟩ := List.mem_map.1 hx
        exact h.bd z hz)
    simpa using this
  have := Nat.mul_le_mul_right B h1
  rwa [Nat.add_mul, Nat.one_mul] at this
theorem CmOk.zero {o : List Int} {ns0 : List DN} {e : Nat} {y : Int} {mm : Mem3} (ht : TabOk o ns0) (hm : MemOk o ns0 mm) : CmOk o ns0 e y ns0 mm [] :=
  ⟨Later.refl ht _, hm, List.nodup_nil, fun x hx => absurd hx List.not_mem_nil, fun x hx => absurd hx List.not_mem_nil⟩
/-- What has been done for some references. -/
def dnGet (r : Int) : List (Int × Int) → Option Int
  | [] => none
  | e :: dl => if r = e.1 then some e.2 else dnGet r dl
def dnL (dl : List (Int × Int)) : List (Int × Value) := dl.map fun e => (e.1, .int .i64 e.2)
theorem dn_get (r : Int) : ∀ dl, kvGet r (dnL dl) = (dnGet r dl).map (Value.int .i64)
  | [] => rfl
  | e :: dl => by
    show (if r = e.1 then some (Value.int .i64 e.2) else kvGet r (dnL dl)) = _
    rw [dnGet, dn_get r dl]
    split <;> rfl
theorem dnL_push (dl : List (Int × Int)) (r x : Int) : dnL dl ++ [(r, .int .i64 x)] = dnL (dl ++ [(r, x)]) := by simp [dnL]
theorem dn_mem {r x : Int} : ∀ {dl : List (Int × Int)}, dnGet r dl = some x → (r, x) ∈ dl
  | [], h => by simp [dnGet] at h
  | e :: dl, h => by
    rw [dnGet] at h
    split at h
    · rename_i hk
      injection h with h
      subst hk h
      exact List.mem_cons_self ..
    · exact List.mem_cons_of_mem _ (dn_mem h)
theorem dn_none {r : Int} : ∀ {dl : List (Int × Int)}, dnGet r dl = none → ∀ e ∈ dl, e.1 ≠ r
  | e :: dl, h, e', he => by
    rw [dnGet] at h
    split at h
    · cases h
    · rename_i hk
      rcases List.mem_cons.1 he with rfl | he
      · exact fun x => hk x.symm
      · exact dn_none h e' he
theorem dn_none' {r : Int} : ∀ {dl : List (Int × Int)}, (∀ e ∈ dl, e.1 ≠ r) → dnGet r dl = none
  | [], _ => rfl
  | e :: dl, h => by
    rw [dnGet, if_neg (fun x => h e (List.mem_cons_self ..) x.symm)]
    exact dn_none' fun e' he => h e' (List.mem_cons_of_mem _ he)
/-- A reference behind the event stays. -/
theorem cm_same {o : List Int} {ns0 ns : List DN} {e : Nat} {y r : Int} {n : Nat} (ht : TabOk o ns0) (hl : Later o ns0 ns n) (hr : RefOk ns0 r) (hlv : placeZ o e < lvZ o ns0 r) : CmR ns0 e y ns r r :=
  ⟨hl.ref hr, fun s => by rw [hl.eval ht hr, setB_indep ht hr hlv]⟩
/-- The event itself. -/
theorem cm_here {o : List Int} {ns0 ns ns' : List DN} {e : Nat} {y r x : Int} {n m : Nat} (ht : TabOk o ns0) (hl : Later o ns0 ns n) (hl2 : Later o ns ns' m) (h2 : 2 ≤ r) (hr : RefOk ns0 r) (hy : RefOk ns0 y) (he : (ns0.getD (r - 2).toNat dn0).v = e)
    (hx : RefOk ns' x) (hs : ∀ s, evalD ns' s x = if evalD ns s y then evalD ns s (ns0.getD (r - 2).toNat dn0).hi else evalD ns s (ns0.getD (r - 2).toNat dn0).lo) : CmR ns0 e y ns' r x := by
  refine ⟨hx, fun s => ?_⟩
  have hi : (r - 2).toNat < ns0.length := by unfold RefOk at hr; omega
  obtain ⟨r1, r2⟩ := kids_ref ht hi
  have nd := ht _ hi
  rw [hs s, hl.eval ht hy, hl.eval ht r1, hl.eval ht r2]
  have en := eval_node ht hi (v := (ns0.getD (r - 2).toNat dn0).v) (lo := (ns0.getD (r - 2).toNat dn0).lo) (hi' := (ns0.getD (r - 2).toNat dn0).hi) rfl (setB s e (evalD ns0 s y))
  rw [show (2 : Int) + (((r - 2).toNat : Nat) : Int) = r from by omega] at en
  have hbit : (setB s e (evalD ns0 s y)).testBit (ns0.getD (r - 2).toNat dn0).v.toNat = evalD ns0 s y := by rw [he, setB_bit, if_pos (by omega)]
  rw [en, hbit, setB_indep ht r1 (by have := nd.bl; rw [he] at this; exact this), setB_indep ht r2 (by have := nd.bh; rw [he] at this; exact this)]
/-- A node before the event. -/
theorem cm_node {ns0 ns' : List DN} {o : List Int} {e : Nat} {y r x c a b : Int} {ns : List DN} (ht : TabOk o ns0) (h2 : 2 ≤ r) (hr : RefOk ns0 r) (he : (ns0.getD (r - 2).toNat dn0).v ≠ e)
    (hc : ∀ s, evalD ns s c = s.testBit (ns0.getD (r - 2).toNat dn0).v.toNat) (ha : CmR ns0 e y ns (ns0.getD (r - 2).toNat dn0).hi a) (hb : CmR ns0 e y ns (ns0.getD (r - 2).toNat dn0).lo b)
    (hx : RefOk ns' x) (hs : ∀ s, evalD ns' s x = if evalD ns s c then evalD ns s a else evalD ns s b) : CmR ns0 e y ns' r x := by
  refine ⟨hx, fun s => ?_⟩
  have hi : (r - 2).toNat < ns0.length := by unfold RefOk at hr; omega
  obtain ⟨v0, _, _, _, _, _⟩ := (ht _ hi).nk
  have en := eval_node ht hi (v := (ns0.getD (r - 2).toNat dn0).v) (lo := (ns0.getD (r - 2).toNat dn0).lo) (hi' := (ns0.getD (r - 2).toNat dn0).hi) rfl (setB s e (evalD ns0 s y))
  rw [show (2 : Int) + (((r - 2).toNat : Nat) : Int) = r from by omega] at en
  have hbit : (setB s e (evalD ns0 s y)).testBit (ns0.getD (r - 2).toNat dn0).v.toNat = s.testBit (ns0.getD (r - 2).toNat dn0).v.toNat := by rw [setB_bit, if_neg (by omega)]
  rw [hs s, hc s, ha.2 s, hb.2 s, en, hbit]
/-- How many of the first k states are true. -/
def cntTo (f : Nat → Bool) : Nat → Nat
  | 0 => 0
  | k + 1 => cntTo f k + if f k then 1 else 0
theorem cntTo_le (f : Nat → Bool) : ∀ k, cntTo f k ≤ k
  | 0 => Nat.le_refl _
  | k + 1 => by
    have := cntTo_le f k
    unfold cntTo
    split <;> omega
theorem cnt_congr {f g : Nat → Bool} : ∀ k, (∀ s, s < k → f s = g s) → cntTo f k = cntTo g k
  | 0, _ => rfl
  | k + 1, h => by
    unfold cntTo
    rw [cnt_congr k fun s hs => h s (by omega), h k (by omega)]
theorem cnt_add (f : Nat → Bool) (a : Nat) : ∀ b, cntTo f (a + b) = cntTo f a + cntTo (fun s => f (s + a)) b
  | 0 => rfl
  | b + 1 => by
    show cntTo f (a + b) + _ = _
    rw [cnt_add f a b]
    show _ = cntTo f a + (cntTo (fun s => f (s + a)) b + if f (b + a) then 1 else 0)
    rw [Nat.add_comm b a]
    exact Nat.add_assoc _ _ _
theorem cnt_false : ∀ k, cntTo (fun _ => false) k = 0
  | 0 => rfl
  | k + 1 => by unfold cntTo; rw [cnt_false k]; rfl
theorem cnt_true : ∀ k, cntTo (fun _ => true) k = k
  | 0 => rfl
  | k + 1 => by unfold cntTo; rw [cnt_true k]; rfl
abbrev half : Nat → Rat := fun _ => 1 / 2
def indQ (f : Nat → Bool) (s : Nat) : Rat := if f s then 1 else 0
theorem ind_eq {f g : Nat → Bool} {s t : Nat} (h : f s = g t) : indQ f s = indQ g t := by unfold indQ; rw [h]
theorem cnt_ex : ∀ (m : Nat) (f : Nat → Bool), (cntTo f (2 ^ m) : Rat) = ((2 ^ m : Nat) : Rat) * exQ half m (indQ f)
  | 0, f => by
    show ((cntTo f 1 : Nat) : Rat) = ((1 : Nat) : Rat) * indQ f 0
    unfold cntTo cntTo indQ
    split <;> simp
  | m + 1, f => by
    have e : 2 ^ (m + 1) = 2 ^ m + 2 ^ m := by rw [Nat.pow_succ]; omega
    have h1 := cnt_ex m f
    have h2 := cnt_ex m (fun s => f (s + 2 ^ m))
    rw [e, cnt_add, exQ]
    clear e
    have e3 : exQ half m (fun s => indQ f (s + 2 ^ m)) = exQ half m (indQ fun s => f (s + 2 ^ m)) := rfl
    rw [e3]
    rw [show ((cntTo f (2 ^ m) + cntTo (fun s => f (s + 2 ^ m)) (2 ^ m) : Nat) : Rat) = (cntTo f (2 ^ m) : Rat) + (cntTo (fun s => f (s + 2 ^ m)) (2 ^ m) : Rat) from by push_cast; rfl, h1, h2]
    rw [show ((2 ^ m + 2 ^ m : Nat) : Rat) = ((2 ^ m : Nat) : Rat) + ((2 ^ m : Nat) : Rat) from by push_cast; rfl]
    generalize ((2 ^ m : Nat) : Rat) = q
    simp only [half]
    grind
theorem cnt_shan {m v : Nat} {l h : Nat → Bool} (hv : v < m) (il : Indep m v (indQ l)) (ih : Indep m v (indQ h)) : 2 * cntTo (fun s => if s.testBit v then h s else l s) (2 ^ m) = cntTo l (2 ^ m) + cntTo h (2 ^ m) := by
  have h0 := cnt_ex m (fun s => if s.testBit v then h s else l s)
  have h1 := cnt_ex m l
  have h2 := cnt_ex m h
  have e : exQ half m (indQ fun s => if s.testBit v then h s else l s) = exQ half m (fun s => if s.testBit v then indQ h s else indQ l s) := ex_congr m _ _ fun s _ => by unfold indQ; by_cases hb : s.testBit v = true <;> simp [hb]
  rw [e, ex_shan m _ _ hv il ih] at h0
  have : ((2 * cntTo (fun s => if s.testBit v then h s else l s) (2 ^ m) : Nat) : Rat) = ((cntTo l (2 ^ m) + cntTo h (2 ^ m) : Nat) : Rat) := by
    push_cast
    push_cast at h0 h1 h2
    rw [h0, h1, h2]
    simp only [half]
    grind
  exact_mod_cast this
/-- The number of the true states of a reference. -/
def cntR (o : List Int) (ns : List DN) (r : Int) : Nat := cntTo (fun s => evalD ns s r) (2 ^ o.length)
theorem ref_indep {o : List Int} {ns : List DN} (ht : TabOk o ns) {r : Int} (hr : RefOk ns r) {v : Nat} (hl : placeZ o v < lvZ o ns r) : Indep o.length v (indQ fun s => evalD ns s r) := fun s t _ _ hb => by
  exact ind_eq (tab_indep ht (s := s) (t := t) (P := placeZ o v) (fun j hj hp => hb j hj (fun e => by subst e; omega)) r.toNat r (Nat.le_refl _) hr hl)
theorem cnt_node {o : List Int} {ns : List DN} (ht : TabOk o ns) {i : Nat} (hi : i < ns.length) : 2 * cntR o ns (2 + i) = cntR o ns (ns.getD i dn0).lo + cntR o ns (ns.getD i dn0).hi := by
  have nd := ht i hi
  obtain ⟨v0, v1, _, _, _, _⟩ := nd.nk
  obtain ⟨r1, r2⟩ := kids_ref ht hi
  have hvv : (((ns.getD i dn0).v.toNat : Nat) : Int) = (ns.getD i dn0).v := by omega
  have := cnt_shan (m := o.length) (v := (ns.getD i dn0).v.toNat) (by omega) (ref_indep ht r1 (by rw [hvv]; exact nd.bl)) (ref_indep ht r2 (by rw [hvv]; exact nd.bh))
  unfold cntR
  rw [← this]
  congr 1
  exact cnt_congr _ fun s _ => eval_node ht hi rfl s
theorem cntR_leaf {o : List Int} {ns : List DN} : cntR o ns 0 = 0 ∧ cntR o ns 1 = 2 ^ o.length := by
  unfold cntR
  refine ⟨?_, ?_⟩
  · rw [cnt_congr (g := fun _ => false) _ fun s _ => evalD_leaf (by omega)]; exact cnt_false _
  · rw [cnt_congr (g := fun _ => true) _ fun s _ => evalD_leaf (by omega)]; exact cnt_true _
/-- An event decides in half of the states in which it would. -/
theorem cnt_crit {m i : Nat} (hi : i < m) (f : Nat → Bool) : 2 * cntTo (fun s => !s.testBit i && (f (setB s i false) != f (setB s i true))) (2 ^ m) = cntTo (fun s => f (setB s i false) != f (setB s i true)) (2 ^ m) := by
  have ind : Indep m i (indQ fun s => f (setB s i false) != f (setB s i true)) := fun s t hs ht hb => by
    have e : ∀ b, setB s i b = setB t i b := fun b => Nat.eq_of_testBit_eq fun j => by
      rw [setB_bit, setB_bit]
      by_cases hj : j = i
      · rw [if_pos hj, if_pos hj]
      · rw [if_neg hj, if_neg hj]
        by_cases hjm : j < m
        · exact hb j hjm hj
        · rw [Nat.testBit_lt_two_pow (Nat.lt_of_lt_of_le hs (Nat.pow_le_pow_right (by omega) (by omega))), Nat.testBit_lt_two_pow (Nat.lt_of_lt_of_le ht (Nat.pow_le_pow_right (by omega) (by omega)))]
    exact ind_eq (by rw [e, e])
  have h := cnt_shan (m := m) (v := i) (l := fun s => f (setB s i false) != f (setB s i true)) (h := fun _ => false) hi ind (fun _ _ _ _ _ => rfl)
  rw [cnt_false] at h
  rw [← Nat.add_zero (cntTo (fun s => f (setB s i false) != f (setB s i true)) (2 ^ m)), ← h]
  congr 1
  exact cnt_congr _ fun s _ => by cases s.testBit i <;> simp
end Go.PN
