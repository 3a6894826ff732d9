/- Blocks of one proof, laid one behind the other by a program (merge2.py). -/
import Derived.Test.YtcoflhkcpnoaaaaGreatM11
set_option linter.unusedSimpArgs false
set_option linter.unusedVariables false
namespace Go.PN
open Go.AI
noncomputable def formTo (f : FM) : Nat → List Bool
  | 0 => []
  | k + 1 => formTo f k ++ [fvalB' f k]
where fvalB' (f : FM) (k : Nat) : Bool := ofB f (fvTo f k f.nodes.length) k f.top
theorem formTo_len (f : FM) : ∀ k, (formTo f k).length = k
  | 0 => rfl
  | k + 1 => by simp [formTo, formTo_len f k]
end Go.PN
namespace Go.Proofs.YtcoflhkcpnoaaaaGreat
open Go.AI Go.PN
attribute [local irreducible] aw Fa Fh DrK
set_option maxHeartbeats 1600000 in
theorem formula_fa (f : FM) (hf : FmOk f) (hv : f.vars ≤ 24) : Fa Tryz.prog 71 [.agg (fmc false f)] (.c (bs true (formTo f (2 ^ f.vars.toNat)))) := by
  have f1 := hf.v0
  have e1 := shl_one f.vars.toNat (by omega)
  rw [show ((f.vars.toNat : Nat) : Int) = f.vars from by omega] at e1
  have hp : 2 ^ f.vars.toNat ≤ 16777216 := by
    have h3 : 2 ^ f.vars.toNat ≤ 2 ^ 24 := Nat.pow_le_pow_right (by omega) (by omega)
    have h4 : (2 : Nat) ^ 24 = 16777216 := by decide
    omega
  generalize 2 ^ f.vars.toNat = M at *
  refine fa_of_body Tryz.func71 rfl rfl (by simp [Tryz.ntmps71]) fun C hC => ?_
  simp only [initS, Nat.reduceAdd]
  refine yG e1 ?_
  refine yB e1 fun g1 hn_g1=>?_
  refine yG (oj e1 hn_g1) ?_
  refine aw_lp (fun x : Option Nat × Nat => [(1, .c (.optr g1 0)), (3, .c (gs x.1 1 x.2)), (4, .c (.int .i64 x.2))]) (fun x => [(g1, .cells 50 3 (ofL (fmc false f)))] ++ gh x.1 4 x.2 (bsF (formTo f x.2))) (fun x => (x.1 = none → x.2 = 0) ∧ (∀ g, x.1 = some g → ¬ g = g1) ∧ x.2 ≤ M) (fun x => M - x.2) (none, 0) (zB (oj e1 hn_g1)) zZ ⟨fun _ => rfl, (fun g e => by cases e), Nat.zero_le _⟩ ?_
  rintro ⟨og, k⟩ ⟨hog, hgn, hk⟩
  dsimp only at hog hgn hk ⊢
  refine yS (oj e1 hn_g1) ?_
  have hvl := formTo_len f k
  refine yG (oj e1 hn_g1) ?_
  refine yF (oj e1 hn_g1) (fun hb=>?_) fun hb=>?_
  · have hin : k < M := by have := of_decide_eq_true hb; omega
    refine yG (oj e1 hn_g1) ?_
    refine yC (oj e1 hn_g1) (fvalue_fa f hf k ?_) ?_
    · omega
    refine yG (oj e1 hn_g1) ?_
    refine aw_push (pre := [(g1, .cells 50 3 (ofL (fmc false f)))]) rfl rfl rfl rfl rfl rfl rfl (zE (oj e1 hn_g1)) (zE (oj e1 hn_g1)) (by rfl) (by omega) (by omega) (zE (oj e1 hn_g1)) (by omega) (by exact hog) (zE (oj e1 hn_g1)) (by rfl) (by rfl) (by first | rfl | simp only [Nat.mul_one, List.nil_append, List.cons_append] <;> rfl) (by unfold maxLen; omega) (by omega) (by exact bs_push hvl _) fun g hn_g => ?_
    replace hn_g := Heap.ne_of hn_g
    first | dsimp only [Heap.ne, gh] at hn_g | dsimp only [Heap.ne] at hn_g | skip
    refine yS (oj e1 (oj hn_g1 hn_g)) ?_
    refine yG (oj e1 (oj hn_g1 hn_g)) ?_
    refine aw_stop ⟨(some g, k + 1), by dsimp only; omega, (zB (oj e1 (oj hn_g1 hn_g))), zZ, some_ne, (fun g e => by cases e; exact (of_eq_false hn_g.1.1)), by dsimp only; omega⟩
  · have hin : k = M := by have := of_decide_eq_false hb; omega
    subst hin
    refine yG (oj e1 hn_g1) ?_
    refine yT hC (oj e1 hn_g1) ?_
    exact .one (.c (ler_gsb (pre := [(g1, _)]) hog (fun g e => by simp only [Heap.keys, List.map_cons, List.map_nil, List.mem_singleton]; exact hgn g e) hvl))
end Go.Proofs.YtcoflhkcpnoaaaaGreat
namespace Go.PN
open Go.AI
def findN (x : DN) : List DN → Nat → Option Nat
  | [], _ => none
  | y :: ns, i => if y = x then some i else findN x ns (i + 1)
def addF (o : List Int) (tb : List Bool) : Nat → Nat → Nat → List DN → List DN × Int
  | 0, _, st, ns => (ns, if tb.getD st false then 1 else 0)
  | k + 1, lv, st, ns =>
    let a := addF o tb k (lv + 1) st ns
    let b := addF o tb k (lv + 1) (st ||| 2 ^ (o.getD lv 0).toNat) a.1
    if a.2 = b.2 then (b.1, a.2) else
      let x : DN := ⟨o.getD lv 0, a.2, b.2⟩
      match findN x b.1 0 with
      | some i => (b.1, 2 + i)
      | none => (b.1 ++ [x], 1 + ((b.1.length + 1 : Nat) : Int))
theorem findN_step {x : DN} {ns : List DN} {i : Nat} (h : i < ns.length) : findN x (ns.drop i) i = if ns.getD i dn0 = x then some i else findN x (ns.drop (i + 1)) (i + 1) := by
  rw [List.drop_eq_getElem_cons h, findN]
  rw [List.getD_eq_getElem?_getD, List.getElem?_eq_getElem h]
  rfl
theorem dn_beq (a : DN) (v l u : Int) : (a.v == v && (a.lo == l && a.hi == u)) = decide (a = ⟨v, l, u⟩) := by
  rw [Bool.eq_iff_iff]
  simp only [Bool.and_eq_true, beq_iff_eq, decide_eq_true_eq]
  cases a
  simp
end Go.PN
namespace Go.AI
section
variable {E : Env} {K : List It} {σ : Sl} {h : Heap}
theorem aw_rethw {P : Program} {fn : Func} {C : Ctx} {Q : AV → Heap → Prop} {rvs : List ResultVar} (hrs : fn.results = rvs.toArray) {h' : Heap} (hsub : h'.Sublist h) (k : ∀ R : Option AV → Prop, (∀ x, flatR x = true → Q x h' → R (some x)) → R (resAV P σ h rvs)) :
    aw (envOfH P fn C Q) (.code .ret :: K) σ h := by
  have hr : ∀ x, flatR x = true → Q x h' → some x = resAV P σ h rvs → aw (envOfH P fn C Q) (.code .ret :: K) σ h := fun x hf hq e a w s => by
    refine wp_ret (exW_ret a w ?_)
    obtain ⟨v, hv, hrep⟩ := results_run s hrs e.symm (flatR_spec hf)
    have hks : ∀ b, b ∈ h'.keys → b ∈ h.keys := fun b hb => by
      obtain ⟨p, hp, e⟩ := List.mem_map.1 hb
      exact List.mem_map.2 ⟨p, hsub.subset hp, e⟩
    have kp : Keeps (Stab C h w) (Stab C h' w) w w := ⟨fun t b hb => ⟨hb.1, hb.2.1, fun hm => hb.2.2 (hks b hm)⟩, fun _ _ _ => rfl, fun _ _ e => e⟩
    exact ⟨s.defers, v, hv, v, x, h', rfl, hq, (hsub.map _).nodup s.nodup, fun g hg => s.keys g (hks g hg), hrep.keep kp, fun g o hm => ORep.keep kp rfl (s.heap g o (hsub.subset hm)), s.frame⟩
  have := k (fun y => y = resAV P σ h rvs → aw (envOfH P fn C Q) (.code .ret :: K) σ h) hr
  exact this rfl
end
theorem updF_at (xs : List CV) (i : Nat) (b : CV) (h : i < xs.length) : updF (ofL xs) i [b] = ofL (xs.set i b) := by
  funext j
  simp only [updF]
  by_cases hj : j = i
  · subst hj
    rw [if_pos rfl, ofL_get (xs.set j b) j b (by rw [List.getElem?_set_self h])]
  · rw [if_neg hj]
    by_cases hl : j < xs.length
    · rw [ofL_get xs j xs[j] (List.getElem?_eq_getElem hl), ofL_get (xs.set i b) j xs[j] (by rw [List.getElem?_set_ne (Ne.symm hj)]; exact List.getElem?_eq_getElem hl)]
    · have e : ∀ (ys : List CV) (n : Nat), ys.length ≤ n → ofL ys n = .any := by
        intro ys
        induction ys with
        | nil => intro n _; rfl
        | cons y ys ih =>
          intro n hn
          match n, hn with
          | n + 1, hn => exact ih n (by simpa using hn)
      rw [e xs j (by omega), e (xs.set i b) j (by rw [List.length_set]; omega)]
@[go_sem ↓] theorem updF_3_0 (a b c x : CV) : updF (ofL [a, b, c]) 0 [x] = ofL [x, b, c] := updF_at [a, b, c] 0 x (by simp)
@[go_sem ↓] theorem updF_3_1 (a b c x : CV) : updF (ofL [a, b, c]) 1 [x] = ofL [a, x, c] := updF_at [a, b, c] 1 x (by simp)
@[go_sem ↓] theorem updF_3_2 (a b c x : CV) : updF (ofL [a, b, c]) 2 [x] = ofL [a, b, x] := updF_at [a, b, c] 2 x (by simp)
theorem solid_gs3 {og : Option Nat} {s n m : Nat} {t : Bool} {f : Nat → CV} {k : IntKind} {z : Int} : (AV.agg [.row t 1 m f, gs og s n, .int k z]).cells.all CV.solid = true := by
  cases og <;> rfl
end Go.AI
namespace Go.Proofs.YtcoflhkcpnoaaaaGreat
open Go.AI Go.PN
attribute [local irreducible] aw Fa Fh DrK
def AddOk (o : List Int) (tb : List Bool) (rt : Int) (k : Nat) : Prop := ∀ (lv st : Nat) (ns : List DN) (og : Option Nat) (n : Nat), lv + k = o.length → st < 2 ^ o.length → ns.length = n → n + 2 ^ k ≤ 1000000 → (og = none → n = 0) →
    Fh Tryz.prog 117 (gh og 88 (n * 3) (dnsF ns)) [.agg [is true o, gs og 3 n, .int .i64 rt], .c (bs false tb), .c (.int .i64 lv), .c (.int .i64 st)]
      (fun res h => ∃ og' n', (addF o tb k lv st ns).1.length = n' ∧ n' < n + 2 ^ k ∧ (og' = none → n' = 0) ∧ res = .tup [.agg [is true o, gs og' 3 n', .int .i64 rt], .c (.int .i64 (addF o tb k lv st ns).2)] ∧ h = gh og' 88 (n' * 3) (dnsF (addF o tb k lv st ns).1))
set_option maxRecDepth 100000 in
set_option maxHeartbeats 3200000 in
theorem add_zero (o : List Int) (tb : List Bool) (rt : Int) (ho : o.length ≤ 12) (hr : ∀ x ∈ o, 0 ≤ x ∧ x < o.length) (ht : tb.length = 2 ^ o.length) : AddOk o tb rt 0 := by
  intro lv st ns og n hk hst hn hnl hog
  refine fh_of_body Tryz.func117 rfl rfl (by simp [Tryz.ntmps117]) fun C hC => ?_
  simp only [initS, Nat.reduceAdd]
  refine xG ?_
  refine xB fun g4 hn_g4=>?_
  refine yG hn_g4 ?_
  refine yA hn_g4 fun g8 hn_g8=>?_
  refine yG (oj hn_g4 hn_g8) ?_
  have e1 : ((lv : Int) == (o.length : Int)) = true := by simp; omega
  refine yG (oj hn_g4 (oj hn_g8 e1)) ?_
  refine yP (oj hn_g4 (oj hn_g8 e1)) ?_
  refine yG (oj hn_g4 (oj hn_g8 e1)) ?_
  refine yF (oj hn_g4 (oj hn_g8 e1)) (fun hb=>?_) fun hb=>?_
  · skip
    refine yG (oj hn_g4 (oj hn_g8 e1)) ?_
    refine yW (oj hn_g4 (oj hn_g8 e1)) ?_
    refine yS (oj hn_g4 (oj hn_g8 e1)) ?_
    refine yG (oj hn_g4 (oj hn_g8 e1)) ?_
    refine aw_keep [(8, .c (.optr g8 0)), (9, .c (.int .i64 1))] ((g8, .cells 25 3 (ofL [is true o, gs og 3 n, .int .i64 rt])) :: gh og 88 (n * 3) (dnsF ns)) (zB (oj hn_g4 (oj hn_g8 e1))) (List.Sublist.cons_cons _ (List.Sublist.cons _ (List.Sublist.refl _))) ?_
    refine aw_rethw (h' := gh og 88 (n * 3) (dnsF ns)) rfl (List.Sublist.cons _ (List.Sublist.refl _)) (fun R hR => ?_)
    simp only [go_sem, hn_g4, hn_g8, e1]
    refine hR _ rfl ?_
    clear hR R
    exact ⟨og, n, hn, by simp, hog, by rw [addF, hb]; rfl, rfl⟩
  · skip
    refine yG (oj hn_g4 (oj hn_g8 e1)) ?_
    refine yW (oj hn_g4 (oj hn_g8 e1)) ?_
    refine yS (oj hn_g4 (oj hn_g8 e1)) ?_
    refine yG (oj hn_g4 (oj hn_g8 e1)) ?_
    refine aw_keep [(8, .c (.optr g8 0)), (9, .c (.int .i64 0))] ((g8, .cells 25 3 (ofL [is true o, gs og 3 n, .int .i64 rt])) :: gh og 88 (n * 3) (dnsF ns)) (zB (oj hn_g4 (oj hn_g8 e1))) (List.Sublist.cons_cons _ (List.Sublist.cons _ (List.Sublist.refl _))) ?_
    refine aw_rethw (h' := gh og 88 (n * 3) (dnsF ns)) rfl (List.Sublist.cons _ (List.Sublist.refl _)) (fun R hR => ?_)
    simp only [go_sem, hn_g4, hn_g8, e1]
    refine hR _ rfl ?_
    clear hR R
    exact ⟨og, n, hn, by simp, hog, by rw [addF, hb]; rfl, rfl⟩
end Go.Proofs.YtcoflhkcpnoaaaaGreat
namespace Go.PN
open Go.AI
def lvZ (o : List Int) (ns : List DN) (r : Int) : Int := if r < 2 then o.length else placeZ o (ns.getD (r - 2).toNat dn0).v
structure NdOk (o : List Int) (ns : List DN) (i : Nat) : Prop where
  nk : NodeOk o.length i (ns.getD i dn0)
  ne : (ns.getD i dn0).lo ≠ (ns.getD i dn0).hi
  bl : placeZ o (ns.getD i dn0).v < lvZ o ns (ns.getD i dn0).lo
  bh : placeZ o (ns.getD i dn0).v < lvZ o ns (ns.getD i dn0).hi
  new : ns.getD i dn0 ∉ ns.take i
def TabOk (o : List Int) (ns : List DN) : Prop := ∀ i, i < ns.length → NdOk o ns i
def RefOk (ns : List DN) (r : Int) : Prop := 0 ≤ r ∧ r < ns.length + 2
theorem TabOk.ns {o : List Int} {ns : List DN} (h : TabOk o ns) : NsOk o.length ns := fun i hi => (h i hi).nk
theorem getD_app {ns xs : List DN} {i : Nat} (h : i < ns.length) : (ns ++ xs).getD i dn0 = ns.getD i dn0 := by
  rw [List.getD_eq_getElem?_getD, List.getD_eq_getElem?_getD, List.getElem?_append_left h]
theorem ref_app {ns xs : List DN} {r : Int} (h : RefOk ns r) : RefOk (ns ++ xs) r := by
  unfold RefOk at h ⊢
  rw [List.length_append]
  omega
theorem lv_app {o : List Int} {ns xs : List DN} {r : Int} (h : RefOk ns r) : lvZ o (ns ++ xs) r = lvZ o ns r := by
  unfold lvZ
  unfold RefOk at h
  split
  · rfl
  · rw [getD_app (by omega)]
theorem evalF_app {m : Nat} {ns xs : List DN} {s : Nat} (hn : NsOk m ns) : ∀ (k : Nat) (r : Int), RefOk ns r → evalF (ns ++ xs) s k r = evalF ns s k r
  | 0, r, _ => rfl
  | k + 1, r, hr => by
    rw [evalF, evalF]
    split
    · rfl
    · rename_i h1
      unfold RefOk at hr
      rw [getD_app (by omega)]
      have := kid_lt hn (s := s) (r := r) (by omega) hr.2
      unfold kid at this
      exact evalF_app hn k _ ⟨this.1, by omega⟩
theorem eval_app {m : Nat} {ns xs : List DN} {s : Nat} (hn : NsOk m ns) {r : Int} (hr : RefOk ns r) : evalD (ns ++ xs) s r = evalD ns s r := evalF_app hn _ _ hr
theorem kids_ref {o : List Int} {ns : List DN} (h : TabOk o ns) {i : Nat} (hi : i < ns.length) : RefOk ns (ns.getD i dn0).lo ∧ RefOk ns (ns.getD i dn0).hi := by
  obtain ⟨_, _, l0, l1, h0, h1⟩ := (h i hi).nk
  exact ⟨⟨l0, by omega⟩, ⟨h0, by omega⟩⟩
theorem nd_app {o : List Int} {ns xs : List DN} (h : TabOk o ns) {i : Nat} (hi : i < ns.length) : NdOk o (ns ++ xs) i := by
  obtain ⟨r1, r2⟩ := kids_ref h hi
  obtain ⟨a, b, c, d, e⟩ := h i hi
  refine ⟨?_, ?_, ?_, ?_, ?_⟩ <;> rw [getD_app hi]
  · exact a
  · exact b
  · rw [lv_app r1]; exact c
  · rw [lv_app r2]; exact d
  · rw [List.take_append_of_le_length (by omega)]; exact e
theorem findN_none {x : DN} : ∀ {ns : List DN} {i : Nat}, findN x ns i = none → x ∉ ns
  | [], _, _ => by simp
  | y :: ns, i, h => by
    rw [findN] at h
    split at h
    · cases h
    · rename_i hn
      rw [List.mem_cons, not_or]
      exact ⟨fun e => hn e.symm, findN_none h⟩
theorem findN_some {x : DN} : ∀ {ns : List DN} {i j : Nat}, findN x ns i = some j → i ≤ j ∧ j < i + ns.length ∧ ns.getD (j - i) dn0 = x
  | [], _, _, h => by simp [findN] at h
  | y :: ns, i, j, h => by
    rw [findN] at h
    split at h
    · rename_i e
      injection h with h
      subst h
      rw [Nat.sub_self]
      exact ⟨Nat.le_refl _, by simp, e⟩
    · obtain ⟨h1, h2, h3⟩ := findN_some h
      refine ⟨by omega, by simp; omega, ?_⟩
      rw [show j - i = (j - (i + 1)) + 1 from by omega]
      simpa using h3
def mkF (ns : List DN) (v lo hi : Int) : List DN × Int :=
  if lo = hi then (ns, lo) else match findN ⟨v, lo, hi⟩ ns 0 with
    | some i => (ns, 2 + i)
    | none => (ns ++ [⟨v, lo, hi⟩], 2 + ns.length)
structure Later (o : List Int) (ns ns' : List DN) (n : Nat) : Prop where
  tab : TabOk o ns'
  pre : ∃ xs, ns' = ns ++ xs
  len : ns'.length ≤ ns.length + n
theorem Later.refl {o : List Int} {ns : List DN} (h : TabOk o ns) (n : Nat) : Later o ns ns n := ⟨h, ⟨[], by simp⟩, by omega⟩
theorem Later.trans {o : List Int} {a b c : List DN} {n m k : Nat} (h1 : Later o a b n) (h2 : Later o b c m) (hk : n + m ≤ k) : Later o a c k := by
  obtain ⟨_, ⟨xs, e1⟩, l1⟩ := h1
  obtain ⟨t2, ⟨ys, e2⟩, l2⟩ := h2
  exact ⟨t2, ⟨xs ++ ys, by rw [e2, e1, List.append_assoc]⟩, by omega⟩
theorem Later.ref {o : List Int} {a b : List DN} {n : Nat} (h : Later o a b n) {r : Int} (hr : RefOk a r) : RefOk b r := by
  obtain ⟨xs, e⟩ := h.pre
  rw [e]; exact ref_app hr
theorem Later.lv {o : List Int} {a b : List DN} {n : Nat} (h : Later o a b n) {r : Int} (hr : RefOk a r) : lvZ o b r = lvZ o a r := by
  obtain ⟨xs, e⟩ := h.pre
  rw [e]; exact lv_app hr
theorem Later.eval {o : List Int} {a b : List DN} {n : Nat} (h : Later o a b n) (ha : TabOk o a) {r : Int} (hr : RefOk a r) (s : Nat) : evalD b s r = evalD a s r := by
  obtain ⟨xs, e⟩ := h.pre
  rw [e]; exact eval_app ha.ns hr
theorem eval_node {o : List Int} {ns : List DN} (h : TabOk o ns) {i : Nat} (hi : i < ns.length) {v lo hi' : Int} (e : ns.getD i dn0 = ⟨v, lo, hi'⟩) (s : Nat) : evalD ns s (2 + i) = if s.testBit v.toNat then evalD ns s hi' else evalD ns s lo := by
  rw [evalD_step h.ns (by omega) (by omega)]
  unfold kid
  rw [show ((2 : Int) + (i : Int) - 2).toNat = i from by omega, e]
  dsimp only
  split <;> rfl
theorem lv_node {o : List Int} {ns : List DN} {i : Nat} : lvZ o ns (2 + i) = placeZ o (ns.getD i dn0).v := by
  unfold lvZ
  rw [if_neg (by omega), show ((2 : Int) + (i : Int) - 2).toNat = i from by omega]
theorem mk_ok {o : List Int} {ns : List DN} (h : TabOk o ns) {v lo hi : Int} (hv0 : 0 ≤ v) (hv1 : v < o.length) (hl : RefOk ns lo) (hh : RefOk ns hi) (bl : placeZ o v < lvZ o ns lo) (bh : placeZ o v < lvZ o ns hi) :
    Later o ns (mkF ns v lo hi).1 1 ∧ RefOk (mkF ns v lo hi).1 (mkF ns v lo hi).2 ∧ placeZ o v ≤ lvZ o (mkF ns v lo hi).1 (mkF ns v lo hi).2 ∧ ∀ s, evalD (mkF ns v lo hi).1 s (mkF ns v lo hi).2 = if s.testBit v.toNat then evalD ns s hi else evalD ns s lo := by
  unfold mkF
  by_cases e : lo = hi
  · subst e
    rw [if_pos rfl]
    exact ⟨Later.refl h 1, hl, Int.le_of_lt bl, fun s => by split <;> rfl⟩
  · rw [if_neg e]
    cases hf : findN ⟨v, lo, hi⟩ ns 0 with
    | some i =>
      obtain ⟨_, h2, h3⟩ := findN_some hf
      rw [Nat.sub_zero] at h3
      have hi' : i < ns.length := by omega
      refine ⟨Later.refl h 1, ⟨by show (0 : Int) ≤ 2 + i; omega, by show (2 : Int) + i < ns.length + 2; omega⟩, ?_, fun s => eval_node h hi' h3 s⟩
      show placeZ o v ≤ lvZ o ns (2 + i)
      rw [lv_node, h3]
      exact Int.le_refl _
    | none =>
      have hnew := findN_none hf
      have hg : (ns ++ [(⟨v, lo, hi⟩ : DN)]).getD ns.length dn0 = ⟨v, lo, hi⟩ := by
        rw [List.getD_eq_getElem?_getD, List.getElem?_append_right (Nat.le_refl _), Nat.sub_self]; rfl
      have htab : TabOk o (ns ++ [(⟨v, lo, hi⟩ : DN)]) := by
        intro i hi2
        rw [List.length_append, List.length_singleton] at hi2
        by_cases hin : i < ns.length
        · exact nd_app h hin
        · have : i = ns.length := by omega
          subst this
          unfold RefOk at hl hh
          refine ⟨?_, ?_, ?_, ?_, ?_⟩ <;> rw [hg]
          · exact ⟨hv0, hv1, hl.1, hl.2, hh.1, hh.2⟩
          · exact e
          · rw [lv_app hl]; exact bl
          · rw [lv_app hh]; exact bh
          · rw [List.take_append_of_le_length (Nat.le_refl _), List.take_length]; exact hnew
      refine ⟨⟨htab, ⟨_, rfl⟩, by simp⟩, ⟨by show (0 : Int) ≤ 2 + ns.length; omega, by show (2 : Int) + ns.length < (ns ++ [_]).length + 2; simp; omega⟩, ?_, fun s => ?_⟩
      · show placeZ o v ≤ lvZ o (ns ++ [_]) (2 + ns.length)
        rw [lv_node, hg]
        exact Int.le_refl _
      · show evalD (ns ++ [_]) s (2 + ns.length) = _
        rw [eval_node htab (by simp) hg s, eval_app h.ns hh, eval_app h.ns hl]
def kidsF (o : List Int) (ns : List DN) (r L : Int) : Int × Int := if lvZ o ns r ≠ L then (r, r) else ((ns.getD (r - 2).toNat dn0).lo, (ns.getD (r - 2).toNat dn0).hi)
theorem place_at {o : List Int} {v L : Int} (h : placeZ o v = L) (hL : 0 ≤ L) (hv : v ∈ o) : o.getD L.toNat 0 = v := by
  unfold placeZ at h
  rw [if_pos hv] at h
  have : L.toNat = o.idxOf v := by omega
  rw [this]
  have hlt := List.idxOf_lt_length_of_mem hv
  rw [getDZ hlt]
  exact List.getElem_idxOf hlt
theorem place_nonneg {o : List Int} {v : Int} (hv : v ∈ o) : 0 ≤ placeZ o v := by
  unfold placeZ
  rw [if_pos hv]; omega
theorem lv_le {o : List Int} {ns : List DN} {r : Int} : lvZ o ns r ≤ o.length := by
  unfold lvZ
  split
  · omega
  · unfold placeZ
    split
    · rename_i h; have := List.idxOf_lt_length_of_mem h; omega
    · omega
theorem kids_ok {o : List Int} {ns : List DN} (h : TabOk o ns) (hm : ∀ v : Int, 0 ≤ v → v < o.length → v ∈ o) {r L : Int} (hr : RefOk ns r) (h0 : 0 ≤ L) (hL : L < o.length) (hlv : L ≤ lvZ o ns r) :
    RefOk ns (kidsF o ns r L).1 ∧ RefOk ns (kidsF o ns r L).2 ∧ L + 1 ≤ lvZ o ns (kidsF o ns r L).1 ∧ L + 1 ≤ lvZ o ns (kidsF o ns r L).2 ∧ ∀ s : Nat, evalD ns s r = if s.testBit (o.getD L.toNat 0).toNat then evalD ns s (kidsF o ns r L).2 else evalD ns s (kidsF o ns r L).1 := by
  unfold kidsF
  by_cases e : lvZ o ns r = L
  · rw [if_neg (by simpa using e)]
    have hr2 : 2 ≤ r := by
      refine Classical.byContradiction fun hn => ?_
      unfold lvZ at e
      rw [if_pos (by omega)] at e
      omega
    unfold RefOk at hr
    have hi : (r - 2).toNat < ns.length := by omega
    obtain ⟨r1, r2⟩ := kids_ref h hi
    have nd := h _ hi
    have hpl : placeZ o (ns.getD (r - 2).toNat dn0).v = L := by
      unfold lvZ at e
      rw [if_neg (by omega)] at e
      exact e
    have hvm : (ns.getD (r - 2).toNat dn0).v ∈ o := hm _ nd.nk.v0 nd.nk.v1
    have hg := place_at hpl h0 hvm
    refine ⟨r1, r2, by have := nd.bl; show L + 1 ≤ lvZ o ns (ns.getD (r - 2).toNat dn0).lo; omega, by have := nd.bh; show L + 1 ≤ lvZ o ns (ns.getD (r - 2).toNat dn0).hi; omega, fun s => ?_⟩
    have := eval_node h hi (v := (ns.getD (r - 2).toNat dn0).v) (lo := (ns.getD (r - 2).toNat dn0).lo) (hi' := (ns.getD (r - 2).toNat dn0).hi) rfl s
    rw [show (2 : Int) + (((r - 2).toNat : Nat) : Int) = r from by omega] at this
    rw [this, hg]
  · rw [if_pos (by simpa using e)]
    exact ⟨hr, hr, by show L + 1 ≤ lvZ o ns r; omega, by show L + 1 ≤ lvZ o ns r; omega, fun s => by split <;> rfl⟩
abbrev Mem3 := List ((Int × Int × Int) × Int)
def lv3 (o : List Int) (ns : List DN) (k : Int × Int × Int) : Int := min (lvZ o ns k.1) (min (lvZ o ns k.2.1) (lvZ o ns k.2.2))
structure MemE (o : List Int) (ns : List DN) (e : (Int × Int × Int) × Int) : Prop where
  c : RefOk ns e.1.1
  a : RefOk ns e.1.2.1
  b : RefOk ns e.1.2.2
  r : RefOk ns e.2
  lv : lv3 o ns e.1 ≤ lvZ o ns e.2
  sem : ∀ s, evalD ns s e.2 = if evalD ns s e.1.1 then evalD ns s e.1.2.1 else evalD ns s e.1.2.2
def MemOk (o : List Int) (ns : List DN) (mm : Mem3) : Prop := ∀ e ∈ mm, MemE o ns e
theorem Later.lv3 {o : List Int} {a b : List DN} {n : Nat} (h : Later o a b n) {k : Int × Int × Int} (h1 : RefOk a k.1) (h2 : RefOk a k.2.1) (h3 : RefOk a k.2.2) : Go.PN.lv3 o b k = Go.PN.lv3 o a k := by
  unfold Go.PN.lv3
  rw [h.lv h1, h.lv h2, h.lv h3]
theorem MemE.later {o : List Int} {a b : List DN} {n : Nat} (h : Later o a b n) (ha : TabOk o a) {e : (Int × Int × Int) × Int} (he : MemE o a e) : MemE o b e :=
  ⟨h.ref he.c, h.ref he.a, h.ref he.b, h.ref he.r, by rw [h.lv3 he.c he.a he.b, h.lv he.r]; exact he.lv, fun s => by rw [h.eval ha he.r, h.eval ha he.c, h.eval ha he.a, h.eval ha he.b]; exact he.sem s⟩
theorem MemOk.later {o : List Int} {a b : List DN} {n : Nat} (h : Later o a b n) (ha : TabOk o a) {mm : Mem3} (hm : MemOk o a mm) : MemOk o b mm := fun e he => (hm e he).later h ha
end Go.PN
namespace Go.PN
open Go.AI
structure ChP (o : List Int) (ns : List DN) (mm : Mem3) (c a b L : Int) (k : Nat) (ns' : List DN) (mm' : Mem3) (r : Int) : Prop where
  lat : Later o ns ns' (2 ^ k - 1)
  mem : MemOk o ns' mm'
  mlen : mm'.length ≤ mm.length + (2 ^ k - 1)
  mnew : ∀ e ∈ mm', e ∈ mm ∨ L ≤ lv3 o ns' e.1
  ref : RefOk ns' r
  lv : L ≤ lvZ o ns' r
  sem : ∀ s, evalD ns' s r = if evalD ns s c then evalD ns s a else evalD ns s b
theorem ChP.same {o : List Int} {ns : List DN} {mm : Mem3} {c a b L : Int} {k : Nat} {r : Int} (ht : TabOk o ns) (hm : MemOk o ns mm) (hr : RefOk ns r) (hl : L ≤ lvZ o ns r) (hs : ∀ s, evalD ns s r = if evalD ns s c then evalD ns s a else evalD ns s b) : ChP o ns mm c a b L k ns mm r :=
  ⟨Later.refl ht _, hm, by omega, fun e he => .inl he, hr, hl, hs⟩
theorem ChP.step {o : List Int} {ns ns1 ns2 : List DN} {mm mm1 mm2 : Mem3} {c a b L lo hi : Int} {k : Nat} (hmem : ∀ v : Int, 0 ≤ v → v < o.length → v ∈ o) (hpm : ∀ i : Nat, i < o.length → 0 ≤ o.getD i 0 ∧ o.getD i 0 < o.length ∧ placeZ o (o.getD i 0) = i)
    (ht : TabOk o ns) (hc : RefOk ns c) (ha : RefOk ns a) (hb : RefOk ns b) (h0 : 0 ≤ L) (hL : L < o.length) (hl : lv3 o ns (c, a, b) = L)
    (h1 : ChP o ns mm (kidsF o ns c L).1 (kidsF o ns a L).1 (kidsF o ns b L).1 (L + 1) k ns1 mm1 lo) (h2 : ChP o ns1 mm1 (kidsF o ns c L).2 (kidsF o ns a L).2 (kidsF o ns b L).2 (L + 1) k ns2 mm2 hi) :
    ChP o ns mm c a b L (k + 1) (mkF ns2 (o.getD L.toNat 0) lo hi).1 (mm2 ++ [((c, a, b), (mkF ns2 (o.getD L.toNat 0) lo hi).2)]) (mkF ns2 (o.getD L.toNat 0) lo hi).2 := by
  unfold lv3 at hl
  simp only at hl
  obtain ⟨v0, v1, vp⟩ := hpm L.toNat (by omega)
  have k1 := kids_ok ht hmem hc h0 hL (by omega)
  have k2 := kids_ok ht hmem ha h0 hL (by omega)
  have k3 := kids_ok ht hmem hb h0 hL (by omega)
  have hlo := h2.lat.lv h1.ref
  have m := mk_ok h2.lat.tab v0 v1 (h2.lat.ref h1.ref) h2.ref (by have := h1.lv; omega) (by have := h2.lv; omega)
  obtain ⟨m1, m2, m3, m4⟩ := m
  have hp : 2 ^ (k + 1) = 2 ^ k + 2 ^ k := by rw [Nat.pow_succ]; omega
  have hk : 0 < 2 ^ k := Nat.pow_pos (by omega)
  have l12 : Later o ns ns2 (2 ^ k - 1 + (2 ^ k - 1)) := h1.lat.trans h2.lat (Nat.le_refl _)
  have l13 : Later o ns (mkF ns2 (o.getD L.toNat 0) lo hi).1 (2 ^ (k + 1) - 1) := l12.trans m1 (by omega)
  have hsem : ∀ s, evalD (mkF ns2 (o.getD L.toNat 0) lo hi).1 s (mkF ns2 (o.getD L.toNat 0) lo hi).2 = if evalD ns s c then evalD ns s a else evalD ns s b := fun s => by
    rw [m4 s, h2.sem s, h2.lat.eval h1.lat.tab h1.ref, h1.sem s, h1.lat.eval ht k1.2.1, h1.lat.eval ht k2.2.1, h1.lat.eval ht k3.2.1, k1.2.2.2.2 s, k2.2.2.2.2 s, k3.2.2.2.2 s]
    cases s.testBit (o.getD L.toNat 0).toNat <;> rfl
  refine ⟨l13, fun e he => ?_, by rw [List.length_append, List.length_singleton]; have := h1.mlen; have := h2.mlen; omega, fun e he => ?_, m2, by omega, hsem⟩
  · rcases List.mem_append.1 he with he | he
    · exact (h2.mem e he).later m1 h2.lat.tab
    · rw [List.mem_singleton] at he
      subst he
      refine ⟨l13.ref hc, l13.ref ha, l13.ref hb, m2, ?_, fun s => ?_⟩
      · rw [l13.lv3 (k := (c, a, b)) hc ha hb]
        unfold lv3
        simp only
        omega
      · show evalD _ s (mkF ns2 (o.getD L.toNat 0) lo hi).2 = _
        rw [hsem s, l13.eval ht hc, l13.eval ht ha, l13.eval ht hb]
  · rcases List.mem_append.1 he with he | he
    · have hold := h2.mem e he
      rcases h2.mnew e he with h | h
      · rcases h1.mnew e h with h' | h'
        · exact .inl h'
        · have e1 := h1.mem e h
          right
          rw [(h2.lat.trans m1 (Nat.le_refl _)).lv3 e1.c e1.a e1.b]
          omega
      · right
        rw [m1.lv3 hold.c hold.a hold.b]
        omega
    · rw [List.mem_singleton] at he
      subst he
      right
      rw [l13.lv3 (k := (c, a, b)) hc ha hb]
      unfold lv3
      simp only
      omega
theorem ChP.mono {o : List Int} {ns : List DN} {mm : Mem3} {c a b L L' : Int} {k : Nat} {ns' : List DN} {mm' : Mem3} {r : Int} (h : ChP o ns mm c a b L k ns' mm' r) (hl : L' ≤ L) : ChP o ns mm c a b L' k ns' mm' r :=
  ⟨h.lat, h.mem, h.mlen, fun e he => (h.mnew e he).imp id fun x => Int.le_trans hl x, h.ref, Int.le_trans hl h.lv, h.sem⟩
theorem lv3_nonneg {o : List Int} (hm : ∀ v : Int, 0 ≤ v → v < o.length → v ∈ o) {ns : List DN} (ht : TabOk o ns) {r : Int} (hr : RefOk ns r) : 0 ≤ lvZ o ns r := by
  unfold lvZ
  split
  · omega
  · unfold RefOk at hr
    obtain ⟨v0, v1, _, _, _, _⟩ := (ht (r - 2).toNat (by omega)).nk
    exact place_nonneg (hm _ v0 v1)
theorem lv_lt {o : List Int} {ns : List DN} (ht : TabOk o ns) {r : Int} (hr : RefOk ns r) (h2 : 2 ≤ r) : lvZ o ns r < o.length := by
  have hi : (r - 2).toNat < ns.length := by unfold RefOk at hr; omega
  have nd := ht _ hi
  have h1 := nd.bl
  have h3 := lv_le (o := o) (ns := ns) (r := (ns.getD (r - 2).toNat dn0).lo)
  unfold lvZ
  rw [if_neg (by omega)]
  omega
end Go.PN
namespace Go.PN
open Go.AI
theorem ieq_t {a b : Int} (h : a = b) : (a == b) = true ∧ decide (a = b) = true ∧ (a != b) = false ∧ (!decide (a = b)) = false := by subst h; simp
theorem ieq_f {a b : Int} (h : ¬ a = b) : (a == b) = false ∧ decide (a = b) = false ∧ (a != b) = true ∧ (!decide (a = b)) = true := by simp [h]
structure Sm (o : List Int) (ns : List DN) (sl sl' : List Int) (r : Int) : Prop where
  pre : ∃ zs, sl' = sl ++ zs
  len : sl'.length ≤ sl.length + (2 ^ (o.length - lvZ o ns r).toNat - 1)
theorem Sm.same {o : List Int} {ns : List DN} {sl : List Int} {r : Int} : Sm o ns sl sl r := ⟨⟨[], by simp⟩, by omega⟩
theorem Sm.node {o : List Int} {ns : List DN} {sl s1 s2 : List Int} {r : Int} (ht : TabOk o ns) (h2 : 2 ≤ r) (hr : r < ns.length + 2) (a : Sm o ns (sl ++ [r]) s1 (ns.getD (r - 2).toNat dn0).lo) (b : Sm o ns s1 s2 (ns.getD (r - 2).toNat dn0).hi) : Sm o ns sl s2 r := by
  obtain ⟨z1, e1⟩ := a.pre
  obtain ⟨z2, e2⟩ := b.pre
  refine ⟨⟨[r] ++ z1 ++ z2, by rw [e2, e1]; simp⟩, ?_⟩
  have hi' : (r - 2).toNat < ns.length := by omega
  have nd := ht _ hi'
  have b1 := nd.bl
  have b2 := nd.bh
  have hlr : lvZ o ns r = placeZ o (ns.getD (r - 2).toNat dn0).v := by unfold lvZ; rw [if_neg (by omega)]
  have ll := lv_le (o := o) (ns := ns) (r := (ns.getD (r - 2).toNat dn0).lo)
  have lh := lv_le (o := o) (ns := ns) (r := (ns.getD (r - 2).toNat dn0).hi)
  have la := a.len
  have lb := b.len
  rw [List.length_append, List.length_singleton] at la
  obtain ⟨q, hq⟩ : ∃ q, (o.length - lvZ o ns r).toNat = q + 1 := ⟨(o.length - lvZ o ns r).toNat - 1, by omega⟩
  have pa : 2 ^ ((o.length : Int) - lvZ o ns (ns.getD (r - 2).toNat dn0).lo).toNat ≤ 2 ^ q := Nat.pow_le_pow_right (by omega) (by omega)
  have pb : 2 ^ ((o.length : Int) - lvZ o ns (ns.getD (r - 2).toNat dn0).hi).toNat ≤ 2 ^ q := Nat.pow_le_pow_right (by omega) (by omega)
  have pq : 0 < 2 ^ q := Nat.pow_pos (by omega)
  rw [hq, Nat.pow_succ]
  omega
def snL (sl : List Int) : List (Int × Value) := sl.map fun e => (e, .bool true)
theorem sn_get (r : Int) : ∀ sl : List Int, kvGet r (snL sl) = if r ∈ sl then some (.bool true) else none
  | [] => by simp [snL, kvGet]
  | e :: sl => by
    show (if r = e then some (Value.bool true) else kvGet r (snL sl)) = _
    rw [sn_get r sl]
    by_cases h : r = e
    · subst h; simp
    · rw [if_neg h]
      by_cases hm : r ∈ sl
      · rw [if_pos hm, if_pos (List.mem_cons_of_mem _ hm)]
      · rw [if_neg hm, if_neg (by simp [h, hm])]
theorem sn_push (sl : List Int) (r : Int) : snL sl ++ [(r, .bool true)] = snL (sl ++ [r]) := by simp [snL]
end Go.PN
namespace Go.PN
open Go.AI
def arityB (kind : Int) (n : Nat) : Bool := if kind = 0 then decide ((n : Int) = 0) else if kind = 1 then decide ((n : Int) = 1) else decide ((n : Int) ≥ 1) && decide ((n : Int) ≤ 16)
def argOk (f : FM) (i : Nat) (a : Int) : Bool := decide (0 ≤ a) && decide (a < f.vars + i)
def kcode (x : FN) : Int := if x.kind = 0 then (if x.k ≠ 0 ∧ x.k ≠ 1 then 3 else 0) else if x.kind = 4 then (if x.k < 1 ∨ (x.args.length : Int) < x.k then 3 else 0) else if x.k ≠ 0 then 2 else 0
def fncode (f : FM) (i : Nat) : Int :=
  if (f.nodes.getD i fn0).kind < 0 ∨ 5 < (f.nodes.getD i fn0).kind then 7 else if !arityB (f.nodes.getD i fn0).kind (f.nodes.getD i fn0).args.length then 11
  else if !(f.nodes.getD i fn0).args.all (argOk f i) then 10 else kcode (f.nodes.getD i fn0)
def ffirst (f : FM) : Nat → Nat → Int
  | _, 0 => 0
  | i, k + 1 => if fncode f i ≠ 0 then fncode f i else ffirst f (i + 1) k
def fvalidB (f : FM) (a : Int) : Bool := decide (f.vars ≥ 0) && (decide (a ≥ 0) && (decide (a < f.vars) || decide (a - f.vars < f.nodes.length)))
def fcode (f : FM) : Int := if f.vars < 0 ∨ 24 < f.vars then 3 else if 128 < f.nodes.length then 4 else if ffirst f 0 f.nodes.length ≠ 0 then ffirst f 0 f.nodes.length else if fvalidB f f.top then 0 else 10
theorem ffirst_step {f : FM} {i n : Nat} (h : i < n) (h0 : fncode f i = 0) : ffirst f i (n - i) = ffirst f (i + 1) (n - (i + 1)) := by
  obtain ⟨k, hk⟩ : ∃ k, n - i = k + 1 := ⟨n - i - 1, by omega⟩
  rw [hk, ffirst, if_neg (by simp [h0]), show n - (i + 1) = k from by omega]
theorem ffirst_at {f : FM} {i n : Nat} (h : i < n) (h0 : fncode f i ≠ 0) : ffirst f i (n - i) = fncode f i := by
  obtain ⟨k, hk⟩ : ∃ k, n - i = k + 1 := ⟨n - i - 1, by omega⟩
  rw [hk, ffirst, if_pos h0]
theorem ffirst_zero {f : FM} : ∀ (k i : Nat), ffirst f i k = 0 → ∀ j, i ≤ j → j < i + k → fncode f j = 0
  | 0, i, _, j, h1, h2 => by omega
  | k + 1, i, h, j, h1, h2 => by
    rw [ffirst] at h
    split at h
    · rename_i hn; exact absurd h hn
    · rename_i hn
      rcases Nat.eq_or_lt_of_le h1 with e | e
      · rw [← e]; simpa using hn
      · exact ffirst_zero k (i + 1) h j (by omega) (by omega)
theorem all_take {p : Int → Bool} {l : List Int} (h : ∀ j, j < l.length → p (l.getD j 0) = true) : l.all p = true := by
  rw [List.all_eq_true]
  intro x hx
  obtain ⟨j, hj, rfl⟩ := List.mem_iff_getElem.1 hx
  have := h j hj
  rwa [List.getD_eq_getElem?_getD, List.getElem?_eq_getElem hj] at this
theorem all_not {p : Int → Bool} {l : List Int} {j : Nat} (hj : j < l.length) (h : p (l.getD j 0) = false) : l.all p = false := by
  rw [Bool.eq_false_iff]
  intro ha
  rw [List.all_eq_true] at ha
  have := ha l[j] (List.getElem_mem hj)
  rw [List.getD_eq_getElem?_getD, List.getElem?_eq_getElem hj] at h
  rw [show (some l[j]).getD 0 = l[j] from rfl] at h
  rw [h] at this
  cases this
end Go.PN
namespace Go.Proofs.YtcoflhkcpnoaaaaGreat
open Go.AI Go.PN
attribute [local irreducible] aw Fa Fh DrK
set_option maxHeartbeats 800000 in
theorem arguments_fa (kind : Int) (n : Nat) : Fa Tryz.prog 143 [.c (.int .i64 kind), .c (.int .i64 n)] (.c (.bool (arityB kind n))) := by
  refine fa_of_body Tryz.func143 rfl rfl (by simp [Tryz.ntmps143]) fun C hC => ?_
  simp only [initS, Nat.reduceAdd]
  refine xG ?_
  refine xF (fun h0=>?_) fun h0=>?_
  · have h0' : kind = 0 := eq_of_beq h0
    refine xG ?_
    refine xT hC ?_
    refine .one (.c (ler_bool ?_))
    unfold arityB
    rw [if_pos h0']
    rw [Bool.eq_iff_iff]; simp
  have h0' : ¬ kind = 0 := by simpa using h0
  refine xG ?_
  refine xF (fun h1=>?_) fun h1=>?_
  · have h1' : kind = 1 := eq_of_beq h1
    refine xG ?_
    refine xT hC ?_
    refine .one (.c (ler_bool ?_))
    unfold arityB
    rw [if_neg h0', if_pos h1']
    rw [Bool.eq_iff_iff]; simp
  have h1' : ¬ kind = 1 := by simpa using h1
  refine xG ?_
  refine aw_split 16 eE (fun h2 => ?_) (fun h2 => ?_) <;> refine xS ?_
  · refine xG ?_
    refine xT hC ?_
    refine .one (.c (ler_bool ?_))
    unfold arityB
    rw [if_neg h0', if_neg h1', h2]; rfl
  · refine xG ?_
    refine xT hC ?_
    refine .one (.c (ler_bool ?_))
    unfold arityB
    rw [if_neg h0', if_neg h1', h2]; rfl
set_option maxHeartbeats 800000 in
theorem fvalid_fa (f : FM) (a : Int) (hv : f.vars ≤ 1000) (ha0 : -9223372036854775808 ≤ a) (ha : a ≤ 9223372036854775807) : Fa Tryz.prog 131 [.agg (fmc false f), .c (.int .i64 a)] (.c (.bool (fvalidB f a))) := by
  refine fa_of_body Tryz.func131 rfl rfl (by simp [Tryz.ntmps131]) fun C hC => ?_
  simp only [initS, Nat.reduceAdd]
  refine xG ?_
  refine xB fun g2 hn_g2=>?_
  refine yG hn_g2 ?_
  refine aw_split 8 (zE hn_g2) (fun h0 => ?_) (fun h0 => ?_) <;> refine yS hn_g2 ?_
  · have h0' := of_decide_eq_true h0
    refine yG hn_g2 ?_
    refine aw_split 12 (zE hn_g2) (fun h1 => ?_) (fun h1 => ?_) <;> refine yS hn_g2 ?_
    · have h1' := of_decide_eq_true h1
      refine yG hn_g2 ?_
      refine aw_split 17 (zE hn_g2) (fun h2 => ?_) (fun h2 => ?_) <;> refine yS hn_g2 ?_
      · refine yG hn_g2 ?_
        refine yT hC hn_g2 ?_
        refine .one (.c (ler_bool ?_))
        unfold fvalidB
        rw [h0, h1, h2]; rfl
      · refine yG hn_g2 ?_
        refine yT hC hn_g2 ?_
        refine .one (.c (ler_bool ?_))
        unfold fvalidB
        rw [h0, h1, h2]; rfl
    · refine yG hn_g2 ?_
      refine yT hC hn_g2 ?_
      refine .one (.c (ler_bool ?_))
      unfold fvalidB
      rw [h0, h1]; rfl
  · refine yG hn_g2 ?_
    refine yT hC hn_g2 ?_
    refine .one (.c (ler_bool ?_))
    unfold fvalidB
    rw [h0]; rfl
set_option maxRecDepth 100000 in
set_option maxHeartbeats 3200000 in
theorem fcheckNode_fa (f : FM) (i : Nat) (hi : i < f.nodes.length) (hv0 : 0 ≤ f.vars) (hv : f.vars ≤ 1000) (hil : i ≤ 1000000) (hal : (f.nodes.getD i fn0).args.length ≤ 1099511627776) :
    Fa Tryz.prog 130 [.agg (fmc false f), .c (.int .i64 i)] (.c (errA (fncode f i))) := by
  unfold fncode
  refine fa_of_body Tryz.func130 rfl rfl (by simp [Tryz.ntmps130]) fun C hC => ?_
  simp only [initS, Nat.reduceAdd]
  refine xG ?_
  refine xB fun g2 hn_g2=>?_
  refine yG hn_g2 ?_
  generalize hx : f.nodes.getD i fn0 = x at *
  refine yA (oj hn_g2 hx) fun g5 hn_g5=>?_
  refine yG (oj hn_g2 (oj hx hn_g5)) ?_
  refine yW (oj hn_g2 (oj hx hn_g5)) ?_
  refine yS (oj hn_g2 (oj hx hn_g5)) ?_
  refine yG (oj hn_g2 (oj hx hn_g5)) ?_
  refine aw_split 16 (zE (oj hn_g2 (oj hx hn_g5))) (fun h1 => ?_) (fun h1 => ?_) <;> refine yS (oj hn_g2 (oj hx hn_g5)) ?_
  · have h1' := of_decide_eq_true h1
    rw [if_pos (.inl h1')]
    refine yG (oj hn_g2 (oj hx hn_g5)) ?_
    refine yP (oj hn_g2 (oj hx hn_g5)) ?_
    refine yG (oj hn_g2 (oj hx hn_g5)) ?_
    refine yT hC (oj hn_g2 (oj hx hn_g5)) ?_
    exact .one (.c (ler_errN rfl (by decide)))
  have h1' := of_decide_eq_false h1
  refine yG (oj hn_g2 (oj hx hn_g5)) ?_
  refine yF (oj hn_g2 (oj hx hn_g5)) (fun h2=>?_) fun h2=>?_
  · have h2' := of_decide_eq_true h2
    rw [if_pos (.inr (by omega))]
    refine yG (oj hn_g2 (oj hx hn_g5)) ?_
    refine yT hC (oj hn_g2 (oj hx hn_g5)) ?_
    exact .one (.c (ler_errN rfl (by decide)))
  have h2' := of_decide_eq_false h2
  rw [if_neg (by omega)]
  refine yG (oj hn_g2 (oj hx hn_g5)) ?_
  refine yC (oj hn_g2 (oj hx hn_g5)) (arguments_fa x.kind x.args.length) ?_
  refine yG (oj hn_g2 (oj hx hn_g5)) ?_
  refine yF (oj hn_g2 (oj hx hn_g5)) (fun h3=>?_) fun h3=>?_
  · rw [if_pos h3]
    refine yG (oj hn_g2 (oj hx hn_g5)) ?_
    refine yT hC (oj hn_g2 (oj hx hn_g5)) ?_
    exact .one (.c (ler_errN rfl (by decide)))
  rw [if_neg (by rw [h3]; simp)]
  refine yG (oj hn_g2 (oj hx hn_g5)) ?_
  refine aw_lp (fun j : Nat => [(1, .c (.int .i64 i)), (2, .c (.optr g2 0)), (5, .c (.optr g5 0)), (31, .c (is true x.args)), (32, .c (.int .i64 x.args.length)), (33, .c (.int .i64 j))]) (fun _ => [(g5, .cells 101 3 (ofL [.int .i64 x.kind, .int .i64 x.k, is true x.args])), (g2, .cells 50 3 (ofL (fmc false f)))]) (fun j => j ≤ x.args.length ∧ ∀ q, q < j → argOk f i (x.args.getD q 0) = true) (fun j => x.args.length - j) 0 (zB (oj hn_g2 (oj hx hn_g5))) zZ ⟨Nat.zero_le _, fun q hq => by omega⟩ ?_
  rintro j ⟨hj, hq⟩
  refine yG (oj hn_g2 (oj hx hn_g5)) ?_
  refine yF (oj hn_g2 (oj hx hn_g5)) (fun h4=>?_) fun h4=>?_
  · have h4' : j < x.args.length := by have := of_decide_eq_true h4; omega
    refine yG (oj hn_g2 (oj hx hn_g5)) ?_
    refine aw_split 39 (zE (oj hn_g2 (oj hx hn_g5))) (fun h5 => ?_) (fun h5 => ?_) <;> refine yS (oj hn_g2 (oj hx hn_g5)) ?_
    · have h5' := of_decide_eq_true h5
      rw [if_pos (by rw [all_not h4' (by unfold argOk; rw [decide_eq_false (by omega)]; rfl)]; rfl)]
      refine yG (oj hn_g2 (oj hx hn_g5)) ?_
      refine yP (oj hn_g2 (oj hx hn_g5)) ?_
      refine yG (oj hn_g2 (oj hx hn_g5)) ?_
      refine yT hC (oj hn_g2 (oj hx hn_g5)) ?_
      exact .one (.c (ler_errN rfl (by decide)))
    have h5' := of_decide_eq_false h5
    refine yG (oj hn_g2 (oj hx hn_g5)) ?_
    refine yF (oj hn_g2 (oj hx hn_g5)) (fun h6=>?_) fun h6=>?_
    · have h6' := of_decide_eq_true h6
      rw [if_pos (by rw [all_not h4' (by unfold argOk; rw [decide_eq_false (show ¬ x.args.getD j 0 < f.vars + i by omega), Bool.and_false])]; rfl)]
      refine yG (oj hn_g2 (oj hx hn_g5)) ?_
      refine yT hC (oj hn_g2 (oj hx hn_g5)) ?_
      exact .one (.c (ler_errN rfl (by decide)))
    have h6' := of_decide_eq_false h6
    refine yG (oj hn_g2 (oj hx hn_g5)) ?_
    refine aw_stop ⟨j + 1, by omega, (zB (oj hn_g2 (oj hx hn_g5))), zZ, by omega, fun q hql => ?_⟩
    by_cases e : q = j
    · subst e
      unfold argOk
      rw [decide_eq_true (by omega), decide_eq_true (by omega)]; rfl
    · exact hq q (by omega)
  have h4' : j = x.args.length := by have := of_decide_eq_false h4; omega
  subst h4'
  rw [if_neg (by rw [all_take hq]; simp)]
  unfold kcode
  refine yG (oj hn_g2 (oj hx hn_g5)) ?_
  refine yF (oj hn_g2 (oj hx hn_g5)) (fun k0=>?_) fun k0=>?_
  · have k0' : x.kind = 0 := eq_of_beq k0
    rw [if_pos k0']
    refine yG (oj hn_g2 (oj hx hn_g5)) ?_
    by_cases z0 : x.k = 0
    · have zz := ieq_t z0
      rw [if_neg (by omega)]
      refine yG (oj hn_g2 (oj hx (oj hn_g5 zz))) ?_
      refine yN (oj hn_g2 (oj hx (oj hn_g5 zz))) ?_
      refine yG (oj hn_g2 (oj hx (oj hn_g5 zz))) ?_
      refine yT hC (oj hn_g2 (oj hx (oj hn_g5 zz))) ?_
      exact .one (.c (ler_err0 rfl))
    · have zz := ieq_f z0
      refine yG (oj hn_g2 (oj hx (oj hn_g5 zz))) ?_
      refine yF (oj hn_g2 (oj hx (oj hn_g5 zz))) (fun k1=>?_) fun k1=>?_
      · have k1' : ¬ x.k = 1 := by simpa using k1
        rw [if_pos ⟨z0, k1'⟩]
        refine yG (oj hn_g2 (oj hx (oj hn_g5 zz))) ?_
        refine yT hC (oj hn_g2 (oj hx (oj hn_g5 zz))) ?_
        exact .one (.c (ler_errN rfl (by decide)))
      · have k1' : x.k = 1 := by simpa using k1
        rw [if_neg (by omega)]
        refine yG (oj hn_g2 (oj hx (oj hn_g5 zz))) ?_
        refine yT hC (oj hn_g2 (oj hx (oj hn_g5 zz))) ?_
        exact .one (.c (ler_err0 rfl))
  have k0' : ¬ x.kind = 0 := by simpa using k0
  rw [if_neg k0']
  refine yG (oj hn_g2 (oj hx hn_g5)) ?_
  refine yF (oj hn_g2 (oj hx hn_g5)) (fun k4=>?_) fun k4=>?_
  · have k4' : x.kind = 4 := eq_of_beq k4
    rw [if_pos k4']
    refine yG (oj hn_g2 (oj hx hn_g5)) ?_
    refine aw_split 71 (zE (oj hn_g2 (oj hx hn_g5))) (fun q1 => ?_) (fun q1 => ?_) <;> refine yS (oj hn_g2 (oj hx hn_g5)) ?_
    · have q1' := of_decide_eq_true q1
      rw [if_pos (.inl q1')]
      refine yG (oj hn_g2 (oj hx hn_g5)) ?_
      refine yP (oj hn_g2 (oj hx hn_g5)) ?_
      refine yG (oj hn_g2 (oj hx hn_g5)) ?_
      refine yT hC (oj hn_g2 (oj hx hn_g5)) ?_
      exact .one (.c (ler_errN rfl (by decide)))
    have q1' := of_decide_eq_false q1
    refine yG (oj hn_g2 (oj hx hn_g5)) ?_
    refine yF (oj hn_g2 (oj hx hn_g5)) (fun q2=>?_) fun q2=>?_
    · have q2' := of_decide_eq_true q2
      rw [if_pos (.inr (by omega))]
      refine yG (oj hn_g2 (oj hx hn_g5)) ?_
      refine yT hC (oj hn_g2 (oj hx hn_g5)) ?_
      exact .one (.c (ler_errN rfl (by decide)))
    · have q2' := of_decide_eq_false q2
      rw [if_neg (by omega)]
      refine yG (oj hn_g2 (oj hx hn_g5)) ?_
      refine yT hC (oj hn_g2 (oj hx hn_g5)) ?_
      exact .one (.c (ler_err0 rfl))
  have k4' : ¬ x.kind = 4 := by simpa using k4
  rw [if_neg k4']
  refine yG (oj hn_g2 (oj hx hn_g5)) ?_
  refine yF (oj hn_g2 (oj hx hn_g5)) (fun z1=>?_) fun z1=>?_
  · have z1' : ¬ x.k = 0 := by simpa using z1
    rw [if_pos z1']
    refine yG (oj hn_g2 (oj hx hn_g5)) ?_
    refine yT hC (oj hn_g2 (oj hx hn_g5)) ?_
    exact .one (.c (ler_errN rfl (by decide)))
  · have z1' : x.k = 0 := by simpa using z1
    rw [if_neg (by omega)]
    refine yG (oj hn_g2 (oj hx hn_g5)) ?_
    refine yT hC (oj hn_g2 (oj hx hn_g5)) ?_
    exact .one (.c (ler_err0 rfl))
end Go.Proofs.YtcoflhkcpnoaaaaGreat
namespace Go.Proofs.YtcoflhkcpnoaaaaGreat
open Go.AI Go.PN
attribute [local irreducible] aw Fa Fh DrK
def ArgsOk (f : FM) : Prop := ∀ x ∈ f.nodes, x.args.length ≤ 1099511627776
theorem ArgsOk.at {f : FM} (h : ArgsOk f) (i : Nat) : (f.nodes.getD i fn0).args.length ≤ 1099511627776 := by
  by_cases hi : i < f.nodes.length
  · rw [getFN hi]; exact h _ (List.getElem_mem hi)
  · rw [List.getD_eq_getElem?_getD, List.getElem?_eq_none (by omega)]; show 0 ≤ _; omega
set_option maxRecDepth 100000 in
set_option maxHeartbeats 3200000 in
theorem fcheck_fa (f : FM) (hn : f.nodes.length ≤ 1099511627776) (ha : ArgsOk f) (ht0 : -9223372036854775808 ≤ f.top) (ht : f.top ≤ 9223372036854775807) : Fa Tryz.prog 92 [.agg (fmc false f)] (.c (errA (fcode f))) := by
  unfold fcode
  refine fa_of_body Tryz.func92 rfl rfl (by simp [Tryz.ntmps92]) fun C hC => ?_
  simp only [initS, Nat.reduceAdd]
  refine xG ?_
  refine xB fun g1 hn_g1=>?_
  refine yG hn_g1 ?_
  refine aw_split 8 (zE hn_g1) (fun h1 => ?_) (fun h1 => ?_) <;> refine yS hn_g1 ?_
  · have h1' := of_decide_eq_true h1
    rw [if_pos (.inl h1')]
    refine yG hn_g1 ?_
    refine yP hn_g1 ?_
    refine yG hn_g1 ?_
    refine yT hC hn_g1 ?_
    exact .one (.c (ler_errN rfl (by decide)))
  have h1' := of_decide_eq_false h1
  refine yG hn_g1 ?_
  refine yF hn_g1 (fun h2=>?_) fun h2=>?_
  · have h2' := of_decide_eq_true h2
    rw [if_pos (.inr (by omega))]
    refine yG hn_g1 ?_
    refine yT hC hn_g1 ?_
    exact .one (.c (ler_errN rfl (by decide)))
  have h2' := of_decide_eq_false h2
  rw [if_neg (by omega)]
  refine yG hn_g1 ?_
  refine yF hn_g1 (fun h3=>?_) fun h3=>?_
  · have h3' := of_decide_eq_true h3
    rw [if_pos (by omega)]
    refine yG hn_g1 ?_
    refine yT hC hn_g1 ?_
    exact .one (.c (ler_errN rfl (by decide)))
  have h3' := of_decide_eq_false h3
  rw [if_neg (by omega)]
  refine yG hn_g1 ?_
  refine aw_lp (fun i : Nat => [(1, .c (.optr g1 0)), (21, .c (.int .i64 f.nodes.length)), (22, .c (.int .i64 i))]) (fun _ => [(g1, .cells 50 3 (ofL (fmc false f)))]) (fun i => i ≤ f.nodes.length ∧ ffirst f 0 f.nodes.length = ffirst f i (f.nodes.length - i)) (fun i => f.nodes.length - i) 0 (zB hn_g1) zZ ⟨Nat.zero_le _, rfl⟩ ?_
  rintro i ⟨hi, hf⟩
  refine yG hn_g1 ?_
  refine yF hn_g1 (fun h4=>?_) fun h4=>?_
  · have h4' : i < f.nodes.length := by have := of_decide_eq_true h4; omega
    refine yG hn_g1 ?_
    refine yC hn_g1 (fcheckNode_fa f i h4' ?_ ?_ ?_ (ha.at i)) ?_
    · omega
    · omega
    · omega
    refine yG hn_g1 ?_
    refine yF hn_g1 (fun h5=>?_) fun h5=>?_
    · have h5' : ¬ fncode f i = 0 := by simpa using h5
      rw [hf, ffirst_at h4' h5', if_pos h5']
      refine yG hn_g1 ?_
      refine yT hC hn_g1 ?_
      exact .one (.c ler_err)
    · have h5' : fncode f i = 0 := by simpa using h5
      refine yG hn_g1 ?_
      exact aw_stop ⟨i + 1, by omega, (zB hn_g1), zZ, by omega, by rw [hf]; exact ffirst_step h4' h5'⟩
  have h4' : i = f.nodes.length := by have := of_decide_eq_false h4; omega
  subst h4'
  rw [hf, Nat.sub_self, if_neg (by rw [ffirst]; simp)]
  refine yG hn_g1 ?_
  refine yC hn_g1 (fvalid_fa f f.top ?_ ht0 ht) ?_
  · omega
  refine yG hn_g1 ?_
  refine yF hn_g1 (fun h6=>?_) fun h6=>?_
  · have h6' : fvalidB f f.top = false := by simpa using h6
    rw [h6', if_neg (by simp)]
    refine yG hn_g1 ?_
    refine yT hC hn_g1 ?_
    exact .one (.c (ler_errN rfl (by decide)))
  · have h6' : fvalidB f f.top = true := by simpa using h6
    rw [h6', if_pos rfl]
    refine yG hn_g1 ?_
    refine yT hC hn_g1 ?_
    exact .one (.c (ler_err0 rfl))
end Go.Proofs.YtcoflhkcpnoaaaaGreat
