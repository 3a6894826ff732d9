/- Texts of one proof, laid one behind the other by a program (merge.py): Add0, Add. -/
import Derived.Test.YtmkomfdiggcloaaM19
set_option linter.unusedSimpArgs false
set_option linter.unusedVariables false
/- faultlineref15.add. -/
namespace Go.PN
open Go.AI
/-- Where a node stands, or none. -/
def findN (x : DN) : List DN → Nat → Option Nat
  | [], _ => none
  | y :: ns, i => if y = x then some i else findN x ns (i + 1)
def addF (o : List Int) (tb : List Bool) : Nat → Nat → Nat → List DN → List DN × Int
  | 0, _, st, ns => (ns, if tb.getD st false then 1 else 0)
  | k + 1, lv, st, ns =>
    let a := addF o tb k (lv + 1) st ns
    let b := addF o tb k (lv + 1) (st ||| 2 ^ (o.getD lv 0).toNat) a.1
    if a.2 = b.2 then (b.1, a.2) else
      let x : DN := ⟨o.getD lv 0, a.2, b.2⟩
      match findN x b.1 0 with
      | some i => (b.1, 2 + i)
      | none => (b.1 ++ [x], 1 + ((b.1.length + 1 : Nat) : Int))
theorem findN_step {x : DN} {ns : List DN} {i : Nat} (h : i < ns.length) : findN x (ns.drop i) i = if ns.getD i dn0 = x then some i else findN x (ns.drop (i + 1)) (i + 1) := by
  rw [List.drop_eq_getElem_cons h, findN]
  rw [List.getD_eq_getElem?_getD, List.getElem?_eq_getElem h]
  rfl
theorem dn_beq (a : DN) (v l u : Int) : (a.v == v && (a.lo == l && a.hi == u)) = decide (a = ⟨v, l, u⟩) := by
  rw [Bool.eq_iff_iff]
  simp only [Bool.and_eq_true, beq_iff_eq, decide_eq_true_eq]
  cases a
  simp
end Go.PN
namespace Go.AI
section
variable {E : Env} {K : List It} {σ : Sl} {h : Heap}
theorem aw_rethw {P : Program} {fn : Func} {C : Ctx} {Q : AV → Heap → Prop} {rvs : List ResultVar} (hrs : fn.results = rvs.toArray) {h' : Heap} (hsub : h'.Sublist h) (k : ∀ R : Option AV → Prop, (∀ x, flatR x = true → Q x h' → R (some x)) → R (resAV P σ h rvs)) :
    aw (envOfH P fn C Q) (.code .ret :: K) σ h := by
  have hr : ∀ x, flatR x = true → Q x h' → some x = resAV P σ h rvs → aw (envOfH P fn C Q) (.code .ret :: K) σ h := fun x hf hq e a w s => by
    refine wp_ret (exW_ret a w ?_)
    obtain ⟨v, hv, hrep⟩ := results_run s hrs e.symm (flatR_spec hf)
    have hks : ∀ b, b ∈ h'.keys → b ∈ h.keys := fun b hb => by
      obtain ⟨p, hp, e⟩ := List.mem_map.1 hb
      exact List.mem_map.2 ⟨p, hsub.subset hp, e⟩
    have kp : Keeps (Stab C h w) (Stab C h' w) w w := ⟨fun t b hb => ⟨hb.1, hb.2.1, fun hm => hb.2.2 (hks b hm)⟩, fun _ _ _ => rfl, fun _ _ e => e⟩
    exact ⟨s.defers, v, hv, v, x, h', rfl, hq, (hsub.map _).nodup s.nodup, fun g hg => s.keys g (hks g hg), hrep.keep kp, fun g o hm => ORep.keep kp rfl (s.heap g o (hsub.subset hm)), s.frame⟩
  have := k (fun y => y = resAV P σ h rvs → aw (envOfH P fn C Q) (.code .ret :: K) σ h) hr
  exact this rfl
end
theorem updF_at (xs : List CV) (i : Nat) (b : CV) (h : i < xs.length) : updF (ofL xs) i [b] = ofL (xs.set i b) := by
  funext j
  simp only [updF]
  by_cases hj : j = i
  · subst hj
    rw [if_pos rfl, ofL_get (xs.set j b) j b (by rw [List.getElem?_set_self h])]
  · rw [if_neg hj]
    by_cases hl : j < xs.length
    · rw [ofL_get xs j xs[j] (List.getElem?_eq_getElem hl), ofL_get (xs.set i b) j xs[j] (by rw [List.getElem?_set_ne (Ne.symm hj)]; exact List.getElem?_eq_getElem hl)]
    · have e : ∀ (ys : List CV) (n : Nat), ys.length ≤ n → ofL ys n = .any := by
        intro ys
        induction ys with
        | nil => intro n _; rfl
        | cons y ys ih =>
          intro n hn
          match n, hn with
          | n + 1, hn => exact ih n (by simpa using hn)
      rw [e xs j (by omega), e (xs.set i b) j (by rw [List.length_set]; omega)]
@[go_sem ↓] theorem updF_3_0 (a b c x : CV) : updF (ofL [a, b, c]) 0 [x] = ofL [x, b, c] := updF_at [a, b, c] 0 x (by simp)
@[go_sem ↓] theorem updF_3_1 (a b c x : CV) : updF (ofL [a, b, c]) 1 [x] = ofL [a, x, c] := updF_at [a, b, c] 1 x (by simp)
@[go_sem ↓] theorem updF_3_2 (a b c x : CV) : updF (ofL [a, b, c]) 2 [x] = ofL [a, b, x] := updF_at [a, b, c] 2 x (by simp)
theorem gs_solid (og : Option Nat) (s n : Nat) : (gs og s n).solid = true := by cases og <;> rfl
theorem solid_gs3 {og : Option Nat} {s n m : Nat} {t : Bool} {f : Nat → CV} {k : IntKind} {z : Int} : (AV.agg [.row t 1 m f, gs og s n, .int k z]).cells.all CV.solid = true := by
  cases og <;> rfl
end Go.AI
namespace Go.Proofs.Ytmkomfdiggcloaa
open Go.AI Go.PN
attribute [local irreducible] aw Fa Fh DrK
/-- What a call of add with k levels left has come to. -/
def AddOk (o : List Int) (tb : List Bool) (rt : Int) (k : Nat) : Prop := ∀ (lv st : Nat) (ns : List DN) (og : Option Nat) (n : Nat), lv + k = o.length → st < 2 ^ o.length → ns.length = n → n + 2 ^ k ≤ 1000000 → (og = none → n = 0) →
    Fh Try.prog 85 (gh og 72 (n * 3) (dnsF ns)) [.agg [is true o, gs og 3 n, .int .i64 rt], .c (bs false tb), .c (.int .i64 lv), .c (.int .i64 st)]
      (fun res h => ∃ og' n', (addF o tb k lv st ns).1.length = n' ∧ n' < n + 2 ^ k ∧ (og' = none → n' = 0) ∧ res = .tup [.agg [is true o, gs og' 3 n', .int .i64 rt], .c (.int .i64 (addF o tb k lv st ns).2)] ∧ h = gh og' 72 (n' * 3) (dnsF (addF o tb k lv st ns).1))
set_option maxRecDepth 100000 in
set_option maxHeartbeats 3200000 in
theorem add_zero (o : List Int) (tb : List Bool) (rt : Int) (ho : o.length ≤ 12) (hr : ∀ x ∈ o, 0 ≤ x ∧ x < o.length) (ht : tb.length = 2 ^ o.length) : AddOk o tb rt 0 := by
  intro lv st ns og n hk hst hn hnl hog
  refine fh_of_body Try.func85 rfl rfl (by simp [Try.ntmps85]) fun C hC => ?_
  simp only [initS, Nat.reduceAdd]
  repeat first|apply wa1|apply wa2|apply wa3|apply wa4|apply wa5 rfl|apply wa6|apply wa7|(refine wb1 rfl fun R r=>?_;simp only[go_sem];with_reducible refine r _ _ ?_;clear r R)
  refine aw_box rfl rfl rfl (by simp only[go_sem]<;>rfl) (fun _ e => by cases e) (by first | rfl | exact solid_gs3) fun g4 hn_g4 => ?_
  replace hn_g4 := Heap.ne_of hn_g4
  first | dsimp only [Heap.ne, gh] at hn_g4 | dsimp only [Heap.ne] at hn_g4 | skip
  (try simp only[go_sem, hn_g4])
  repeat first|apply wa1|apply wa2|apply wa3|apply wa4|apply wa5 rfl|apply wa6|apply wa7|(refine wb1 rfl fun R r=>?_;simp only[go_sem, hn_g4];with_reducible refine r _ _ ?_;clear r R)
  refine aw_alloc rfl rfl rfl (by simp only[go_sem, hn_g4]<;>rfl) fun g8 hn_g8 => ?_
  replace hn_g8 := Heap.ne_of hn_g8
  first | dsimp only [Heap.ne, gh] at hn_g8 | dsimp only [Heap.ne] at hn_g8 | skip
  (try simp only[go_sem, hn_g4, hn_g8])
  repeat first|apply wa1|apply wa2|apply wa3|apply wa4|apply wa5 rfl|apply wa6|apply wa7|(refine wb1 rfl fun R r=>?_;simp only[go_sem, hn_g4, hn_g8];with_reducible refine r _ _ ?_;clear r R)
  have e1 : ((lv : Int) == (o.length : Int)) = true := by simp; omega
  repeat first|apply wa1|apply wa2|apply wa3|apply wa4|apply wa5 rfl|apply wa6|apply wa7|(refine wb1 rfl fun R r=>?_;simp only[go_sem, hn_g4, hn_g8, e1];with_reducible refine r _ _ ?_;clear r R)
  refine aw_condT (by simp only[go_sem, hn_g4, hn_g8, e1]<;>rfl) ?_
  repeat first|apply wa1|apply wa2|apply wa3|apply wa4|apply wa5 rfl|apply wa6|apply wa7|(refine wb1 rfl fun R r=>?_;simp only[go_sem, hn_g4, hn_g8, e1];with_reducible refine r _ _ ?_;clear r R)
  refine aw_cond (by simp only[go_sem, hn_g4, hn_g8, e1]<;>rfl) (fun hb => ?_) (fun hb => ?_)
  · skip
    repeat first|apply wa1|apply wa2|apply wa3|apply wa4|apply wa5 rfl|apply wa6|apply wa7|(refine wb1 rfl fun R r=>?_;simp only[go_sem, hn_g4, hn_g8, e1];with_reducible refine r _ _ ?_;clear r R)
    refine aw_store rfl rfl rfl rfl (by simp only[go_sem, hn_g4, hn_g8, e1]<;>rfl) (by simp only[go_sem, hn_g4, hn_g8, e1]<;>rfl) (by simp only[go_sem, hn_g4, hn_g8, e1]<;>rfl) (by simp only[go_sem, hn_g4, hn_g8, e1]<;>rfl) (fun _ e => by cases e) (by first | rfl | exact solid_gs3) (by rfl) (by first|omega|simp) rfl ?_
    (try simp only[go_sem, hn_g4, hn_g8, e1])
    repeat first|apply wa1|apply wa2|apply wa3|apply wa4|apply wa5 rfl|apply wa6|apply wa7|(refine wb1 rfl fun R r=>?_;simp only[go_sem, hn_g4, hn_g8, e1];with_reducible refine r _ _ ?_;clear r R)
    refine aw_keep [(8, .c (.optr g8 0)), (9, .c (.int .i64 1))] ((g8, .cells 25 3 (ofL [is true o, gs og 3 n, .int .i64 rt])) :: gh og 72 (n * 3) (dnsF ns)) (by simp only[go_sem, hn_g4, hn_g8, e1]<;>and_intros<;>first|exact True.intro|(with_reducible rfl)|exact c_int (by omega)|rfl) (List.Sublist.cons_cons _ (List.Sublist.cons _ (List.Sublist.refl _))) ?_
    refine aw_rethw (h' := gh og 72 (n * 3) (dnsF ns)) rfl (List.Sublist.cons _ (List.Sublist.refl _)) (fun R hR => ?_)
    simp only [go_sem, hn_g4, hn_g8, e1]
    refine hR _ rfl ?_
    clear hR R
    exact ⟨og, n, hn, by simp, hog, by rw [addF, hb]; rfl, rfl⟩
  · skip
    repeat first|apply wa1|apply wa2|apply wa3|apply wa4|apply wa5 rfl|apply wa6|apply wa7|(refine wb1 rfl fun R r=>?_;simp only[go_sem, hn_g4, hn_g8, e1];with_reducible refine r _ _ ?_;clear r R)
    refine aw_store rfl rfl rfl rfl (by simp only[go_sem, hn_g4, hn_g8, e1]<;>rfl) (by simp only[go_sem, hn_g4, hn_g8, e1]<;>rfl) (by simp only[go_sem, hn_g4, hn_g8, e1]<;>rfl) (by simp only[go_sem, hn_g4, hn_g8, e1]<;>rfl) (fun _ e => by cases e) (by first | rfl | exact solid_gs3) (by rfl) (by first|omega|simp) rfl ?_
    (try simp only[go_sem, hn_g4, hn_g8, e1])
    repeat first|apply wa1|apply wa2|apply wa3|apply wa4|apply wa5 rfl|apply wa6|apply wa7|(refine wb1 rfl fun R r=>?_;simp only[go_sem, hn_g4, hn_g8, e1];with_reducible refine r _ _ ?_;clear r R)
    refine aw_keep [(8, .c (.optr g8 0)), (9, .c (.int .i64 0))] ((g8, .cells 25 3 (ofL [is true o, gs og 3 n, .int .i64 rt])) :: gh og 72 (n * 3) (dnsF ns)) (by simp only[go_sem, hn_g4, hn_g8, e1]<;>and_intros<;>first|exact True.intro|(with_reducible rfl)|exact c_int (by omega)|rfl) (List.Sublist.cons_cons _ (List.Sublist.cons _ (List.Sublist.refl _))) ?_
    refine aw_rethw (h' := gh og 72 (n * 3) (dnsF ns)) rfl (List.Sublist.cons _ (List.Sublist.refl _)) (fun R hR => ?_)
    simp only [go_sem, hn_g4, hn_g8, e1]
    refine hR _ rfl ?_
    clear hR R
    exact ⟨og, n, hn, by simp, hog, by rw [addF, hb]; rfl, rfl⟩
end Go.Proofs.Ytmkomfdiggcloaa

/- faultlineref15.add, a level more. -/
namespace Go.Proofs.Ytmkomfdiggcloaa
open Go.AI Go.PN
attribute [local irreducible] aw Fa Fh DrK
set_option maxRecDepth 100000 in
set_option maxHeartbeats 3200000 in
theorem add_succ (o : List Int) (tb : List Bool) (rt : Int) (ho : o.length ≤ 12) (hr : ∀ x ∈ o, 0 ≤ x ∧ x < o.length) (ht : tb.length = 2 ^ o.length) (k : Nat) (ih : AddOk o tb rt k) : AddOk o tb rt (k + 1) := by
  intro lv st ns og n hk hst hn hnl hog
  have hp2 : 2 ^ (k + 1) = 2 ^ k + 2 ^ k := by rw [Nat.pow_succ]; omega
  have hpk : 0 < 2 ^ k := Nat.pow_pos (by omega)
  refine fh_of_body Try.func85 rfl rfl (by simp [Try.ntmps85]) fun C hC => ?_
  simp only [initS, Nat.reduceAdd]
  repeat first|apply wa1|apply wa2|apply wa3|apply wa4|apply wa5 rfl|apply wa6|apply wa7|(refine wb1 rfl fun R r=>?_;simp only[go_sem];with_reducible refine r _ _ ?_;clear r R)
  refine aw_box rfl rfl rfl (by simp only[go_sem]<;>rfl) (fun _ e => by cases e) (by first | rfl | exact solid_gs3) fun g4 hn_g4 => ?_
  replace hn_g4 := Heap.ne_of hn_g4
  first | dsimp only [Heap.ne, gh] at hn_g4 | dsimp only [Heap.ne] at hn_g4 | skip
  (try simp only[go_sem, hn_g4])
  repeat first|apply wa1|apply wa2|apply wa3|apply wa4|apply wa5 rfl|apply wa6|apply wa7|(refine wb1 rfl fun R r=>?_;simp only[go_sem, hn_g4];with_reducible refine r _ _ ?_;clear r R)
  refine aw_alloc rfl rfl rfl (by simp only[go_sem, hn_g4]<;>rfl) fun g8 hn_g8 => ?_
  replace hn_g8 := Heap.ne_of hn_g8
  first | dsimp only [Heap.ne, gh] at hn_g8 | dsimp only [Heap.ne] at hn_g8 | skip
  (try simp only[go_sem, hn_g4, hn_g8])
  repeat first|apply wa1|apply wa2|apply wa3|apply wa4|apply wa5 rfl|apply wa6|apply wa7|(refine wb1 rfl fun R r=>?_;simp only[go_sem, hn_g4, hn_g8];with_reducible refine r _ _ ?_;clear r R)
  have e1 : ((lv : Int) == (o.length : Int)) = false := by simp; omega
  repeat first|apply wa1|apply wa2|apply wa3|apply wa4|apply wa5 rfl|apply wa6|apply wa7|(refine wb1 rfl fun R r=>?_;simp only[go_sem, hn_g4, hn_g8, e1];with_reducible refine r _ _ ?_;clear r R)
  refine aw_condF (by simp only[go_sem, hn_g4, hn_g8, e1]<;>rfl) ?_
  repeat first|apply wa1|apply wa2|apply wa3|apply wa4|apply wa5 rfl|apply wa6|apply wa7|(refine wb1 rfl fun R r=>?_;simp only[go_sem, hn_g4, hn_g8, e1];with_reducible refine r _ _ ?_;clear r R)
  refine aw_callh (hr := [(g8, AObj.cells 25 3 (ofL [.nils, .nils, .int .i64 0])), (g4, AObj.cells 25 3 (ofL [is true o, gs og 3 n, .int .i64 rt]))]) (ih (lv + 1) st ns og n (by omega) hst hn (by omega) hog) rfl rfl rfl (List.perm_append_comm (l₁ := [(g8, AObj.cells 25 3 (ofL [.nils, .nils, .int .i64 0])), (g4, AObj.cells 25 3 (ofL [is true o, gs og 3 n, .int .i64 rt]))])) (by first|exact True.intro|simp only[go_sem, hn_g4, hn_g8, e1]<;>and_intros<;>first|exact True.intro|exact .c (.refl _)|exact .c wl2|exact .agg (lel_refl _)|exact .agg (by simp only[LeL];and_intros<;>first|exact True.intro|exact .refl _|exact wl2)|exact .c .nils) ?_
  have hA : ∀ a, a = addF o tb k (lv + 1) st ns → addF o tb (k + 1) lv st ns = (let b := addF o tb k (lv + 1) (st ||| 2 ^ (o.getD lv 0).toNat) a.1
    if a.2 = b.2 then (b.1, a.2) else
    match findN ⟨o.getD lv 0, a.2, b.2⟩ b.1 0 with
    | some i => (b.1, 2 + i)
    | none => (b.1 ++ [⟨o.getD lv 0, a.2, b.2⟩], 1 + ((b.1.length + 1 : Nat) : Int))) := fun a ha => by rw [ha]; rfl
  generalize addF o tb k (lv + 1) st ns = A at *
  replace hA := hA A rfl
  rintro _ _ ⟨og2, n2, hn2, hb2, hog2, rfl, rfl⟩ hk2
  refine aw_perm (List.perm_append_comm (l₂ := [(g8, AObj.cells 25 3 (ofL [.nils, .nils, .int .i64 0])), (g4, AObj.cells 25 3 (ofL [is true o, gs og 3 n, .int .i64 rt]))])) ?_
  (try simp only[go_sem, hn_g4, hn_g8, e1])
  repeat first|apply wa7|(refine wb1 rfl fun R r=>?_;simp only[go_sem, hn_g4, hn_g8, e1];with_reducible refine r _ _ ?_;clear r R)
  refine aw_store rfl rfl rfl rfl (by simp only[go_sem, hn_g4, hn_g8, e1]<;>rfl) (by simp only[go_sem, hn_g4, hn_g8, e1]<;>rfl) (by simp only[go_sem, hn_g4, hn_g8, e1]<;>rfl) (by simp only[go_sem, hn_g4, hn_g8, e1]<;>rfl) (fun _ e => by cases e) (by first | rfl | exact solid_gs3) (by rfl) (by first|omega|simp) rfl ?_
  (try simp only[go_sem, hn_g4, hn_g8, e1])
  repeat first|apply wa7|(refine wb1 rfl fun R r=>?_;simp only[go_sem, hn_g4, hn_g8, e1];with_reducible refine r _ _ ?_;clear r R)
  have hlv : lv < o.length := by omega
  have hom := hr (o.getD lv 0) (by rw [getDZ hlv]; exact List.getElem_mem hlv)
  refine aw_seq ?_
  obtain ⟨v, hv⟩ : ∃ v : Nat, o.getD lv 0 = v := ⟨(o.getD lv 0).toNat, by omega⟩
  have hv12 : v < o.length := by omega
  have hsl := shl_one v (by omega)
  have h2v : 2 ^ v < 2 ^ o.length := Nat.pow_lt_pow_right (by omega) hv12
  have h2o : 2 ^ o.length ≤ 4096 := by
    have h3 : 2 ^ o.length ≤ 2 ^ 12 := Nat.pow_le_pow_right (by omega) (by omega)
    have h4 : (2 : Nat) ^ 12 = 4096 := by decide
    omega
  have hor := orZ_nat st (2 ^ v) (by omega) (by omega)
  have hst2 : st ||| 2 ^ v < 2 ^ o.length := Nat.or_lt_two_pow hst h2v
  rw [hv, Int.toNat_natCast] at hA
  refine aw_cut (fun x : Option Nat × Nat => [(2, .c (.int .i64 lv)), (4, .c (.optr g4 0)), (8, .c (.optr g8 0)), (10, .c (.int .i64 A.2)), (11, .c (.int .i64 (addF o tb k (lv + 1) (st ||| 2 ^ v) A.1).2))]) (fun x => (g8, AObj.cells 25 3 (ofL [.nils, .nils, .int .i64 0])) :: (g4, AObj.cells 25 3 (ofL [is true o, gs x.1 3 x.2, .int .i64 rt])) :: gh x.1 72 (x.2 * 3) (dnsF (addF o tb k (lv + 1) (st ||| 2 ^ v) A.1).1)) (fun x => (addF o tb k (lv + 1) (st ||| 2 ^ v) A.1).1.length = x.2 ∧ x.2 < n2 + 2 ^ k ∧ (x.1 = none → x.2 = 0) ∧ ∀ g, x.1 = some g → ¬ g = g8 ∧ ¬ g = g4) ?_ ?_
  · skip
    refine aw_drT 12 14 [14, 15, 16, 17] ty_mixed (by kernel_rfl) ?_
    (try simp only[go_sem, hn_g4, hn_g8, e1, hv, hsl, hor])
    repeat first|apply wa7|(refine wb1 rfl fun R r=>?_;simp only[go_sem, hn_g4, hn_g8, e1, hv, hsl, hor];with_reducible refine r _ _ ?_;clear r R)|apply wa8|(refine wd1 rfl fun R r=>?_;simp only[go_sem, hn_g4, hn_g8, e1, hv, hsl, hor];with_reducible refine r _ _ ?_;clear r R)
    simp only [List.take_succ_cons, List.take_zero]
    refine aw_callh (hr := [(g8, AObj.cells 25 3 (ofL [.nils, .nils, .int .i64 0])), (g4, AObj.cells 25 3 (ofL [is true o, gs og2 3 n2, .int .i64 rt]))]) (ih (lv + 1) (st ||| 2 ^ v) A.1 og2 n2 (by omega) hst2 hn2 (by omega) hog2) rfl rfl rfl (List.perm_append_comm (l₁ := [(g8, AObj.cells 25 3 (ofL [.nils, .nils, .int .i64 0])), (g4, AObj.cells 25 3 (ofL [is true o, gs og2 3 n2, .int .i64 rt]))])) (by first|exact True.intro|simp only[go_sem, hn_g4, hn_g8, e1, hv, hsl, hor]<;>and_intros<;>first|exact True.intro|exact .c (.refl _)|exact .c wl2|exact .agg (lel_refl _)|exact .agg (by simp only[LeL];and_intros<;>first|exact True.intro|exact .refl _|exact wl2)|exact .c .nils) ?_
    rintro _ _ ⟨og3, n3, hn3, hb3, hog3, rfl, rfl⟩ hk3
    have hg3 : ∀ g, og3 = some g → ¬ g = g8 ∧ ¬ g = g4 := fun g e => by
      subst e
      have := hk3 g (by simp [gh, Heap.keys])
      simpa [Heap.keys] using this
    generalize addF o tb k (lv + 1) (st ||| 2 ^ v) A.1 = B at *
    refine aw_perm (List.perm_append_comm (l₂ := [(g8, AObj.cells 25 3 (ofL [.nils, .nils, .int .i64 0])), (g4, AObj.cells 25 3 (ofL [is true o, gs og2 3 n2, .int .i64 rt]))])) ?_
    (try simp only[go_sem, hn_g4, hn_g8, e1, hv, hsl, hor])
    repeat first|apply wa7|(refine wb1 rfl fun R r=>?_;simp only[go_sem, hn_g4, hn_g8, e1, hv, hsl, hor];with_reducible refine r _ _ ?_;clear r R)|apply wa8|(refine wd1 rfl fun R r=>?_;simp only[go_sem, hn_g4, hn_g8, e1, hv, hsl, hor];with_reducible refine r _ _ ?_;clear r R)
    refine aw_stop ?_
    refine awN_step [14, 15, 16, 17] [14, 15] (by kernel_rfl) (by kernel_rfl) (by simp) (by rfl) ⟨⟨_, rfl, ?_⟩, ⟨_, rfl, ?_⟩, trivial⟩
    · repeat first|apply wa7|(refine wb1 rfl fun R r=>?_;simp only[go_sem, hn_g4, hn_g8, e1, hv, hsl, hor];with_reducible refine r _ _ ?_;clear r R)
      refine aw_stop ?_
      refine awN_step [15, 16, 17] [15, 16] (by kernel_rfl) (by kernel_rfl) (by simp) (by rfl) ⟨⟨_, rfl, ?_⟩, ⟨_, rfl, ?_⟩, trivial⟩
      · repeat first|apply wa7|(refine wb1 rfl fun R r=>?_;simp only[go_sem, hn_g4, hn_g8, e1, hv, hsl, hor];with_reducible refine r _ _ ?_;clear r R)
        refine aw_stop ?_
        refine awN_step [16, 17] [16] (by kernel_rfl) (by kernel_rfl) (by simp) (by rfl) ⟨⟨_, rfl, ?_⟩, trivial⟩
        refine aw_store rfl rfl rfl rfl (by simp only[go_sem, hn_g4, hn_g8, e1, hv, hsl, hor]<;>rfl) (by simp only[go_sem, hn_g4, hn_g8, e1, hv, hsl, hor]<;>rfl) (by simp only[go_sem, hn_g4, hn_g8, e1, hv, hsl, hor]<;>rfl) (by simp only[go_sem, hn_g4, hn_g8, e1, hv, hsl, hor]<;>rfl) (fun _ e => by cases e) (by first | rfl | exact solid_gs3) (by rfl) (by first|omega|simp) rfl ?_
        (try simp only[go_sem, hn_g4, hn_g8, e1, hv, hsl, hor])
        repeat first|apply wa7|(refine wb1 rfl fun R r=>?_;simp only[go_sem, hn_g4, hn_g8, e1, hv, hsl, hor];with_reducible refine r _ _ ?_;clear r R)
        refine aw_stop ?_
        refine awN_step [17] [17] (by kernel_rfl) (by kernel_rfl) (by simp) (by rfl) ⟨⟨_, rfl, ?_⟩, trivial⟩
        repeat first|apply wa7|(refine wb1 rfl fun R r=>?_;simp only[go_sem, hn_g4, hn_g8, e1, hv, hsl, hor];with_reducible refine r _ _ ?_;clear r R)
        refine aw_stop ?_
        refine awN_nil ?_
        exact aw_stop ⟨(og3, n3), (by simp only[go_sem, hn_g4, hn_g8, e1, hv, hsl, hor]<;>and_intros<;>first|exact True.intro|(with_reducible rfl)|exact c_int (by omega)|rfl), (List.Sublist.refl _), hn3, hb3, hog3, hg3⟩
      · refine aw_store rfl rfl rfl rfl (by simp only[go_sem, hn_g4, hn_g8, e1, hv, hsl, hor]<;>rfl) (by simp only[go_sem, hn_g4, hn_g8, e1, hv, hsl, hor]<;>rfl) (by simp only[go_sem, hn_g4, hn_g8, e1, hv, hsl, hor]<;>rfl) (by simp only[go_sem, hn_g4, hn_g8, e1, hv, hsl, hor]<;>rfl) (fun _ e => by cases e) (by first | rfl | exact solid_gs3) (by rfl) (by first|omega|simp) rfl ?_
        (try simp only[go_sem, hn_g4, hn_g8, e1, hv, hsl, hor])
        repeat first|apply wa7|(refine wb1 rfl fun R r=>?_;simp only[go_sem, hn_g4, hn_g8, e1, hv, hsl, hor];with_reducible refine r _ _ ?_;clear r R)
        refine aw_stop ?_
        refine awN_step [15, 17] [15] (by kernel_rfl) (by kernel_rfl) (by simp) (by rfl) ⟨⟨_, rfl, ?_⟩, trivial⟩
        repeat first|apply wa7|(refine wb1 rfl fun R r=>?_;simp only[go_sem, hn_g4, hn_g8, e1, hv, hsl, hor];with_reducible refine r _ _ ?_;clear r R)
        refine aw_stop ?_
        refine awN_step [17] [17] (by kernel_rfl) (by kernel_rfl) (by simp) (by rfl) ⟨⟨_, rfl, ?_⟩, trivial⟩
        repeat first|apply wa7|(refine wb1 rfl fun R r=>?_;simp only[go_sem, hn_g4, hn_g8, e1, hv, hsl, hor];with_reducible refine r _ _ ?_;clear r R)
        refine aw_stop ?_
        refine awN_nil ?_
        exact aw_stop ⟨(og3, n3), (by simp only[go_sem, hn_g4, hn_g8, e1, hv, hsl, hor]<;>and_intros<;>first|exact True.intro|(with_reducible rfl)|exact c_int (by omega)|rfl), (List.Sublist.refl _), hn3, hb3, hog3, hg3⟩
    · repeat first|apply wa7|(refine wb1 rfl fun R r=>?_;simp only[go_sem, hn_g4, hn_g8, e1, hv, hsl, hor];with_reducible refine r _ _ ?_;clear r R)
      refine aw_stop ?_
      refine awN_step [14, 16, 17] [14] (by kernel_rfl) (by kernel_rfl) (by simp) (by rfl) ⟨⟨_, rfl, ?_⟩, trivial⟩
      repeat first|apply wa7|(refine wb1 rfl fun R r=>?_;simp only[go_sem, hn_g4, hn_g8, e1, hv, hsl, hor];with_reducible refine r _ _ ?_;clear r R)
      refine aw_stop ?_
      refine awN_step [16, 17] [16] (by kernel_rfl) (by kernel_rfl) (by simp) (by rfl) ⟨⟨_, rfl, ?_⟩, trivial⟩
      refine aw_store rfl rfl rfl rfl (by simp only[go_sem, hn_g4, hn_g8, e1, hv, hsl, hor]<;>rfl) (by simp only[go_sem, hn_g4, hn_g8, e1, hv, hsl, hor]<;>rfl) (by simp only[go_sem, hn_g4, hn_g8, e1, hv, hsl, hor]<;>rfl) (by simp only[go_sem, hn_g4, hn_g8, e1, hv, hsl, hor]<;>rfl) (fun _ e => by cases e) (by first | rfl | exact solid_gs3) (by rfl) (by first|omega|simp) rfl ?_
      (try simp only[go_sem, hn_g4, hn_g8, e1, hv, hsl, hor])
      repeat first|apply wa7|(refine wb1 rfl fun R r=>?_;simp only[go_sem, hn_g4, hn_g8, e1, hv, hsl, hor];with_reducible refine r _ _ ?_;clear r R)
      refine aw_stop ?_
      refine awN_step [17] [17] (by kernel_rfl) (by kernel_rfl) (by simp) (by rfl) ⟨⟨_, rfl, ?_⟩, trivial⟩
      repeat first|apply wa7|(refine wb1 rfl fun R r=>?_;simp only[go_sem, hn_g4, hn_g8, e1, hv, hsl, hor];with_reducible refine r _ _ ?_;clear r R)
      refine aw_stop ?_
      refine awN_nil ?_
      exact aw_stop ⟨(og3, n3), (by simp only[go_sem, hn_g4, hn_g8, e1, hv, hsl, hor]<;>and_intros<;>first|exact True.intro|(with_reducible rfl)|exact c_int (by omega)|rfl), (List.Sublist.refl _), hn3, hb3, hog3, hg3⟩
  · rintro ⟨og3, n3⟩ ⟨hn3, hb3, hog3, hg3⟩
    dsimp only at hn3 hb3 hog3 hg3 ⊢
    generalize addF o tb k (lv + 1) (st ||| 2 ^ v) A.1 = B at *
    dsimp only at hA
    have hlen := lenCV_gs (s := 3) hog3
    repeat first|apply wa1|apply wa2|apply wa3|apply wa4|apply wa5 rfl|apply wa6|apply wa7|(refine wb1 rfl fun R r=>?_;simp only[go_sem, hn_g4, hn_g8, e1];with_reducible refine r _ _ ?_;clear r R)
    refine aw_cond (by simp only[go_sem, hn_g4, hn_g8, e1]<;>rfl) (fun hb => ?_) (fun hb => ?_)
    · have hb' : A.2 = B.2 := eq_of_beq hb
      rw [if_pos hb'] at hA
      repeat first|apply wa1|apply wa2|apply wa3|apply wa4|apply wa5 rfl|apply wa6|apply wa7|(refine wb1 rfl fun R r=>?_;simp only[go_sem, hn_g4, hn_g8, e1];with_reducible refine r _ _ ?_;clear r R)
      refine aw_store rfl rfl rfl rfl (by simp only[go_sem, hn_g4, hn_g8, e1]<;>rfl) (by simp only[go_sem, hn_g4, hn_g8, e1]<;>rfl) (by simp only[go_sem, hn_g4, hn_g8, e1]<;>rfl) (by simp only[go_sem, hn_g4, hn_g8, e1]<;>rfl) (fun _ e => by cases e) (by first | rfl | exact solid_gs3) (by rfl) (by first|omega|simp) rfl ?_
      (try simp only[go_sem, hn_g4, hn_g8, e1])
      repeat first|apply wa1|apply wa2|apply wa3|apply wa4|apply wa5 rfl|apply wa6|apply wa7|(refine wb1 rfl fun R r=>?_;simp only[go_sem, hn_g4, hn_g8, e1];with_reducible refine r _ _ ?_;clear r R)
      refine aw_keep [(8, .c (.optr g8 0)), (9, .c (.int .i64 A.2))] ((g8, .cells 25 3 (ofL [is true o, gs og3 3 n3, .int .i64 rt])) :: gh og3 72 (n3 * 3) (dnsF B.1)) (by simp only[go_sem, hn_g4, hn_g8, e1]<;>and_intros<;>first|exact True.intro|(with_reducible rfl)|exact c_int (by omega)|rfl) (List.Sublist.cons_cons _ (List.Sublist.cons _ (List.Sublist.refl _))) ?_
      refine aw_rethw (h' := gh og3 72 (n3 * 3) (dnsF B.1)) rfl (List.Sublist.cons _ (List.Sublist.refl _)) (fun R hR => ?_)
      simp only [go_sem, hn_g4, hn_g8, e1]
      refine hR _ rfl ?_
      clear hR R
      exact ⟨og3, n3, by rw [hA]; exact hn3, by omega, hog3, by rw [hA], by rw [hA]⟩
    · have hb' : A.2 ≠ B.2 := by simpa using hb
      rw [if_neg hb'] at hA
      repeat first|apply wa1|apply wa2|apply wa3|apply wa4|apply wa5 rfl|apply wa6|apply wa7|(refine wb1 rfl fun R r=>?_;simp only[go_sem, hn_g4, hn_g8, e1, hv, ↓hlen];with_reducible refine r _ _ ?_;clear r R)
      refine aw_alloc rfl rfl rfl (by simp only[go_sem, hn_g4, hn_g8, e1, hv, ↓hlen]<;>rfl) fun g12 hn_g12 => ?_
      replace hn_g12 := Heap.ne_of hn_g12
      first | dsimp only [Heap.ne, gh] at hn_g12 | dsimp only [Heap.ne] at hn_g12 | skip
      (try simp only[go_sem, hn_g4, hn_g8, e1, hv, ↓hlen, hn_g12])
      repeat first|apply wa1|apply wa2|apply wa3|apply wa4|apply wa5 rfl|apply wa6|apply wa7|(refine wb1 rfl fun R r=>?_;simp only[go_sem, hn_g4, hn_g8, e1, hv, ↓hlen, hn_g12];with_reducible refine r _ _ ?_;clear r R)
      refine aw_store rfl rfl rfl rfl (by simp only[go_sem, hn_g4, hn_g8, e1, hv, ↓hlen, hn_g12]<;>rfl) (by simp only[go_sem, hn_g4, hn_g8, e1, hv, ↓hlen, hn_g12]<;>rfl) (by simp only[go_sem, hn_g4, hn_g8, e1, hv, ↓hlen, hn_g12]<;>rfl) (by simp only[go_sem, hn_g4, hn_g8, e1, hv, ↓hlen, hn_g12]<;>rfl) (fun _ e => by cases e) (by first | rfl | exact solid_gs3) (by rfl) (by first|omega|simp) rfl ?_
      (try simp only[go_sem, hn_g4, hn_g8, e1, hv, ↓hlen, hn_g12])
      repeat first|apply wa1|apply wa2|apply wa3|apply wa4|apply wa5 rfl|apply wa6|apply wa7|(refine wb1 rfl fun R r=>?_;simp only[go_sem, hn_g4, hn_g8, e1, hv, ↓hlen, hn_g12];with_reducible refine r _ _ ?_;clear r R)
      refine aw_lp (fun i : Nat => [(4, .c (.optr g4 0)), (8, .c (.optr g8 0)), (12, .c (.optr g12 0)), (13, .c (.int .i64 i))]) (fun _ => (g12, .cells 72 3 (ofL [.int .i64 v, .int .i64 A.2, .int .i64 B.2])) :: (g8, AObj.cells 25 3 (ofL [.nils, .nils, .int .i64 0])) :: (g4, AObj.cells 25 3 (ofL [is true o, gs og3 3 n3, .int .i64 rt])) :: gh og3 72 (n3 * 3) (dnsF B.1)) (fun i => i ≤ n3 ∧ findN ⟨v, A.2, B.2⟩ B.1 0 = findN ⟨v, A.2, B.2⟩ (B.1.drop i) i) (fun i => n3 - i) 0 (by simp only[go_sem, hn_g4, hn_g8, e1, hv, ↓hlen, hn_g12]<;>and_intros<;>first|exact True.intro|(with_reducible rfl)|exact c_int (by omega)|rfl) (List.Sublist.refl _) ⟨Nat.zero_le _, by simp⟩ ?_
      rintro i ⟨hi, hf⟩
      repeat first|apply wa1|apply wa2|apply wa3|apply wa4|apply wa5 rfl|apply wa6|apply wa7|(refine wb1 rfl fun R r=>?_;simp only[go_sem, hn_g4, hn_g8, e1, hv, ↓hlen, hn_g12];with_reducible refine r _ _ ?_;clear r R)
      refine aw_cond (by simp only[go_sem, hn_g4, hn_g8, e1, hv, ↓hlen, hn_g12]<;>rfl) (fun h1 => ?_) (fun h1 => ?_)
      · have h1' : i < n3 := by have := of_decide_eq_true h1; omega
        obtain ⟨g, rfl⟩ : ∃ g, og3 = some g := by
          cases og3 with
          | none => have := hog3 rfl; omega
          | some g => exact ⟨g, rfl⟩
        obtain ⟨q8, q4⟩ := hg3 g rfl
        have q8' : ¬ g8 = g := fun e => q8 e.symm
        have q4' : ¬ g4 = g := fun e => q4 e.symm
        first | dsimp only [Heap.ne, gh] at hn_g12 | skip
        simp only [gs, gh]
        repeat first|apply wa1|apply wa2|apply wa3|apply wa4|apply wa5 rfl|apply wa6|apply wa7|(refine wb1 rfl fun R r=>?_;simp only[go_sem, hn_g4, hn_g8, e1, hv, ↓hlen, hn_g12, q8, q4, q8', q4'];with_reducible refine r _ _ ?_;clear r R)
        refine aw_dr 7 ty_mixed (by kernel_rfl) ?_
        repeat first|apply wa1|apply wa2|apply wa3|apply wa4|apply wa5 rfl|apply wa6|apply wa7|(refine wb1 rfl fun R r=>?_;simp only[go_sem, hn_g4, hn_g8, e1, hv, ↓hlen, hn_g12, q8, q4, q8', q4'];with_reducible refine r _ _ ?_;clear r R)|apply wa8|(refine wd1 rfl fun R r=>?_;simp only[go_sem, hn_g4, hn_g8, e1, hv, ↓hlen, hn_g12, q8, q4, q8', q4'];with_reducible refine r _ _ ?_;clear r R)
        refine aw_cond (by simp only[go_sem, hn_g4, hn_g8, e1, hv, ↓hlen, hn_g12, q8, q4, q8', q4']<;>rfl) (fun h2 => ?_) (fun h2 => ?_)
        · rw [dn_beq] at h2
          have h2' := of_decide_eq_true h2
          rw [hf, findN_step (by omega), if_pos h2'] at hA
          dsimp only at hA
          repeat first|apply wa1|apply wa2|apply wa3|apply wa4|apply wa5 rfl|apply wa6|apply wa7|(refine wb1 rfl fun R r=>?_;simp only[go_sem, hn_g4, hn_g8, e1, hv, ↓hlen, hn_g12, q8, q4, q8', q4'];with_reducible refine r _ _ ?_;clear r R)|apply wa8|(refine wd1 rfl fun R r=>?_;simp only[go_sem, hn_g4, hn_g8, e1, hv, ↓hlen, hn_g12, q8, q4, q8', q4'];with_reducible refine r _ _ ?_;clear r R)
          refine aw_store rfl rfl rfl rfl (by simp only[go_sem, hn_g4, hn_g8, e1, hv, ↓hlen, hn_g12, q8, q4, q8', q4']<;>rfl) (by simp only[go_sem, hn_g4, hn_g8, e1, hv, ↓hlen, hn_g12, q8, q4, q8', q4']<;>rfl) (by simp only[go_sem, hn_g4, hn_g8, e1, hv, ↓hlen, hn_g12, q8, q4, q8', q4']<;>rfl) (by simp only[go_sem, hn_g4, hn_g8, e1, hv, ↓hlen, hn_g12, q8, q4, q8', q4']<;>rfl) (fun _ e => by cases e) (by first | rfl | exact solid_gs3) (by rfl) (by first|omega|simp) rfl ?_
          (try simp only[go_sem, hn_g4, hn_g8, e1, hv, ↓hlen, hn_g12, q8, q4, q8', q4'])
          repeat first|apply wa1|apply wa2|apply wa3|apply wa4|apply wa5 rfl|apply wa6|apply wa7|(refine wb1 rfl fun R r=>?_;simp only[go_sem, hn_g4, hn_g8, e1, hv, ↓hlen, hn_g12, q8, q4, q8', q4'];with_reducible refine r _ _ ?_;clear r R)|apply wa8|(refine wd1 rfl fun R r=>?_;simp only[go_sem, hn_g4, hn_g8, e1, hv, ↓hlen, hn_g12, q8, q4, q8', q4'];with_reducible refine r _ _ ?_;clear r R)
          refine aw_keep [(8, .c (.optr g8 0)), (9, .c (.int .i64 (2 + i)))] ((g8, .cells 25 3 (ofL [is true o, gs (some g) 3 n3, .int .i64 rt])) :: gh (some g) 72 (n3 * 3) (dnsF B.1)) (by simp only[go_sem, hn_g4, hn_g8, e1, hv, ↓hlen, hn_g12, q8, q4, q8', q4']<;>and_intros<;>first|exact True.intro|(with_reducible rfl)|exact c_int (by omega)|rfl) (List.Sublist.cons _ (List.Sublist.cons_cons _ (List.Sublist.cons _ (List.Sublist.refl _)))) ?_
          refine aw_rethw (h' := gh (some g) 72 (n3 * 3) (dnsF B.1)) rfl (List.Sublist.cons _ (List.Sublist.refl _)) (fun R hR => ?_)
          simp only [go_sem, hn_g4, hn_g8, e1, hv, ↓hlen, hn_g12, q8, q4, q8', q4']
          refine hR _ rfl ?_
          clear hR R
          exact ⟨some g, n3, by rw [hA]; exact hn3, by omega, hog3, by rw [hA]; rfl, by rw [hA]; rfl⟩
        · rw [dn_beq] at h2
          have h2' := of_decide_eq_false h2
          repeat first|apply wa1|apply wa2|apply wa3|apply wa4|apply wa5 rfl|apply wa6|apply wa7|(refine wb1 rfl fun R r=>?_;simp only[go_sem, hn_g4, hn_g8, e1, hv, ↓hlen, hn_g12, q8, q4, q8', q4'];with_reducible refine r _ _ ?_;clear r R)
          exact aw_stop ⟨i + 1, by omega, (by simp only[go_sem, hn_g4, hn_g8, e1, hv, ↓hlen, hn_g12, q8, q4, q8', q4']<;>and_intros<;>first|exact True.intro|(with_reducible rfl)|exact c_int (by omega)|rfl), (List.Sublist.refl _), by omega, by rw [hf, findN_step (by omega), if_neg h2']⟩
      · have h1' : i = n3 := by have := of_decide_eq_false h1; omega
        subst h1'
        rw [hf, List.drop_eq_nil_of_le (by omega), findN] at hA
        dsimp only at hA
        repeat first|apply wa1|apply wa2|apply wa3|apply wa4|apply wa5 rfl|apply wa6|apply wa7|(refine wb1 rfl fun R r=>?_;simp only[go_sem, hn_g4, hn_g8, e1, hv, ↓hlen, hn_g12];with_reducible refine r _ _ ?_;clear r R)
        refine aw_push (pre := [(g12, .cells 72 3 (ofL [.int .i64 v, .int .i64 A.2, .int .i64 B.2])), (g8, AObj.cells 25 3 (ofL [.nils, .nils, .int .i64 0])), (g4, AObj.cells 25 3 (ofL [is true o, gs og3 3 i, .int .i64 rt]))]) rfl rfl rfl rfl rfl rfl rfl (by simp only[go_sem, hn_g4, hn_g8, e1, hv, ↓hlen, hn_g12]<;>rfl) (by simp only[go_sem, hn_g4, hn_g8, e1, hv, ↓hlen, hn_g12]<;>rfl) (by rfl) (by omega) (by omega) (by simp only[go_sem, hn_g4, hn_g8, e1, hv, ↓hlen, hn_g12]<;>rfl) (by omega) (by exact hog3) (by simp only[go_sem, hn_g4, hn_g8, e1, hv, ↓hlen, hn_g12]<;>rfl) (by rfl) (by rfl) (by first | rfl | simp only [Nat.mul_one, List.nil_append, List.cons_append] <;> rfl) (by unfold maxLen; omega) (by omega) (by exact lf_push hn3 ⟨v, A.2, B.2⟩ (by omega)) fun g hn_g => ?_
        replace hn_g := Heap.ne_of hn_g
        first | dsimp only [Heap.ne, gh] at hn_g | dsimp only [Heap.ne] at hn_g | skip
        (try simp only[go_sem, hn_g4, hn_g8, e1, hv, ↓hlen, hn_g12, hn_g])
        simp only [gs, gh]
        repeat first|apply wa1|apply wa2|apply wa3|apply wa4|apply wa5 rfl|apply wa6|apply wa7|(refine wb1 rfl fun R r=>?_;simp only[go_sem, hn_g4, hn_g8, e1, hv, ↓hlen, hn_g12, hn_g];with_reducible refine r _ _ ?_;clear r R)
        refine aw_store rfl rfl rfl rfl (by simp only[go_sem, hn_g4, hn_g8, e1, hv, ↓hlen, hn_g12, hn_g]<;>rfl) (by simp only[go_sem, hn_g4, hn_g8, e1, hv, ↓hlen, hn_g12, hn_g]<;>rfl) (by simp only[go_sem, hn_g4, hn_g8, e1, hv, ↓hlen, hn_g12, hn_g]<;>rfl) (by simp only[go_sem, hn_g4, hn_g8, e1, hv, ↓hlen, hn_g12, hn_g]<;>rfl) (fun _ e => by cases e) (by first | rfl | exact solid_gs3) (by rfl) (by first|omega|simp) rfl ?_
        (try simp only[go_sem, hn_g4, hn_g8, e1, hv, ↓hlen, hn_g12, hn_g])
        repeat first|apply wa7|(refine wb1 rfl fun R r=>?_;simp only[go_sem, hn_g4, hn_g8, e1, hv, ↓hlen, hn_g12, hn_g];with_reducible refine r _ _ ?_;clear r R)
        refine aw_seq ?_
        refine aw_cut (fun _ : Unit => [(8, .c (.optr g8 0)), (9, .c (.int .i64 (1 + ((i + 1 : Nat) : Int))))]) (fun _ => (g8, .cells 25 3 (ofL [is true o, .osl g 3 0 (i + 1), .int .i64 rt])) :: [(g, .cells 72 ((i + 1) * 3) (dnsF (B.1 ++ [⟨v, A.2, B.2⟩])))]) (fun _ => B.1.length = i) ?_ ?_
        · refine aw_drT 0 0 [0, 1, 2, 3, 4, 5, 6] ty_mixed (by kernel_rfl) ?_
          refine drk_nil ?_
          refine aw_ops_nil ?_
          refine aw_stop ?_
          refine awN_step [0, 1, 2, 3, 4, 5, 6] [0, 1] (by kernel_rfl) (by kernel_rfl) (by simp) (by rfl) ⟨⟨_, rfl, ?_⟩, ⟨_, rfl, ?_⟩, trivial⟩
          · repeat first|apply wa7|(refine wb1 rfl fun R r=>?_;simp only[go_sem, hn_g4, hn_g8, e1, hv, ↓hlen, hn_g12, hn_g];with_reducible refine r _ _ ?_;clear r R)
            refine aw_stop ?_
            refine awN_step [1, 2, 3, 4, 5, 6] [1, 5] (by kernel_rfl) (by kernel_rfl) (by simp) (by rfl) ⟨⟨_, rfl, ?_⟩, ⟨_, rfl, ?_⟩, trivial⟩
            · repeat first|apply wa7|(refine wb1 rfl fun R r=>?_;simp only[go_sem, hn_g4, hn_g8, e1, hv, ↓hlen, hn_g12, hn_g];with_reducible refine r _ _ ?_;clear r R)
              refine aw_stop ?_
              refine awN_step [2, 3, 4, 5, 6] [2, 5] (by kernel_rfl) (by kernel_rfl) (by simp) (by rfl) ⟨⟨_, rfl, ?_⟩, ⟨_, rfl, ?_⟩, trivial⟩
              · repeat first|apply wa7|(refine wb1 rfl fun R r=>?_;simp only[go_sem, hn_g4, hn_g8, e1, hv, ↓hlen, hn_g12, hn_g];with_reducible refine r _ _ ?_;clear r R)
                refine aw_stop ?_
                refine awN_step [3, 4, 5, 6] [3, 5] (by kernel_rfl) (by kernel_rfl) (by simp) (by rfl) ⟨⟨_, rfl, ?_⟩, ⟨_, rfl, ?_⟩, trivial⟩
                · repeat first|apply wa7|(refine wb1 rfl fun R r=>?_;simp only[go_sem, hn_g4, hn_g8, e1, hv, ↓hlen, hn_g12, hn_g];with_reducible refine r _ _ ?_;clear r R)
                  refine aw_stop ?_
                  refine awN_step [4, 5, 6] [4, 5] (by kernel_rfl) (by kernel_rfl) (by simp) (by rfl) ⟨⟨_, rfl, ?_⟩, ⟨_, rfl, ?_⟩, trivial⟩
                  · repeat first|apply wa7|(refine wb1 rfl fun R r=>?_;simp only[go_sem, hn_g4, hn_g8, e1, hv, ↓hlen, hn_g12, hn_g];with_reducible refine r _ _ ?_;clear r R)
                    refine aw_stop ?_
                    refine awN_step [5, 6] [5] (by kernel_rfl) (by kernel_rfl) (by simp) (by rfl) ⟨⟨_, rfl, ?_⟩, trivial⟩
                    refine aw_store rfl rfl rfl rfl (by simp only[go_sem, hn_g4, hn_g8, e1, hv, ↓hlen, hn_g12, hn_g]<;>rfl) (by simp only[go_sem, hn_g4, hn_g8, e1, hv, ↓hlen, hn_g12, hn_g]<;>rfl) (by simp only[go_sem, hn_g4, hn_g8, e1, hv, ↓hlen, hn_g12, hn_g]<;>rfl) (by simp only[go_sem, hn_g4, hn_g8, e1, hv, ↓hlen, hn_g12, hn_g]<;>rfl) (fun _ e => by cases e) (by first | rfl | exact solid_gs3) (by rfl) (by first|omega|simp) rfl ?_
                    (try simp only[go_sem, hn_g4, hn_g8, e1, hv, ↓hlen, hn_g12, hn_g])
                    repeat first|apply wa7|(refine wb1 rfl fun R r=>?_;simp only[go_sem, hn_g4, hn_g8, e1, hv, ↓hlen, hn_g12, hn_g];with_reducible refine r _ _ ?_;clear r R)
                    refine aw_stop ?_
                    refine awN_step [6] [6] (by kernel_rfl) (by kernel_rfl) (by simp) (by rfl) ⟨⟨_, rfl, ?_⟩, trivial⟩
                    repeat first|apply wa7|(refine wb1 rfl fun R r=>?_;simp only[go_sem, hn_g4, hn_g8, e1, hv, ↓hlen, hn_g12, hn_g];with_reducible refine r _ _ ?_;clear r R)
                    refine aw_stop ?_
                    refine awN_nil ?_
                    exact aw_stop ⟨(), (by simp only[go_sem, hn_g4, hn_g8, e1, hv, ↓hlen, hn_g12, hn_g]<;>and_intros<;>first|exact True.intro|(with_reducible rfl)|exact c_int (by omega)|rfl), List.Sublist.cons _ (List.Sublist.cons_cons _ (List.Sublist.cons _ (List.Sublist.refl _))), hn3⟩
                  · refine aw_store rfl rfl rfl rfl (by simp only[go_sem, hn_g4, hn_g8, e1, hv, ↓hlen, hn_g12, hn_g]<;>rfl) (by simp only[go_sem, hn_g4, hn_g8, e1, hv, ↓hlen, hn_g12, hn_g]<;>rfl) (by simp only[go_sem, hn_g4, hn_g8, e1, hv, ↓hlen, hn_g12, hn_g]<;>rfl) (by simp only[go_sem, hn_g4, hn_g8, e1, hv, ↓hlen, hn_g12, hn_g]<;>rfl) (fun _ e => by cases e) (by first | rfl | exact solid_gs3) (by rfl) (by first|omega|simp) rfl ?_
                    (try simp only[go_sem, hn_g4, hn_g8, e1, hv, ↓hlen, hn_g12, hn_g])
                    repeat first|apply wa7|(refine wb1 rfl fun R r=>?_;simp only[go_sem, hn_g4, hn_g8, e1, hv, ↓hlen, hn_g12, hn_g];with_reducible refine r _ _ ?_;clear r R)
                    refine aw_stop ?_
                    refine awN_step [4, 6] [4] (by kernel_rfl) (by kernel_rfl) (by simp) (by rfl) ⟨⟨_, rfl, ?_⟩, trivial⟩
                    repeat first|apply wa7|(refine wb1 rfl fun R r=>?_;simp only[go_sem, hn_g4, hn_g8, e1, hv, ↓hlen, hn_g12, hn_g];with_reducible refine r _ _ ?_;clear r R)
                    refine aw_stop ?_
                    refine awN_step [6] [6] (by kernel_rfl) (by kernel_rfl) (by simp) (by rfl) ⟨⟨_, rfl, ?_⟩, trivial⟩
                    repeat first|apply wa7|(refine wb1 rfl fun R r=>?_;simp only[go_sem, hn_g4, hn_g8, e1, hv, ↓hlen, hn_g12, hn_g];with_reducible refine r _ _ ?_;clear r R)
                    refine aw_stop ?_
                    refine awN_nil ?_
                    exact aw_stop ⟨(), (by simp only[go_sem, hn_g4, hn_g8, e1, hv, ↓hlen, hn_g12, hn_g]<;>and_intros<;>first|exact True.intro|(with_reducible rfl)|exact c_int (by omega)|rfl), List.Sublist.cons _ (List.Sublist.cons_cons _ (List.Sublist.cons _ (List.Sublist.refl _))), hn3⟩
                · refine aw_store rfl rfl rfl rfl (by simp only[go_sem, hn_g4, hn_g8, e1, hv, ↓hlen, hn_g12, hn_g]<;>rfl) (by simp only[go_sem, hn_g4, hn_g8, e1, hv, ↓hlen, hn_g12, hn_g]<;>rfl) (by simp only[go_sem, hn_g4, hn_g8, e1, hv, ↓hlen, hn_g12, hn_g]<;>rfl) (by simp only[go_sem, hn_g4, hn_g8, e1, hv, ↓hlen, hn_g12, hn_g]<;>rfl) (fun _ e => by cases e) (by first | rfl | exact solid_gs3) (by rfl) (by first|omega|simp) rfl ?_
                  (try simp only[go_sem, hn_g4, hn_g8, e1, hv, ↓hlen, hn_g12, hn_g])
                  repeat first|apply wa7|(refine wb1 rfl fun R r=>?_;simp only[go_sem, hn_g4, hn_g8, e1, hv, ↓hlen, hn_g12, hn_g];with_reducible refine r _ _ ?_;clear r R)
                  refine aw_stop ?_
                  refine awN_step [3, 4, 6] [3] (by kernel_rfl) (by kernel_rfl) (by simp) (by rfl) ⟨⟨_, rfl, ?_⟩, trivial⟩
                  repeat first|apply wa7|(refine wb1 rfl fun R r=>?_;simp only[go_sem, hn_g4, hn_g8, e1, hv, ↓hlen, hn_g12, hn_g];with_reducible refine r _ _ ?_;clear r R)
                  refine aw_stop ?_
                  refine awN_step [4, 6] [4] (by kernel_rfl) (by kernel_rfl) (by simp) (by rfl) ⟨⟨_, rfl, ?_⟩, trivial⟩
                  repeat first|apply wa7|(refine wb1 rfl fun R r=>?_;simp only[go_sem, hn_g4, hn_g8, e1, hv, ↓hlen, hn_g12, hn_g];with_reducible refine r _ _ ?_;clear r R)
                  refine aw_stop ?_
                  refine awN_step [6] [6] (by kernel_rfl) (by kernel_rfl) (by simp) (by rfl) ⟨⟨_, rfl, ?_⟩, trivial⟩
                  repeat first|apply wa7|(refine wb1 rfl fun R r=>?_;simp only[go_sem, hn_g4, hn_g8, e1, hv, ↓hlen, hn_g12, hn_g];with_reducible refine r _ _ ?_;clear r R)
                  refine aw_stop ?_
                  refine awN_nil ?_
                  exact aw_stop ⟨(), (by simp only[go_sem, hn_g4, hn_g8, e1, hv, ↓hlen, hn_g12, hn_g]<;>and_intros<;>first|exact True.intro|(with_reducible rfl)|exact c_int (by omega)|rfl), List.Sublist.cons _ (List.Sublist.cons_cons _ (List.Sublist.cons _ (List.Sublist.refl _))), hn3⟩
              · refine aw_store rfl rfl rfl rfl (by simp only[go_sem, hn_g4, hn_g8, e1, hv, ↓hlen, hn_g12, hn_g]<;>rfl) (by simp only[go_sem, hn_g4, hn_g8, e1, hv, ↓hlen, hn_g12, hn_g]<;>rfl) (by simp only[go_sem, hn_g4, hn_g8, e1, hv, ↓hlen, hn_g12, hn_g]<;>rfl) (by simp only[go_sem, hn_g4, hn_g8, e1, hv, ↓hlen, hn_g12, hn_g]<;>rfl) (fun _ e => by cases e) (by first | rfl | exact solid_gs3) (by rfl) (by first|omega|simp) rfl ?_
                (try simp only[go_sem, hn_g4, hn_g8, e1, hv, ↓hlen, hn_g12, hn_g])
                repeat first|apply wa7|(refine wb1 rfl fun R r=>?_;simp only[go_sem, hn_g4, hn_g8, e1, hv, ↓hlen, hn_g12, hn_g];with_reducible refine r _ _ ?_;clear r R)
                refine aw_stop ?_
                refine awN_step [2, 3, 4, 6] [2] (by kernel_rfl) (by kernel_rfl) (by simp) (by rfl) ⟨⟨_, rfl, ?_⟩, trivial⟩
                repeat first|apply wa7|(refine wb1 rfl fun R r=>?_;simp only[go_sem, hn_g4, hn_g8, e1, hv, ↓hlen, hn_g12, hn_g];with_reducible refine r _ _ ?_;clear r R)
                refine aw_stop ?_
                refine awN_step [3, 4, 6] [3] (by kernel_rfl) (by kernel_rfl) (by simp) (by rfl) ⟨⟨_, rfl, ?_⟩, trivial⟩
                repeat first|apply wa7|(refine wb1 rfl fun R r=>?_;simp only[go_sem, hn_g4, hn_g8, e1, hv, ↓hlen, hn_g12, hn_g];with_reducible refine r _ _ ?_;clear r R)
                refine aw_stop ?_
                refine awN_step [4, 6] [4] (by kernel_rfl) (by kernel_rfl) (by simp) (by rfl) ⟨⟨_, rfl, ?_⟩, trivial⟩
                repeat first|apply wa7|(refine wb1 rfl fun R r=>?_;simp only[go_sem, hn_g4, hn_g8, e1, hv, ↓hlen, hn_g12, hn_g];with_reducible refine r _ _ ?_;clear r R)
                refine aw_stop ?_
                refine awN_step [6] [6] (by kernel_rfl) (by kernel_rfl) (by simp) (by rfl) ⟨⟨_, rfl, ?_⟩, trivial⟩
                repeat first|apply wa7|(refine wb1 rfl fun R r=>?_;simp only[go_sem, hn_g4, hn_g8, e1, hv, ↓hlen, hn_g12, hn_g];with_reducible refine r _ _ ?_;clear r R)
                refine aw_stop ?_
                refine awN_nil ?_
                exact aw_stop ⟨(), (by simp only[go_sem, hn_g4, hn_g8, e1, hv, ↓hlen, hn_g12, hn_g]<;>and_intros<;>first|exact True.intro|(with_reducible rfl)|exact c_int (by omega)|rfl), List.Sublist.cons _ (List.Sublist.cons_cons _ (List.Sublist.cons _ (List.Sublist.refl _))), hn3⟩
            · refine aw_store rfl rfl rfl rfl (by simp only[go_sem, hn_g4, hn_g8, e1, hv, ↓hlen, hn_g12, hn_g]<;>rfl) (by simp only[go_sem, hn_g4, hn_g8, e1, hv, ↓hlen, hn_g12, hn_g]<;>rfl) (by simp only[go_sem, hn_g4, hn_g8, e1, hv, ↓hlen, hn_g12, hn_g]<;>rfl) (by simp only[go_sem, hn_g4, hn_g8, e1, hv, ↓hlen, hn_g12, hn_g]<;>rfl) (fun _ e => by cases e) (by first | rfl | exact solid_gs3) (by rfl) (by first|omega|simp) rfl ?_
              (try simp only[go_sem, hn_g4, hn_g8, e1, hv, ↓hlen, hn_g12, hn_g])
              repeat first|apply wa7|(refine wb1 rfl fun R r=>?_;simp only[go_sem, hn_g4, hn_g8, e1, hv, ↓hlen, hn_g12, hn_g];with_reducible refine r _ _ ?_;clear r R)
              refine aw_stop ?_
              refine awN_step [1, 2, 3, 4, 6] [1] (by kernel_rfl) (by kernel_rfl) (by simp) (by rfl) ⟨⟨_, rfl, ?_⟩, trivial⟩
              repeat first|apply wa7|(refine wb1 rfl fun R r=>?_;simp only[go_sem, hn_g4, hn_g8, e1, hv, ↓hlen, hn_g12, hn_g];with_reducible refine r _ _ ?_;clear r R)
              refine aw_stop ?_
              refine awN_step [2, 3, 4, 6] [2] (by kernel_rfl) (by kernel_rfl) (by simp) (by rfl) ⟨⟨_, rfl, ?_⟩, trivial⟩
              repeat first|apply wa7|(refine wb1 rfl fun R r=>?_;simp only[go_sem, hn_g4, hn_g8, e1, hv, ↓hlen, hn_g12, hn_g];with_reducible refine r _ _ ?_;clear r R)
              refine aw_stop ?_
              refine awN_step [3, 4, 6] [3] (by kernel_rfl) (by kernel_rfl) (by simp) (by rfl) ⟨⟨_, rfl, ?_⟩, trivial⟩
              repeat first|apply wa7|(refine wb1 rfl fun R r=>?_;simp only[go_sem, hn_g4, hn_g8, e1, hv, ↓hlen, hn_g12, hn_g];with_reducible refine r _ _ ?_;clear r R)
              refine aw_stop ?_
              refine awN_step [4, 6] [4] (by kernel_rfl) (by kernel_rfl) (by simp) (by rfl) ⟨⟨_, rfl, ?_⟩, trivial⟩
              repeat first|apply wa7|(refine wb1 rfl fun R r=>?_;simp only[go_sem, hn_g4, hn_g8, e1, hv, ↓hlen, hn_g12, hn_g];with_reducible refine r _ _ ?_;clear r R)
              refine aw_stop ?_
              refine awN_step [6] [6] (by kernel_rfl) (by kernel_rfl) (by simp) (by rfl) ⟨⟨_, rfl, ?_⟩, trivial⟩
              repeat first|apply wa7|(refine wb1 rfl fun R r=>?_;simp only[go_sem, hn_g4, hn_g8, e1, hv, ↓hlen, hn_g12, hn_g];with_reducible refine r _ _ ?_;clear r R)
              refine aw_stop ?_
              refine awN_nil ?_
              exact aw_stop ⟨(), (by simp only[go_sem, hn_g4, hn_g8, e1, hv, ↓hlen, hn_g12, hn_g]<;>and_intros<;>first|exact True.intro|(with_reducible rfl)|exact c_int (by omega)|rfl), List.Sublist.cons _ (List.Sublist.cons_cons _ (List.Sublist.cons _ (List.Sublist.refl _))), hn3⟩
          · repeat first|apply wa7|(refine wb1 rfl fun R r=>?_;simp only[go_sem, hn_g4, hn_g8, e1, hv, ↓hlen, hn_g12, hn_g];with_reducible refine r _ _ ?_;clear r R)
            refine aw_stop ?_
            refine awN_step [0, 2, 3, 4, 5, 6] [0, 2] (by kernel_rfl) (by kernel_rfl) (by simp) (by rfl) ⟨⟨_, rfl, ?_⟩, ⟨_, rfl, ?_⟩, trivial⟩
            · repeat first|apply wa7|(refine wb1 rfl fun R r=>?_;simp only[go_sem, hn_g4, hn_g8, e1, hv, ↓hlen, hn_g12, hn_g];with_reducible refine r _ _ ?_;clear r R)
              refine aw_stop ?_
              refine awN_step [2, 3, 4, 5, 6] [2, 5] (by kernel_rfl) (by kernel_rfl) (by simp) (by rfl) ⟨⟨_, rfl, ?_⟩, ⟨_, rfl, ?_⟩, trivial⟩
              · repeat first|apply wa7|(refine wb1 rfl fun R r=>?_;simp only[go_sem, hn_g4, hn_g8, e1, hv, ↓hlen, hn_g12, hn_g];with_reducible refine r _ _ ?_;clear r R)
                refine aw_stop ?_
                refine awN_step [3, 4, 5, 6] [3, 5] (by kernel_rfl) (by kernel_rfl) (by simp) (by rfl) ⟨⟨_, rfl, ?_⟩, ⟨_, rfl, ?_⟩, trivial⟩
                · repeat first|apply wa7|(refine wb1 rfl fun R r=>?_;simp only[go_sem, hn_g4, hn_g8, e1, hv, ↓hlen, hn_g12, hn_g];with_reducible refine r _ _ ?_;clear r R)
                  refine aw_stop ?_
                  refine awN_step [4, 5, 6] [4, 5] (by kernel_rfl) (by kernel_rfl) (by simp) (by rfl) ⟨⟨_, rfl, ?_⟩, ⟨_, rfl, ?_⟩, trivial⟩
                  · repeat first|apply wa7|(refine wb1 rfl fun R r=>?_;simp only[go_sem, hn_g4, hn_g8, e1, hv, ↓hlen, hn_g12, hn_g];with_reducible refine r _ _ ?_;clear r R)
                    refine aw_stop ?_
                    refine awN_step [5, 6] [5] (by kernel_rfl) (by kernel_rfl) (by simp) (by rfl) ⟨⟨_, rfl, ?_⟩, trivial⟩
                    refine aw_store rfl rfl rfl rfl (by simp only[go_sem, hn_g4, hn_g8, e1, hv, ↓hlen, hn_g12, hn_g]<;>rfl) (by simp only[go_sem, hn_g4, hn_g8, e1, hv, ↓hlen, hn_g12, hn_g]<;>rfl) (by simp only[go_sem, hn_g4, hn_g8, e1, hv, ↓hlen, hn_g12, hn_g]<;>rfl) (by simp only[go_sem, hn_g4, hn_g8, e1, hv, ↓hlen, hn_g12, hn_g]<;>rfl) (fun _ e => by cases e) (by first | rfl | exact solid_gs3) (by rfl) (by first|omega|simp) rfl ?_
                    (try simp only[go_sem, hn_g4, hn_g8, e1, hv, ↓hlen, hn_g12, hn_g])
                    repeat first|apply wa7|(refine wb1 rfl fun R r=>?_;simp only[go_sem, hn_g4, hn_g8, e1, hv, ↓hlen, hn_g12, hn_g];with_reducible refine r _ _ ?_;clear r R)
                    refine aw_stop ?_
                    refine awN_step [6] [6] (by kernel_rfl) (by kernel_rfl) (by simp) (by rfl) ⟨⟨_, rfl, ?_⟩, trivial⟩
                    repeat first|apply wa7|(refine wb1 rfl fun R r=>?_;simp only[go_sem, hn_g4, hn_g8, e1, hv, ↓hlen, hn_g12, hn_g];with_reducible refine r _ _ ?_;clear r R)
                    refine aw_stop ?_
                    refine awN_nil ?_
                    exact aw_stop ⟨(), (by simp only[go_sem, hn_g4, hn_g8, e1, hv, ↓hlen, hn_g12, hn_g]<;>and_intros<;>first|exact True.intro|(with_reducible rfl)|exact c_int (by omega)|rfl), List.Sublist.cons _ (List.Sublist.cons_cons _ (List.Sublist.cons _ (List.Sublist.refl _))), hn3⟩
                  · refine aw_store rfl rfl rfl rfl (by simp only[go_sem, hn_g4, hn_g8, e1, hv, ↓hlen, hn_g12, hn_g]<;>rfl) (by simp only[go_sem, hn_g4, hn_g8, e1, hv, ↓hlen, hn_g12, hn_g]<;>rfl) (by simp only[go_sem, hn_g4, hn_g8, e1, hv, ↓hlen, hn_g12, hn_g]<;>rfl) (by simp only[go_sem, hn_g4, hn_g8, e1, hv, ↓hlen, hn_g12, hn_g]<;>rfl) (fun _ e => by cases e) (by first | rfl | exact solid_gs3) (by rfl) (by first|omega|simp) rfl ?_
                    (try simp only[go_sem, hn_g4, hn_g8, e1, hv, ↓hlen, hn_g12, hn_g])
                    repeat first|apply wa7|(refine wb1 rfl fun R r=>?_;simp only[go_sem, hn_g4, hn_g8, e1, hv, ↓hlen, hn_g12, hn_g];with_reducible refine r _ _ ?_;clear r R)
                    refine aw_stop ?_
                    refine awN_step [4, 6] [4] (by kernel_rfl) (by kernel_rfl) (by simp) (by rfl) ⟨⟨_, rfl, ?_⟩, trivial⟩
                    repeat first|apply wa7|(refine wb1 rfl fun R r=>?_;simp only[go_sem, hn_g4, hn_g8, e1, hv, ↓hlen, hn_g12, hn_g];with_reducible refine r _ _ ?_;clear r R)
                    refine aw_stop ?_
                    refine awN_step [6] [6] (by kernel_rfl) (by kernel_rfl) (by simp) (by rfl) ⟨⟨_, rfl, ?_⟩, trivial⟩
                    repeat first|apply wa7|(refine wb1 rfl fun R r=>?_;simp only[go_sem, hn_g4, hn_g8, e1, hv, ↓hlen, hn_g12, hn_g];with_reducible refine r _ _ ?_;clear r R)
                    refine aw_stop ?_
                    refine awN_nil ?_
                    exact aw_stop ⟨(), (by simp only[go_sem, hn_g4, hn_g8, e1, hv, ↓hlen, hn_g12, hn_g]<;>and_intros<;>first|exact True.intro|(with_reducible rfl)|exact c_int (by omega)|rfl), List.Sublist.cons _ (List.Sublist.cons_cons _ (List.Sublist.cons _ (List.Sublist.refl _))), hn3⟩
                · refine aw_store rfl rfl rfl rfl (by simp only[go_sem, hn_g4, hn_g8, e1, hv, ↓hlen, hn_g12, hn_g]<;>rfl) (by simp only[go_sem, hn_g4, hn_g8, e1, hv, ↓hlen, hn_g12, hn_g]<;>rfl) (by simp only[go_sem, hn_g4, hn_g8, e1, hv, ↓hlen, hn_g12, hn_g]<;>rfl) (by simp only[go_sem, hn_g4, hn_g8, e1, hv, ↓hlen, hn_g12, hn_g]<;>rfl) (fun _ e => by cases e) (by first | rfl | exact solid_gs3) (by rfl) (by first|omega|simp) rfl ?_
                  (try simp only[go_sem, hn_g4, hn_g8, e1, hv, ↓hlen, hn_g12, hn_g])
                  repeat first|apply wa7|(refine wb1 rfl fun R r=>?_;simp only[go_sem, hn_g4, hn_g8, e1, hv, ↓hlen, hn_g12, hn_g];with_reducible refine r _ _ ?_;clear r R)
                  refine aw_stop ?_
                  refine awN_step [3, 4, 6] [3] (by kernel_rfl) (by kernel_rfl) (by simp) (by rfl) ⟨⟨_, rfl, ?_⟩, trivial⟩
                  repeat first|apply wa7|(refine wb1 rfl fun R r=>?_;simp only[go_sem, hn_g4, hn_g8, e1, hv, ↓hlen, hn_g12, hn_g];with_reducible refine r _ _ ?_;clear r R)
                  refine aw_stop ?_
                  refine awN_step [4, 6] [4] (by kernel_rfl) (by kernel_rfl) (by simp) (by rfl) ⟨⟨_, rfl, ?_⟩, trivial⟩
                  repeat first|apply wa7|(refine wb1 rfl fun R r=>?_;simp only[go_sem, hn_g4, hn_g8, e1, hv, ↓hlen, hn_g12, hn_g];with_reducible refine r _ _ ?_;clear r R)
                  refine aw_stop ?_
                  refine awN_step [6] [6] (by kernel_rfl) (by kernel_rfl) (by simp) (by rfl) ⟨⟨_, rfl, ?_⟩, trivial⟩
                  repeat first|apply wa7|(refine wb1 rfl fun R r=>?_;simp only[go_sem, hn_g4, hn_g8, e1, hv, ↓hlen, hn_g12, hn_g];with_reducible refine r _ _ ?_;clear r R)
                  refine aw_stop ?_
                  refine awN_nil ?_
                  exact aw_stop ⟨(), (by simp only[go_sem, hn_g4, hn_g8, e1, hv, ↓hlen, hn_g12, hn_g]<;>and_intros<;>first|exact True.intro|(with_reducible rfl)|exact c_int (by omega)|rfl), List.Sublist.cons _ (List.Sublist.cons_cons _ (List.Sublist.cons _ (List.Sublist.refl _))), hn3⟩
              · refine aw_store rfl rfl rfl rfl (by simp only[go_sem, hn_g4, hn_g8, e1, hv, ↓hlen, hn_g12, hn_g]<;>rfl) (by simp only[go_sem, hn_g4, hn_g8, e1, hv, ↓hlen, hn_g12, hn_g]<;>rfl) (by simp only[go_sem, hn_g4, hn_g8, e1, hv, ↓hlen, hn_g12, hn_g]<;>rfl) (by simp only[go_sem, hn_g4, hn_g8, e1, hv, ↓hlen, hn_g12, hn_g]<;>rfl) (fun _ e => by cases e) (by first | rfl | exact solid_gs3) (by rfl) (by first|omega|simp) rfl ?_
                (try simp only[go_sem, hn_g4, hn_g8, e1, hv, ↓hlen, hn_g12, hn_g])
                repeat first|apply wa7|(refine wb1 rfl fun R r=>?_;simp only[go_sem, hn_g4, hn_g8, e1, hv, ↓hlen, hn_g12, hn_g];with_reducible refine r _ _ ?_;clear r R)
                refine aw_stop ?_
                refine awN_step [2, 3, 4, 6] [2] (by kernel_rfl) (by kernel_rfl) (by simp) (by rfl) ⟨⟨_, rfl, ?_⟩, trivial⟩
                repeat first|apply wa7|(refine wb1 rfl fun R r=>?_;simp only[go_sem, hn_g4, hn_g8, e1, hv, ↓hlen, hn_g12, hn_g];with_reducible refine r _ _ ?_;clear r R)
                refine aw_stop ?_
                refine awN_step [3, 4, 6] [3] (by kernel_rfl) (by kernel_rfl) (by simp) (by rfl) ⟨⟨_, rfl, ?_⟩, trivial⟩
                repeat first|apply wa7|(refine wb1 rfl fun R r=>?_;simp only[go_sem, hn_g4, hn_g8, e1, hv, ↓hlen, hn_g12, hn_g];with_reducible refine r _ _ ?_;clear r R)
                refine aw_stop ?_
                refine awN_step [4, 6] [4] (by kernel_rfl) (by kernel_rfl) (by simp) (by rfl) ⟨⟨_, rfl, ?_⟩, trivial⟩
                repeat first|apply wa7|(refine wb1 rfl fun R r=>?_;simp only[go_sem, hn_g4, hn_g8, e1, hv, ↓hlen, hn_g12, hn_g];with_reducible refine r _ _ ?_;clear r R)
                refine aw_stop ?_
                refine awN_step [6] [6] (by kernel_rfl) (by kernel_rfl) (by simp) (by rfl) ⟨⟨_, rfl, ?_⟩, trivial⟩
                repeat first|apply wa7|(refine wb1 rfl fun R r=>?_;simp only[go_sem, hn_g4, hn_g8, e1, hv, ↓hlen, hn_g12, hn_g];with_reducible refine r _ _ ?_;clear r R)
                refine aw_stop ?_
                refine awN_nil ?_
                exact aw_stop ⟨(), (by simp only[go_sem, hn_g4, hn_g8, e1, hv, ↓hlen, hn_g12, hn_g]<;>and_intros<;>first|exact True.intro|(with_reducible rfl)|exact c_int (by omega)|rfl), List.Sublist.cons _ (List.Sublist.cons_cons _ (List.Sublist.cons _ (List.Sublist.refl _))), hn3⟩
            · repeat first|apply wa7|(refine wb1 rfl fun R r=>?_;simp only[go_sem, hn_g4, hn_g8, e1, hv, ↓hlen, hn_g12, hn_g];with_reducible refine r _ _ ?_;clear r R)
              refine aw_stop ?_
              refine awN_step [0, 3, 4, 5, 6] [0, 3] (by kernel_rfl) (by kernel_rfl) (by simp) (by rfl) ⟨⟨_, rfl, ?_⟩, ⟨_, rfl, ?_⟩, trivial⟩
              · repeat first|apply wa7|(refine wb1 rfl fun R r=>?_;simp only[go_sem, hn_g4, hn_g8, e1, hv, ↓hlen, hn_g12, hn_g];with_reducible refine r _ _ ?_;clear r R)
                refine aw_stop ?_
                refine awN_step [3, 4, 5, 6] [3, 5] (by kernel_rfl) (by kernel_rfl) (by simp) (by rfl) ⟨⟨_, rfl, ?_⟩, ⟨_, rfl, ?_⟩, trivial⟩
                · repeat first|apply wa7|(refine wb1 rfl fun R r=>?_;simp only[go_sem, hn_g4, hn_g8, e1, hv, ↓hlen, hn_g12, hn_g];with_reducible refine r _ _ ?_;clear r R)
                  refine aw_stop ?_
                  refine awN_step [4, 5, 6] [4, 5] (by kernel_rfl) (by kernel_rfl) (by simp) (by rfl) ⟨⟨_, rfl, ?_⟩, ⟨_, rfl, ?_⟩, trivial⟩
                  · repeat first|apply wa7|(refine wb1 rfl fun R r=>?_;simp only[go_sem, hn_g4, hn_g8, e1, hv, ↓hlen, hn_g12, hn_g];with_reducible refine r _ _ ?_;clear r R)
                    refine aw_stop ?_
                    refine awN_step [5, 6] [5] (by kernel_rfl) (by kernel_rfl) (by simp) (by rfl) ⟨⟨_, rfl, ?_⟩, trivial⟩
                    refine aw_store rfl rfl rfl rfl (by simp only[go_sem, hn_g4, hn_g8, e1, hv, ↓hlen, hn_g12, hn_g]<;>rfl) (by simp only[go_sem, hn_g4, hn_g8, e1, hv, ↓hlen, hn_g12, hn_g]<;>rfl) (by simp only[go_sem, hn_g4, hn_g8, e1, hv, ↓hlen, hn_g12, hn_g]<;>rfl) (by simp only[go_sem, hn_g4, hn_g8, e1, hv, ↓hlen, hn_g12, hn_g]<;>rfl) (fun _ e => by cases e) (by first | rfl | exact solid_gs3) (by rfl) (by first|omega|simp) rfl ?_
                    (try simp only[go_sem, hn_g4, hn_g8, e1, hv, ↓hlen, hn_g12, hn_g])
                    repeat first|apply wa7|(refine wb1 rfl fun R r=>?_;simp only[go_sem, hn_g4, hn_g8, e1, hv, ↓hlen, hn_g12, hn_g];with_reducible refine r _ _ ?_;clear r R)
                    refine aw_stop ?_
                    refine awN_step [6] [6] (by kernel_rfl) (by kernel_rfl) (by simp) (by rfl) ⟨⟨_, rfl, ?_⟩, trivial⟩
                    repeat first|apply wa7|(refine wb1 rfl fun R r=>?_;simp only[go_sem, hn_g4, hn_g8, e1, hv, ↓hlen, hn_g12, hn_g];with_reducible refine r _ _ ?_;clear r R)
                    refine aw_stop ?_
                    refine awN_nil ?_
                    exact aw_stop ⟨(), (by simp only[go_sem, hn_g4, hn_g8, e1, hv, ↓hlen, hn_g12, hn_g]<;>and_intros<;>first|exact True.intro|(with_reducible rfl)|exact c_int (by omega)|rfl), List.Sublist.cons _ (List.Sublist.cons_cons _ (List.Sublist.cons _ (List.Sublist.refl _))), hn3⟩
                  · refine aw_store rfl rfl rfl rfl (by simp only[go_sem, hn_g4, hn_g8, e1, hv, ↓hlen, hn_g12, hn_g]<;>rfl) (by simp only[go_sem, hn_g4, hn_g8, e1, hv, ↓hlen, hn_g12, hn_g]<;>rfl) (by simp only[go_sem, hn_g4, hn_g8, e1, hv, ↓hlen, hn_g12, hn_g]<;>rfl) (by simp only[go_sem, hn_g4, hn_g8, e1, hv, ↓hlen, hn_g12, hn_g]<;>rfl) (fun _ e => by cases e) (by first | rfl | exact solid_gs3) (by rfl) (by first|omega|simp) rfl ?_
                    (try simp only[go_sem, hn_g4, hn_g8, e1, hv, ↓hlen, hn_g12, hn_g])
                    repeat first|apply wa7|(refine wb1 rfl fun R r=>?_;simp only[go_sem, hn_g4, hn_g8, e1, hv, ↓hlen, hn_g12, hn_g];with_reducible refine r _ _ ?_;clear r R)
                    refine aw_stop ?_
                    refine awN_step [4, 6] [4] (by kernel_rfl) (by kernel_rfl) (by simp) (by rfl) ⟨⟨_, rfl, ?_⟩, trivial⟩
                    repeat first|apply wa7|(refine wb1 rfl fun R r=>?_;simp only[go_sem, hn_g4, hn_g8, e1, hv, ↓hlen, hn_g12, hn_g];with_reducible refine r _ _ ?_;clear r R)
                    refine aw_stop ?_
                    refine awN_step [6] [6] (by kernel_rfl) (by kernel_rfl) (by simp) (by rfl) ⟨⟨_, rfl, ?_⟩, trivial⟩
                    repeat first|apply wa7|(refine wb1 rfl fun R r=>?_;simp only[go_sem, hn_g4, hn_g8, e1, hv, ↓hlen, hn_g12, hn_g];with_reducible refine r _ _ ?_;clear r R)
                    refine aw_stop ?_
                    refine awN_nil ?_
                    exact aw_stop ⟨(), (by simp only[go_sem, hn_g4, hn_g8, e1, hv, ↓hlen, hn_g12, hn_g]<;>and_intros<;>first|exact True.intro|(with_reducible rfl)|exact c_int (by omega)|rfl), List.Sublist.cons _ (List.Sublist.cons_cons _ (List.Sublist.cons _ (List.Sublist.refl _))), hn3⟩
                · refine aw_store rfl rfl rfl rfl (by simp only[go_sem, hn_g4, hn_g8, e1, hv, ↓hlen, hn_g12, hn_g]<;>rfl) (by simp only[go_sem, hn_g4, hn_g8, e1, hv, ↓hlen, hn_g12, hn_g]<;>rfl) (by simp only[go_sem, hn_g4, hn_g8, e1, hv, ↓hlen, hn_g12, hn_g]<;>rfl) (by simp only[go_sem, hn_g4, hn_g8, e1, hv, ↓hlen, hn_g12, hn_g]<;>rfl) (fun _ e => by cases e) (by first | rfl | exact solid_gs3) (by rfl) (by first|omega|simp) rfl ?_
                  (try simp only[go_sem, hn_g4, hn_g8, e1, hv, ↓hlen, hn_g12, hn_g])
                  repeat first|apply wa7|(refine wb1 rfl fun R r=>?_;simp only[go_sem, hn_g4, hn_g8, e1, hv, ↓hlen, hn_g12, hn_g];with_reducible refine r _ _ ?_;clear r R)
                  refine aw_stop ?_
                  refine awN_step [3, 4, 6] [3] (by kernel_rfl) (by kernel_rfl) (by simp) (by rfl) ⟨⟨_, rfl, ?_⟩, trivial⟩
                  repeat first|apply wa7|(refine wb1 rfl fun R r=>?_;simp only[go_sem, hn_g4, hn_g8, e1, hv, ↓hlen, hn_g12, hn_g];with_reducible refine r _ _ ?_;clear r R)
                  refine aw_stop ?_
                  refine awN_step [4, 6] [4] (by kernel_rfl) (by kernel_rfl) (by simp) (by rfl) ⟨⟨_, rfl, ?_⟩, trivial⟩
                  repeat first|apply wa7|(refine wb1 rfl fun R r=>?_;simp only[go_sem, hn_g4, hn_g8, e1, hv, ↓hlen, hn_g12, hn_g];with_reducible refine r _ _ ?_;clear r R)
                  refine aw_stop ?_
                  refine awN_step [6] [6] (by kernel_rfl) (by kernel_rfl) (by simp) (by rfl) ⟨⟨_, rfl, ?_⟩, trivial⟩
                  repeat first|apply wa7|(refine wb1 rfl fun R r=>?_;simp only[go_sem, hn_g4, hn_g8, e1, hv, ↓hlen, hn_g12, hn_g];with_reducible refine r _ _ ?_;clear r R)
                  refine aw_stop ?_
                  refine awN_nil ?_
                  exact aw_stop ⟨(), (by simp only[go_sem, hn_g4, hn_g8, e1, hv, ↓hlen, hn_g12, hn_g]<;>and_intros<;>first|exact True.intro|(with_reducible rfl)|exact c_int (by omega)|rfl), List.Sublist.cons _ (List.Sublist.cons_cons _ (List.Sublist.cons _ (List.Sublist.refl _))), hn3⟩
              · repeat first|apply wa7|(refine wb1 rfl fun R r=>?_;simp only[go_sem, hn_g4, hn_g8, e1, hv, ↓hlen, hn_g12, hn_g];with_reducible refine r _ _ ?_;clear r R)
                refine aw_stop ?_
                refine awN_step [0, 4, 5, 6] [0, 4] (by kernel_rfl) (by kernel_rfl) (by simp) (by rfl) ⟨⟨_, rfl, ?_⟩, ⟨_, rfl, ?_⟩, trivial⟩
                · repeat first|apply wa7|(refine wb1 rfl fun R r=>?_;simp only[go_sem, hn_g4, hn_g8, e1, hv, ↓hlen, hn_g12, hn_g];with_reducible refine r _ _ ?_;clear r R)
                  refine aw_stop ?_
                  refine awN_step [4, 5, 6] [4, 5] (by kernel_rfl) (by kernel_rfl) (by simp) (by rfl) ⟨⟨_, rfl, ?_⟩, ⟨_, rfl, ?_⟩, trivial⟩
                  · repeat first|apply wa7|(refine wb1 rfl fun R r=>?_;simp only[go_sem, hn_g4, hn_g8, e1, hv, ↓hlen, hn_g12, hn_g];with_reducible refine r _ _ ?_;clear r R)
                    refine aw_stop ?_
                    refine awN_step [5, 6] [5] (by kernel_rfl) (by kernel_rfl) (by simp) (by rfl) ⟨⟨_, rfl, ?_⟩, trivial⟩
                    refine aw_store rfl rfl rfl rfl (by simp only[go_sem, hn_g4, hn_g8, e1, hv, ↓hlen, hn_g12, hn_g]<;>rfl) (by simp only[go_sem, hn_g4, hn_g8, e1, hv, ↓hlen, hn_g12, hn_g]<;>rfl) (by simp only[go_sem, hn_g4, hn_g8, e1, hv, ↓hlen, hn_g12, hn_g]<;>rfl) (by simp only[go_sem, hn_g4, hn_g8, e1, hv, ↓hlen, hn_g12, hn_g]<;>rfl) (fun _ e => by cases e) (by first | rfl | exact solid_gs3) (by rfl) (by first|omega|simp) rfl ?_
                    (try simp only[go_sem, hn_g4, hn_g8, e1, hv, ↓hlen, hn_g12, hn_g])
                    repeat first|apply wa7|(refine wb1 rfl fun R r=>?_;simp only[go_sem, hn_g4, hn_g8, e1, hv, ↓hlen, hn_g12, hn_g];with_reducible refine r _ _ ?_;clear r R)
                    refine aw_stop ?_
                    refine awN_step [6] [6] (by kernel_rfl) (by kernel_rfl) (by simp) (by rfl) ⟨⟨_, rfl, ?_⟩, trivial⟩
                    repeat first|apply wa7|(refine wb1 rfl fun R r=>?_;simp only[go_sem, hn_g4, hn_g8, e1, hv, ↓hlen, hn_g12, hn_g];with_reducible refine r _ _ ?_;clear r R)
                    refine aw_stop ?_
                    refine awN_nil ?_
                    exact aw_stop ⟨(), (by simp only[go_sem, hn_g4, hn_g8, e1, hv, ↓hlen, hn_g12, hn_g]<;>and_intros<;>first|exact True.intro|(with_reducible rfl)|exact c_int (by omega)|rfl), List.Sublist.cons _ (List.Sublist.cons_cons _ (List.Sublist.cons _ (List.Sublist.refl _))), hn3⟩
                  · refine aw_store rfl rfl rfl rfl (by simp only[go_sem, hn_g4, hn_g8, e1, hv, ↓hlen, hn_g12, hn_g]<;>rfl) (by simp only[go_sem, hn_g4, hn_g8, e1, hv, ↓hlen, hn_g12, hn_g]<;>rfl) (by simp only[go_sem, hn_g4, hn_g8, e1, hv, ↓hlen, hn_g12, hn_g]<;>rfl) (by simp only[go_sem, hn_g4, hn_g8, e1, hv, ↓hlen, hn_g12, hn_g]<;>rfl) (fun _ e => by cases e) (by first | rfl | exact solid_gs3) (by rfl) (by first|omega|simp) rfl ?_
                    (try simp only[go_sem, hn_g4, hn_g8, e1, hv, ↓hlen, hn_g12, hn_g])
                    repeat first|apply wa7|(refine wb1 rfl fun R r=>?_;simp only[go_sem, hn_g4, hn_g8, e1, hv, ↓hlen, hn_g12, hn_g];with_reducible refine r _ _ ?_;clear r R)
                    refine aw_stop ?_
                    refine awN_step [4, 6] [4] (by kernel_rfl) (by kernel_rfl) (by simp) (by rfl) ⟨⟨_, rfl, ?_⟩, trivial⟩
                    repeat first|apply wa7|(refine wb1 rfl fun R r=>?_;simp only[go_sem, hn_g4, hn_g8, e1, hv, ↓hlen, hn_g12, hn_g];with_reducible refine r _ _ ?_;clear r R)
                    refine aw_stop ?_
                    refine awN_step [6] [6] (by kernel_rfl) (by kernel_rfl) (by simp) (by rfl) ⟨⟨_, rfl, ?_⟩, trivial⟩
                    repeat first|apply wa7|(refine wb1 rfl fun R r=>?_;simp only[go_sem, hn_g4, hn_g8, e1, hv, ↓hlen, hn_g12, hn_g];with_reducible refine r _ _ ?_;clear r R)
                    refine aw_stop ?_
                    refine awN_nil ?_
                    exact aw_stop ⟨(), (by simp only[go_sem, hn_g4, hn_g8, e1, hv, ↓hlen, hn_g12, hn_g]<;>and_intros<;>first|exact True.intro|(with_reducible rfl)|exact c_int (by omega)|rfl), List.Sublist.cons _ (List.Sublist.cons_cons _ (List.Sublist.cons _ (List.Sublist.refl _))), hn3⟩
                · repeat first|apply wa7|(refine wb1 rfl fun R r=>?_;simp only[go_sem, hn_g4, hn_g8, e1, hv, ↓hlen, hn_g12, hn_g];with_reducible refine r _ _ ?_;clear r R)
                  refine aw_stop ?_
                  refine awN_step [0, 5, 6] [0] (by kernel_rfl) (by kernel_rfl) (by simp) (by rfl) ⟨⟨_, rfl, ?_⟩, trivial⟩
                  repeat first|apply wa7|(refine wb1 rfl fun R r=>?_;simp only[go_sem, hn_g4, hn_g8, e1, hv, ↓hlen, hn_g12, hn_g];with_reducible refine r _ _ ?_;clear r R)
                  refine aw_stop ?_
                  refine awN_step [5, 6] [5] (by kernel_rfl) (by kernel_rfl) (by simp) (by rfl) ⟨⟨_, rfl, ?_⟩, trivial⟩
                  refine aw_store rfl rfl rfl rfl (by simp only[go_sem, hn_g4, hn_g8, e1, hv, ↓hlen, hn_g12, hn_g]<;>rfl) (by simp only[go_sem, hn_g4, hn_g8, e1, hv, ↓hlen, hn_g12, hn_g]<;>rfl) (by simp only[go_sem, hn_g4, hn_g8, e1, hv, ↓hlen, hn_g12, hn_g]<;>rfl) (by simp only[go_sem, hn_g4, hn_g8, e1, hv, ↓hlen, hn_g12, hn_g]<;>rfl) (fun _ e => by cases e) (by first | rfl | exact solid_gs3) (by rfl) (by first|omega|simp) rfl ?_
                  (try simp only[go_sem, hn_g4, hn_g8, e1, hv, ↓hlen, hn_g12, hn_g])
                  repeat first|apply wa7|(refine wb1 rfl fun R r=>?_;simp only[go_sem, hn_g4, hn_g8, e1, hv, ↓hlen, hn_g12, hn_g];with_reducible refine r _ _ ?_;clear r R)
                  refine aw_stop ?_
                  refine awN_step [6] [6] (by kernel_rfl) (by kernel_rfl) (by simp) (by rfl) ⟨⟨_, rfl, ?_⟩, trivial⟩
                  repeat first|apply wa7|(refine wb1 rfl fun R r=>?_;simp only[go_sem, hn_g4, hn_g8, e1, hv, ↓hlen, hn_g12, hn_g];with_reducible refine r _ _ ?_;clear r R)
                  refine aw_stop ?_
                  refine awN_nil ?_
                  exact aw_stop ⟨(), (by simp only[go_sem, hn_g4, hn_g8, e1, hv, ↓hlen, hn_g12, hn_g]<;>and_intros<;>first|exact True.intro|(with_reducible rfl)|exact c_int (by omega)|rfl), List.Sublist.cons _ (List.Sublist.cons_cons _ (List.Sublist.cons _ (List.Sublist.refl _))), hn3⟩
        rintro _ _
        refine aw_keep [(8, .c (.optr g8 0)), (9, .c (.int .i64 (1 + ((i + 1 : Nat) : Int))))] ((g8, .cells 25 3 (ofL [is true o, gs (some g) 3 (i + 1), .int .i64 rt])) :: gh (some g) 72 ((i + 1) * 3) (dnsF (B.1 ++ [⟨v, A.2, B.2⟩]))) (by simp only[go_sem, hn_g4, hn_g8, e1, hv, ↓hlen, hn_g12, hn_g]<;>and_intros<;>first|exact True.intro|(with_reducible rfl)|exact c_int (by omega)|rfl) (List.Sublist.refl _) ?_
        refine aw_rethw (h' := gh (some g) 72 ((i + 1) * 3) (dnsF (B.1 ++ [⟨v, A.2, B.2⟩]))) rfl (List.Sublist.cons _ (List.Sublist.refl _)) (fun R hR => ?_)
        simp only [go_sem, hn_g4, hn_g8, e1, hv, ↓hlen, hn_g12, hn_g]
        refine hR _ rfl ?_
        clear hR R
        exact ⟨some g, i + 1, by rw [hA]; simp [hn3], by omega, some_ne, by rw [hA, hn3]; rfl, by rw [hA]; rfl⟩
end Go.Proofs.Ytmkomfdiggcloaa
