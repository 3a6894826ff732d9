/- Texts of one proof, laid one behind the other by a program (merge.py): Dia7, PLaw, PLaw2, Shan5, Law1, Glue2. -/
import Derived.Test.YtmfmnmkipjpjhaaGreatQ17
import Derived.Test.YtmfmnmkipjpjhaaGreatQ15
import Derived.Test.YtmfmnmkipjpjhaaGreatQ16
import Derived.Test.YtmfmnmkipjpjhaaGreatQ14
set_option linter.unusedSimpArgs false
set_option linter.unusedVariables false
/- diagram.Check. -/
namespace Go.PN
open Go.AI
abbrev DK := { l : List Int // l.length = 3 }
def dk (x : DN) : DK := ⟨[x.v, x.lo, x.hi], rfl⟩
def dkV (k : DK) : Value := keyZ k.1
theorem dk_inj {x y : DN} : dk x = dk y ↔ x = y := by
  cases x; cases y
  simp [dk]
def dkL (ns : List DN) : List (DK × Value) := ns.map fun x => (dk x, .bool true)
theorem dkL_get (x : DN) : ∀ ns : List DN, kvGet (dk x) (dkL ns) = if x ∈ ns then some (.bool true) else none
  | [] => rfl
  | y :: ns => by
    have ih := dkL_get x ns
    show (if dk x = dk y then some (Value.bool true) else kvGet (dk x) (dkL ns)) = _
    by_cases h : x = y
    · subst h; simp
    · rw [if_neg (fun e => h (dk_inj.1 e)), ih]; simp [h]
theorem dkL_cst (x : DN) (ns : List DN) : cstC ((kvGet (dk x) (dkL ns)).getD (.bool false)) = .bool (decide (x ∈ ns)) := by
  rw [dkL_get]
  by_cases h : x ∈ ns <;> simp [h, cstC]
theorem dkL_push (ns : List DN) (x : DN) : dkL (ns ++ [x]) = dkL ns ++ [(dk x, .bool true)] := by simp [dkL]
theorem dk_rep {x : DN} : ∀ (S : Bool → Nat → Prop) (w : World) (u : Value), Rep S w (.agg [.int .i64 x.v, .int .i64 x.lo, .int .i64 x.hi]) u → u = dkV (dk x) := by
  rintro S w u ⟨us, rfl, h⟩
  match us, h with
  | [a, b, c], ⟨h1, h2, h3, _⟩ =>
    have h1 : a = _ := h1
    have h2 : b = _ := h2
    have h3 : c = _ := h3
    rw [h1, h2, h3]; rfl
theorem takeDN_push {ns : List DN} {i : Nat} (h : i < ns.length) : ns.take (i + 1) = ns.take i ++ [ns.getD i dn0] := by
  rw [List.take_succ_eq_append_getElem h, getDN h]
end Go.PN
namespace Go.Proofs.YtmfmnmkipjpjhaaGreat
open Go.AI Go.PN
attribute [local irreducible] aw Fa Fh DrK
theorem ty_mz : tZ1 Tryz.prog 4 = some (.bool false) := by kernel_rfl
theorem ty_key : tEqS Tryz.prog 104 = some 3 := by kernel_rfl
theorem dk_ok : KeyOk Tryz.prog 104 dkV := keyZ_ok ty_key
set_option maxRecDepth 100000 in
set_option maxHeartbeats 3200000 in
theorem dcheck_fa (d : DG) (hl : d.order.length ≤ 1099511627776) (hl2 : d.nodes.length ≤ 1099511627776) : Fa Tryz.prog 79 [.agg (dgc false d)] (.c (errA (dcode d))) := by
  unfold dcode
  refine fa_of_body Tryz.func79 rfl rfl (by simp [Tryz.ntmps79]) fun C hC => ?_
  simp only [initS, Nat.reduceAdd]
  refine xG ?_
  refine xB fun g1 hn_g1=>?_
  refine yG hn_g1 ?_
  refine yC hn_g1 (positions_fa d.order hl) ?_
  refine yG hn_g1 ?_
  refine yF hn_g1 (fun hb=>?_) fun hb=>?_
  · have hb' : ocode d.order d.order.length ≠ 0 := by simpa using hb
    rw [if_pos hb']
    refine yG hn_g1 ?_
    refine yT hC hn_g1 ?_
    exact .one (.c ler_err)
  · have hb' : ocode d.order d.order.length = 0 := by simpa using hb
    obtain ⟨hperm, h24⟩ := ocode_ok hb'
    rw [if_neg (by simp [hb']), if_pos hb']
    refine yG hn_g1 ?_
    refine yF hn_g1 (fun hc=>?_) fun hc=>?_
    · have hc' := of_decide_eq_true hc
      rw [if_pos (by omega)]
      refine yG hn_g1 ?_
      refine yT hC hn_g1 ?_
      exact .one (.c (ler_errN rfl (by omega)))
    · have hc' := of_decide_eq_false hc
      rw [if_neg (by omega)]
      refine yG hn_g1 ?_
      refine aw_makeMap (Kf := dkV) rfl rfl rfl fun gm hn_gm => ?_
      replace hn_gm := Heap.ne_of hn_gm
      dsimp only [Heap.ne] at hn_gm
      refine yS (oj hn_g1 hn_gm) ?_
      refine yG (oj hn_g1 hn_gm) ?_
      refine aw_lp (fun i : Nat => [(1, .c (.optr g1 0)), (3, .c (is true (placesL d.order))), (5, .c (.raw (.map (some gm)))), (25, .c (dns false d.nodes)), (26, .c (.int .i64 d.nodes.length)), (27, .c (.int .i64 i))]) (fun i => [(gm, .gen (MapI dkV (dkL (d.nodes.take i)))), (g1, .cells 31 3 (ofL (dgc false d)))]) (fun x => x ≤ d.nodes.length ∧ (∀ j, j < x → ncode d j = 0) ∧ nfirst d x (d.nodes.length - x) = nfirst d 0 d.nodes.length) (fun x => d.nodes.length - x) 0 (zB (oj hn_g1 hn_gm)) zZ ⟨Nat.zero_le _, by omega, rfl⟩ ?_
      rintro i ⟨hi, hz, hf⟩
      refine yG (oj hn_g1 hn_gm) ?_
      refine yF (oj hn_g1 hn_gm) (fun h1=>?_) fun h1=>?_
      · have h1' : i < d.nodes.length := by have := of_decide_eq_true h1; omega
        have hno : ∀ j, j < i → NodeOk d.order.length j (d.nodes.getD j dn0) := fun j hj => by
          refine nok_of (d := d) (i := j) fun hr => ?_
          have := hz j hj
          unfold ncode at this
          rw [if_pos hr] at this
          cases this
        have hnA := ncode_A d i
        refine yG (oj hn_g1 hn_gm) ?_
        refine yA (oj hn_g1 hn_gm) fun g7 hn_g7=>?_
        refine yG (oj hn_g1 (oj hn_gm hn_g7)) ?_
        refine yW (oj hn_g1 (oj hn_gm hn_g7)) ?_
        refine yS (oj hn_g1 (oj hn_gm hn_g7)) ?_
        refine yG (oj hn_g1 (oj hn_gm hn_g7)) ?_
        refine yC (oj hn_g1 (oj hn_gm hn_g7)) (checkNode_fa d i h1' h24 ?_ hno) ?_
        · omega
        refine yG (oj hn_g1 (oj hn_gm hn_g7)) ?_
        refine yF (oj hn_g1 (oj hn_gm hn_g7)) (fun h2=>?_) fun h2=>?_
        · have h2' : ncodeA d i ≠ 0 := by simpa using h2
          rw [if_pos h2'] at hnA
          refine yG (oj hn_g1 (oj hn_gm hn_g7)) ?_
          refine yT hC (oj hn_g1 (oj hn_gm hn_g7)) ?_
          have h3 : ncode d i ≠ 0 := by rw [hnA]; exact h2'
          rw [nfirst_at h1' h3] at hf
          rw [← hf, if_pos h3, hnA]
          exact .one (.c ler_err)
        · have h2' : ncodeA d i = 0 := by simpa using h2
          rw [if_neg (by simp [h2'])] at hnA
          refine yG (oj hn_g1 (oj hn_gm hn_g7)) ?_
          refine aw_lookup (a := dk (d.nodes.getD i dn0)) (kv := dkL (d.nodes.take i)) (Kf := dkV) (z := .bool false) rfl rfl rfl (kt := 104) (et := 4) (by kernel_rfl) dk_ok ty_mz (zE (oj hn_g1 (oj hn_gm hn_g7))) (zE (oj hn_g1 (oj hn_gm hn_g7))) (zE (oj hn_g1 (oj hn_gm hn_g7))) dk_rep ?_
          rw [dkL_cst]
          refine yS (oj hn_g1 (oj hn_gm hn_g7)) ?_
          refine yG (oj hn_g1 (oj hn_gm hn_g7)) ?_
          refine yF (oj hn_g1 (oj hn_gm hn_g7)) (fun h3=>?_) fun h3=>?_
          · have h3' := of_decide_eq_true h3
            rw [if_pos h3'] at hnA
            refine yG (oj hn_g1 (oj hn_gm hn_g7)) ?_
            refine yT hC (oj hn_g1 (oj hn_gm hn_g7)) ?_
            have h4 : ncode d i ≠ 0 := by rw [hnA]; decide
            rw [nfirst_at h1' h4] at hf
            rw [← hf, if_pos h4, hnA]
            exact .one (.c (ler_errN rfl (by omega)))
          · have h3' := of_decide_eq_false h3
            rw [if_neg h3'] at hnA
            refine yG (oj hn_g1 (oj hn_gm hn_g7)) ?_
            refine aw_mapNew (a := dk (d.nodes.getD i dn0)) (kv := dkL (d.nodes.take i)) (Kf := dkV) (v := .bool true) rfl rfl rfl (kt := 104) (et := 4) (by kernel_rfl) dk_ok (zE (oj hn_g1 (oj hn_gm hn_g7))) (zE (oj hn_g1 (oj hn_gm hn_g7))) (zE (oj hn_g1 (oj hn_gm hn_g7))) dk_rep (cv := .c (.bool true)) (zE (oj hn_g1 (oj hn_gm hn_g7))) (fun S w u h => h) (by rw [dkL_get, if_neg h3']) (zE (oj hn_g1 (oj hn_gm hn_g7))) ?_
            rw [← dkL_push, ← takeDN_push h1']
            refine yS (oj hn_g1 (oj hn_gm hn_g7)) ?_
            refine yG (oj hn_g1 (oj hn_gm hn_g7)) ?_
            rw [nfirst_step h1' hnA] at hf
            refine aw_stop ⟨i + 1, by omega, (zB (oj hn_g1 (oj hn_gm hn_g7))), List.Sublist.cons _ (List.Sublist.refl _), by omega, fun j hj => ?_, hf⟩
            rcases Nat.lt_succ_iff_lt_or_eq.1 hj with h | h
            · exact hz j h
            · rw [h]; exact hnA
      · have h1' : i = d.nodes.length := by have := of_decide_eq_false h1; omega
        subst h1'
        have hns := nok_all hz
        rw [Nat.sub_self, nfirst] at hf
        rw [← hf, if_neg (by simp)]
        refine yG (oj hn_g1 hn_gm) ?_
        refine aw_split 50 (zE (oj hn_g1 hn_gm)) (fun h3 => ?_) (fun h3 => ?_) <;> refine yS (oj hn_g1 hn_gm) ?_
        · have h3' := of_decide_eq_true h3
          rw [if_pos (.inl h3')]
          refine yG (oj hn_g1 hn_gm) ?_
          refine yP (oj hn_g1 hn_gm) ?_
          refine yG (oj hn_g1 hn_gm) ?_
          refine yT hC (oj hn_g1 hn_gm) ?_
          exact .one (.c (ler_errN rfl (by omega)))
        · have h3' := of_decide_eq_false h3
          refine yG (oj hn_g1 hn_gm) ?_
          refine yF (oj hn_g1 hn_gm) (fun h4=>?_) fun h4=>?_
          · have h4' := of_decide_eq_true h4
            rw [if_pos (.inr h4')]
            refine yG (oj hn_g1 hn_gm) ?_
            refine yT hC (oj hn_g1 hn_gm) ?_
            exact .one (.c (ler_errN rfl (by omega)))
          · have h4' := of_decide_eq_false h4
            rw [if_neg (by omega)]
            refine yG (oj hn_g1 hn_gm) ?_
            refine yC (oj hn_g1 hn_gm) (numbered_fa d hns ?_ ?_ ?_) ?_
            · omega
            · omega
            · omega
            refine yG (oj hn_g1 hn_gm) ?_
            refine yF (oj hn_g1 hn_gm) (fun h5=>?_) fun h5=>?_
            · have h5' : ¬ (numF d.nodes d.root.toNat d.root [] = numsL d.nodes.length) := by simpa using h5
              rw [if_neg h5']
              refine yG (oj hn_g1 hn_gm) ?_
              refine yT hC (oj hn_g1 hn_gm) ?_
              exact .one (.c (ler_errN rfl (by omega)))
            · have h5' : numF d.nodes d.root.toNat d.root [] = numsL d.nodes.length := by simpa using h5
              rw [if_pos h5']
              refine yG (oj hn_g1 hn_gm) ?_
              refine yT hC (oj hn_g1 hn_gm) ?_
              exact .one (.c (ler_err0 rfl))
end Go.Proofs.YtmfmnmkipjpjhaaGreat

/- The plain law: the value at the root is the sum over the true states; how long the values get. No program in sight. -/
namespace Go.PN
open Go.AI
/-- The mean of g when event i happens with p i, over the first m events. -/
def exQ (p : Nat → Rat) : Nat → (Nat → Rat) → Rat
  | 0, g => g 0
  | m + 1, g => (1 - p m) * exQ p m g + p m * exQ p m (fun s => g (s + 2 ^ m))
theorem ex_congr {p : Nat → Rat} : ∀ (m : Nat) (f g : Nat → Rat), (∀ s, s < 2 ^ m → f s = g s) → exQ p m f = exQ p m g
  | 0, f, g, h => h 0 (by simp)
  | m + 1, f, g, h => by
    have e : 2 ^ (m + 1) = 2 ^ m + 2 ^ m := by rw [Nat.pow_succ]; omega
    rw [exQ, exQ, ex_congr m f g fun s hs => h s (by omega), ex_congr m _ (fun s => g (s + 2 ^ m)) fun s hs => h (s + 2 ^ m) (by omega)]
theorem ex_const {p : Nat → Rat} (c : Rat) : ∀ m : Nat, exQ p m (fun _ => c) = c
  | 0 => rfl
  | m + 1 => by
    rw [exQ, ex_const c m]
    grind
/-- f does not look at event v. -/
def Indep (m v : Nat) (f : Nat → Rat) : Prop := ∀ s t, s < 2 ^ m → t < 2 ^ m → (∀ j, j < m → j ≠ v → s.testBit j = t.testBit j) → f s = f t
theorem tb_hi {s m : Nat} (h : s < 2 ^ m) : (s + 2 ^ m).testBit m = true := by
  rw [Nat.add_comm, Nat.testBit_two_pow_add_eq, Nat.testBit_lt_two_pow h]; rfl
theorem tb_lo {s m j : Nat} (h : j < m) : (s + 2 ^ m).testBit j = s.testBit j := by
  rw [Nat.add_comm, Nat.testBit_two_pow_add_gt h]
theorem ex_shan {p : Nat → Rat} {v : Nat} : ∀ (m : Nat) (l h : Nat → Rat), v < m → Indep m v l → Indep m v h → exQ p m (fun s => if s.testBit v then h s else l s) = (1 - p v) * exQ p m l + p v * exQ p m h
  | 0, _, _, hv, _, _ => by omega
  | m + 1, l, h, hv, hl, hh => by
    have e : 2 ^ (m + 1) = 2 ^ m + 2 ^ m := by rw [Nat.pow_succ]; omega
    have shift : ∀ f, Indep (m + 1) v f → Indep m v (fun s => f (s + 2 ^ m)) := fun f hf s t hs ht hb => hf _ _ (by omega) (by omega) fun j hj hjv => by
      by_cases hjm : j < m
      · rw [tb_lo hjm, tb_lo hjm]; exact hb j hjm hjv
      · have : j = m := by omega
        subst this
        rw [tb_hi hs, tb_hi ht]
    by_cases hvm : v = m
    · subst hvm
      have up : ∀ f, Indep (v + 1) v f → exQ p v (fun s => f (s + 2 ^ v)) = exQ p v f := fun f hf => ex_congr v _ _ fun s hs => hf _ _ (by omega) (by omega) fun j hj hjv => tb_lo (by omega)
      rw [exQ, exQ, exQ, up l hl, up h hh]
      have e1 : exQ p v (fun s => if s.testBit v then h s else l s) = exQ p v l := ex_congr v _ _ fun s hs => by rw [Nat.testBit_lt_two_pow hs]; rfl
      have e2 : exQ p v (fun s => if (s + 2 ^ v).testBit v then h (s + 2 ^ v) else l (s + 2 ^ v)) = exQ p v h := by
        rw [← up h hh]
        exact ex_congr v _ _ fun s hs => by rw [tb_hi hs]; rfl
      rw [e1, e2]
      grind
    · have hvm' : v < m := by omega
      have low : ∀ f, Indep (m + 1) v f → Indep m v f := fun f hf s t hs ht hb => hf s t (by omega) (by omega) fun j hj hjv => by
        by_cases hjm : j < m
        · exact hb j hjm hjv
        · have : j = m := by omega
          subst this
          rw [Nat.testBit_lt_two_pow hs, Nat.testBit_lt_two_pow ht]
      rw [exQ, exQ, exQ, ex_shan m l h hvm' (low l hl) (low h hh)]
      have e2 : exQ p m (fun s => if (s + 2 ^ m).testBit v then h (s + 2 ^ m) else l (s + 2 ^ m)) = exQ p m (fun s => if s.testBit v then h (s + 2 ^ m) else l (s + 2 ^ m)) := ex_congr m _ _ fun s hs => by rw [tb_lo hvm']
      rw [e2, ex_shan m _ _ hvm' (shift l hl) (shift h hh)]
      grind
/-- Sums. -/
def sumG (f : Nat → Rat) : Nat → Rat
  | 0 => 0
  | k + 1 => sumG f k + f k
theorem sumG_congr {f g : Nat → Rat} : ∀ n, (∀ s, s < n → f s = g s) → sumG f n = sumG g n
  | 0, _ => rfl
  | n + 1, h => by rw [sumG, sumG, sumG_congr n fun s hs => h s (by omega), h n (by omega)]
theorem sumG_add (f : Nat → Rat) (a : Nat) : ∀ b, sumG f (a + b) = sumG f a + sumG (fun s => f (s + a)) b
  | 0 => by rw [sumG, Nat.add_zero]; grind
  | b + 1 => by
    rw [← Nat.add_assoc, sumG, sumG_add f a b, sumG, Nat.add_comm b a]
    grind
theorem sumG_mul (f : Nat → Rat) (c : Rat) : ∀ n, sumG (fun s => f s * c) n = c * sumG f n
  | 0 => by rw [sumG, sumG]; grind
  | n + 1 => by rw [sumG, sumG, sumG_mul f c n]; grind
def wtP (p : Nat → Rat) (s : Nat) : Nat → Rat
  | 0 => 1
  | k + 1 => wtP p s k * (if s.testBit k then p k else 1 - p k)
theorem wtP_lo {p : Nat → Rat} {s m : Nat} : ∀ k, k ≤ m → wtP p (s + 2 ^ m) k = wtP p s k
  | 0, _ => rfl
  | k + 1, h => by rw [wtP, wtP, wtP_lo k (by omega), tb_lo (by omega)]
theorem sum_ex {p : Nat → Rat} : ∀ (m : Nat) (g : Nat → Rat), sumG (fun s => g s * wtP p s m) (2 ^ m) = exQ p m g
  | 0, g => by
    show sumG (fun s => g s * wtP p s 0) (2 ^ 0) = g 0
    rw [show (2 : Nat) ^ 0 = 0 + 1 from rfl, sumG, sumG, wtP]
    grind
  | m + 1, g => by
    have e : 2 ^ (m + 1) = 2 ^ m + 2 ^ m := by rw [Nat.pow_succ]; omega
    rw [e, sumG_add, exQ, ← sum_ex m g, ← sum_ex m (fun s => g (s + 2 ^ m))]
    rw [← sumG_mul, ← sumG_mul]
    congr 1
    · exact sumG_congr _ fun s hs => by rw [wtP, Nat.testBit_lt_two_pow hs]; simp only [Bool.false_eq_true, if_false]; grind
    · exact sumG_congr _ fun s hs => by rw [wtP, tb_hi hs, wtP_lo m (Nat.le_refl _)]; simp only [if_true]; grind
def prP (ps : List RD) (i : Nat) : Rat := (ps.getD i rd0).q
theorem wtTo_P {ps : List RD} {s m : Nat} (hs : s < 2 ^ m) : ∀ k, k ≤ m → wtTo s (2 ^ m - 1 - s) ps k = wtP (prP ps) s k
  | 0, _ => rfl
  | k + 1, h => by
    rw [wtTo, wtP, wtTo_P hs k (by omega)]
    congr 1
    unfold wfac
    have : (2 ^ m - 1 - s).testBit k = !s.testBit k := by
      rw [show 2 ^ m - 1 - s = 2 ^ m - (s + 1) from by omega, Nat.testBit_two_pow_sub_succ hs]
      simp; omega
    rw [this]
    cases s.testBit k with
    | true => simp [prP]
    | false => simp [prP]
theorem sumQ_G {ps : List RD} {tb : List Bool} : ∀ k, k ≤ 2 ^ ps.length → sumQ ps tb k = sumG (fun s => (if tb.getD s false then 1 else 0) * wtP (prP ps) s ps.length) k
  | 0, _ => rfl
  | k + 1, h => by
    rw [sumQ, sumG, sumQ_G k (by omega)]
    have : stQ ps k = wtP (prP ps) k ps.length := wtTo_P (by omega) _ (Nat.le_refl _)
    rw [this]
    split <;> grind
theorem sumQ_ex (ps : List RD) (tb : List Bool) : sumQ ps tb (2 ^ ps.length) = exQ (prP ps) ps.length (fun s => if tb.getD s false then 1 else 0) := by
  rw [sumQ_G _ (Nat.le_refl _), sum_ex]
end Go.PN

/- The plain law, for diagrams without error. No program in sight. -/
namespace Go.Proofs.YtmfmnmkipjpjhaaGreat
open Go.AI Go.PN
/-- What a diagram without error is. -/
structure DgOk (d : DG) : Prop where
  perm : Perm0 d.order
  o24 : d.order.length ≤ 24
  n4096 : d.nodes.length ≤ 4096
  ns : NsOk d.order.length d.nodes
  beh : ∀ i, i < d.nodes.length → behindB d (d.nodes.getD i dn0).lo (d.nodes.getD i dn0).v = true ∧ behindB d (d.nodes.getD i dn0).hi (d.nodes.getD i dn0).v = true
  r0 : 0 ≤ d.root
  r1 : d.root < d.nodes.length + 2
theorem nfirst_zero {d : DG} : ∀ (k i : Nat), nfirst d i k = 0 → ∀ j, i ≤ j → j < i + k → ncode d j = 0
  | 0, i, _, j, h1, h2 => by omega
  | k + 1, i, h, j, h1, h2 => by
    rw [nfirst] at h
    split at h
    · rename_i hn; exact absurd h hn
    · rename_i hn
      rcases Nat.eq_or_lt_of_le h1 with e | e
      · rw [← e]; simpa using hn
      · exact nfirst_zero k (i + 1) h j (by omega) (by omega)
theorem dg_ok {d : DG} (h : dcode d = 0) : DgOk d := by
  unfold dcode at h
  split at h
  · rename_i h1; exact absurd h h1
  · rename_i h1
    split at h
    · cases h
    · rename_i h2
      split at h
      · rename_i h3; exact absurd h h3
      · rename_i h3
        split at h
        · cases h
        · rename_i h4
          obtain ⟨hp, h24⟩ := ocode_ok (by simpa using h1)
          have hz : ∀ j, j < d.nodes.length → ncode d j = 0 := fun j hj => nfirst_zero d.nodes.length 0 (by simpa using h3) j (by omega) (by omega)
          refine ⟨hp, h24, by omega, nok_all hz, fun i hi => ?_, by omega, by omega⟩
          have hc := hz i hi
          unfold ncode at hc
          split at hc
          · cases hc
          · split at hc
            · cases hc
            · split at hc
              · cases hc
              · rename_i hb
                simpa using hb
theorem behind_lt {d : DG} {r e : Int} (h : behindB d r e = true) (h2 : 2 ≤ r) : placeZ d.order e < placeZ d.order (d.nodes.getD (r - 2).toNat dn0).v := by
  unfold behindB at h
  rw [decide_eq_false (by omega), Bool.false_or] at h
  have := of_decide_eq_true h
  omega
theorem evalD_indep {d : DG} (ok : DgOk d) {s t : Nat} {P : Int} (hb : ∀ j : Nat, j < d.order.length → P < placeZ d.order j → s.testBit j = t.testBit j) : ∀ (n : Nat) (r : Int), r.toNat ≤ n → 0 ≤ r → r < d.nodes.length + 2 → (2 ≤ r → P < placeZ d.order (d.nodes.getD (r - 2).toNat dn0).v) → evalD d.nodes s r = evalD d.nodes t r := by
  intro n
  induction n with
  | zero => intro r hn h0 hr hP; rw [evalD_leaf (by omega), evalD_leaf (by omega)]
  | succ n ih =>
    intro r hn h0 hr hP
    by_cases h2 : 2 ≤ r
    · have hP' := hP h2
      obtain ⟨v0, v1, l0, l1, q0, q1⟩ := ok.ns (r - 2).toNat (by omega)
      obtain ⟨b1, b2⟩ := ok.beh (r - 2).toNat (by omega)
      have hkid : kid d.nodes s r = kid d.nodes t r := by
        unfold kid
        rw [hb (d.nodes.getD (r - 2).toNat dn0).v.toNat (by omega) (by rw [show (((d.nodes.getD (r - 2).toNat dn0).v.toNat : Nat) : Int) = (d.nodes.getD (r - 2).toNat dn0).v from by omega]; exact hP')]
      have hk := kid_lt ok.ns (s := t) h2 hr
      rw [evalD_step ok.ns h2 hr, evalD_step ok.ns h2 hr, hkid]
      refine ih _ (by omega) hk.1 (by omega) fun hk2 => ?_
      unfold kid at hk2 ⊢
      split at hk2
      · rename_i hbit
        rw [if_pos hbit]
        have := behind_lt b2 hk2
        omega
      · rename_i hbit
        rw [if_neg hbit]
        have := behind_lt b1 hk2
        omega
    · rw [evalD_leaf (by omega), evalD_leaf (by omega)]
def evQ (d : DG) (r : Int) (s : Nat) : Rat := if evalD d.nodes s r then 1 else 0
theorem ev_indep {d : DG} (ok : DgOk d) {r : Int} {v : Nat} (h0 : 0 ≤ r) (hr : r < d.nodes.length + 2) (hv : 2 ≤ r → placeZ d.order v < placeZ d.order (d.nodes.getD (r - 2).toNat dn0).v) : Indep d.order.length v (evQ d r) := fun s t hs ht hb => by
  unfold evQ
  rw [evalD_indep ok (s := s) (t := t) (P := placeZ d.order v) (fun j hj hp => hb j hj (fun e => by subst e; omega)) r.toNat r (Nat.le_refl _) h0 hr hv]
theorem vals_q {d : DG} (ok : DgOk d) {ps : List RD} (hp : ps.length = d.order.length) : ∀ (k : Nat), k ≤ d.nodes.length → ∀ r : Int, 0 ≤ r → r < k + 2 → refRD (valsL ps (d.nodes.take k) []) r = rd (exQ (prP ps) d.order.length (evQ d r)) := by
  intro k
  induction k with
  | zero =>
    intro _ r h0 hr
    have : r = 0 ∨ r = 1 := by omega
    unfold refRD
    rw [if_pos (by omega)]
    rcases this with rfl | rfl
    · have e : evQ d 0 = fun _ => ((0 : Int) : Rat) := by funext s; unfold evQ; rw [evalD_leaf (by omega)]; rfl
      rw [e, ex_const]
    · have e : evQ d 1 = fun _ => ((1 : Int) : Rat) := by funext s; unfold evQ; rw [evalD_leaf (by omega)]; rfl
      rw [e, ex_const]
  | succ k ih =>
    intro hk r h0 hr
    have ihk := ih (by omega)
    have hlen : (valsL ps (d.nodes.take k) []).length = k := by rw [vals_len]; simp; omega
    by_cases hrk : r < k + 2
    · rw [← ihk r h0 hrk, vals_take (by omega)]
      unfold refRD
      by_cases h2 : r < 2
      · rw [if_pos h2, if_pos h2]
      · rw [if_neg h2, if_neg h2, List.getD_eq_getElem?_getD, List.getElem?_append_left (by omega), ← List.getD_eq_getElem?_getD]
    · have hr' : r = k + 2 := by omega
      have hr2 : (r - 2).toNat = k := by omega
      have h2 : 2 ≤ r := by omega
      obtain ⟨v0, v1, l0, l1, q0, q1⟩ := ok.ns k (by omega)
      obtain ⟨b1, b2⟩ := ok.beh k (by omega)
      rw [vals_take (by omega)]
      unfold refRD
      rw [if_neg (by omega), hr2, List.getD_eq_getElem?_getD, List.getElem?_append_right (by omega), hlen, Nat.sub_self]
      show rd (nodeQ ps (valsL ps (d.nodes.take k) []) (d.nodes.getD k dn0)) = _
      congr 1
      unfold nodeQ
      rw [ihk _ l0 (by omega), ihk _ q0 (by omega), rd_q, rd_q]
      generalize hx : d.nodes.getD k dn0 = x at *
      have hvn : ((x.v.toNat : Nat) : Int) = x.v := by omega
      have e : exQ (prP ps) d.order.length (evQ d r) = exQ (prP ps) d.order.length (fun s => if s.testBit x.v.toNat then evQ d x.hi s else evQ d x.lo s) := ex_congr _ _ _ fun s _ => by
        unfold evQ
        rw [evalD_step ok.ns h2 (by omega)]
        unfold kid
        rw [hr2, hx]
        cases s.testBit x.v.toNat <;> rfl
      rw [e, ex_shan d.order.length (evQ d x.lo) (evQ d x.hi) (by omega) (ev_indep ok l0 (by omega) fun h => by rw [hvn]; exact behind_lt b1 h) (ev_indep ok q0 (by omega) fun h => by rw [hvn]; exact behind_lt b2 h)]
      rfl
/-- THE PLAIN LAW: by the nodes, or by the states. -/
theorem plain_law {d : DG} (ok : DgOk d) {ps : List RD} (hp : ps.length = d.order.length) : refRD (valsL ps d.nodes []) d.root = rd (sumQ ps (tabL d) (2 ^ ps.length)) := by
  have h := vals_q ok hp d.nodes.length (Nat.le_refl _) d.root ok.r0 (by have := ok.r1; omega)
  rw [List.take_length] at h
  rw [h, sumQ_ex, hp]
  congr 1
  refine ex_congr _ _ _ fun s hs => ?_
  unfold evQ tabL
  rw [List.getD_eq_getElem?_getD]
  simp [hs]
/-- How long a value gets, h levels above the leaves. -/
def Bl (L : Nat) : Nat → Nat
  | 0 => 1
  | h + 1 => 2 * Bl L h + 2 * L + 3
theorem Bl_mono {L : Nat} : ∀ {a b : Nat}, a ≤ b → Bl L a ≤ Bl L b
  | a, 0, h => by rw [show a = 0 from by omega]; exact Nat.le_refl _
  | a, b + 1, h => by
    by_cases e : a = b + 1
    · rw [e]; exact Nat.le_refl _
    · have := Bl_mono (L := L) (a := a) (b := b) (by omega)
      rw [Bl]; omega
def hgt (d : DG) (r : Int) : Nat := if r < 2 then 0 else (d.order.length - placeZ d.order (d.nodes.getD (r - 2).toNat dn0).v).toNat
theorem hgt_lt {d : DG} {r : Int} {v : Int} (h : behindB d r v = true) (hv : placeZ d.order v < d.order.length) : hgt d r < (d.order.length - placeZ d.order v).toNat := by
  unfold hgt
  split
  · omega
  · rename_i h2
    have := behind_lt h (by omega)
    omega
theorem place_lt {o : List Int} {v : Int} : placeZ o v < o.length := by
  unfold placeZ
  split
  · rename_i h
    have := List.idxOf_lt_length_of_mem h
    omega
  · omega
theorem hgt_le {d : DG} {r : Int} (hm : ∀ i, i < d.nodes.length → (d.nodes.getD i dn0).v ∈ d.order) (hr : r < d.nodes.length + 2) : hgt d r ≤ d.order.length := by
  unfold hgt
  split
  · omega
  · have := hm (r - 2).toNat (by omega)
    unfold placeZ
    rw [if_pos this]
    omega
theorem vals_fits {d : DG} (ok : DgOk d) {ps : List RD} {L : Nat} (hL : 1 ≤ L) (hw : ∀ x ∈ ps, x.wf L) : ∀ (k : Nat), k ≤ d.nodes.length → ∀ r : Int, 0 ≤ r → r < k + 2 → fits (refRD (valsL ps (d.nodes.take k) []) r).q (Bl L (hgt d r)) := by
  intro k
  induction k with
  | zero =>
    intro _ r h0 hr
    have : r = 0 ∨ r = 1 := by omega
    unfold refRD hgt
    rw [if_pos (by omega), if_pos (by omega), rd_q]
    rcases this with rfl | rfl
    · exact fits_zero
    · exact fits_one
  | succ k ih =>
    intro hk r h0 hr
    have ihk := ih (by omega)
    have hlen : (valsL ps (d.nodes.take k) []).length = k := by rw [vals_len]; simp; omega
    by_cases hrk : r < k + 2
    · have := ihk r h0 hrk
      rw [vals_take (by omega)]
      unfold refRD at this ⊢
      by_cases h2 : r < 2
      · rw [if_pos h2] at this ⊢; exact this
      · rw [if_neg h2] at this ⊢
        rw [List.getD_eq_getElem?_getD, List.getElem?_append_left (by omega), ← List.getD_eq_getElem?_getD]
        exact this
    · have hr2 : (r - 2).toNat = k := by omega
      obtain ⟨v0, v1, l0, l1, q0, q1⟩ := ok.ns k (by omega)
      obtain ⟨b1, b2⟩ := ok.beh k (by omega)
      have f2 := ihk _ l0 (by omega)
      have f3 := ihk _ q0 (by omega)
      have f1 := RD.fits (getD_wf hw (d.nodes.getD k dn0).v.toNat) hL
      have g1 := hgt_lt b1 place_lt
      have g2 := hgt_lt b2 place_lt
      rw [vals_take (by omega)]
      unfold refRD
      rw [if_neg (by omega), hr2, List.getD_eq_getElem?_getD, List.getElem?_append_right (by omega), hlen, Nat.sub_self]
      show fits (rd (nodeQ ps (valsL ps (d.nodes.take k) []) (d.nodes.getD k dn0))).q _
      have hh : hgt d r = (d.order.length - placeZ d.order (d.nodes.getD k dn0).v).toNat := by unfold hgt; rw [if_neg (by omega), hr2]
      rw [rd_q, hh]
      obtain ⟨h, hh2⟩ : ∃ h, (d.order.length - placeZ d.order (d.nodes.getD k dn0).v).toNat = h + 1 := ⟨(d.order.length - placeZ d.order (d.nodes.getD k dn0).v).toNat - 1, by omega⟩
      rw [hh2, Bl]
      have m1 := Bl_mono (L := L) (show hgt d (d.nodes.getD k dn0).lo ≤ h from by omega)
      have m2 := Bl_mono (L := L) (show hgt d (d.nodes.getD k dn0).hi ≤ h from by omega)
      unfold nodeQ
      exact fits_mono (fits_add (fits_mul (fits_sub fits_one f1) f2) (fits_mul f1 f3)) (by omega)
theorem perm0_mem {o : List Int} (h : Perm0 o) {v : Int} (h0 : 0 ≤ v) (h1 : v < o.length) : v ∈ o := by
  have hle : ((List.range o.length).map fun (i : Nat) => (i : Int)).length ≤ o.length := by simp
  refine Classical.byContradiction fun hn => ?_
  have h2 : (v :: o).Nodup := List.nodup_cons.2 ⟨hn, h.nodup⟩
  have := nodup_le (m := (List.range o.length).map fun (i : Nat) => (i : Int)) h2 (fun x hx => by
    rcases List.mem_cons.1 hx with rfl | hx
    · exact List.mem_map.2 ⟨x.toNat, List.mem_range.2 (by omega), by omega⟩
    · have := h.range x hx
      exact List.mem_map.2 ⟨x.toNat, List.mem_range.2 (by omega), by omega⟩)
  simp at this
  omega
theorem vals_wf {d : DG} (ok : DgOk d) {ps : List RD} (hp : ps.length = d.order.length) {L M : Nat} (hL : 1 ≤ L) (hw : ∀ x ∈ ps, x.wf L) (hM : Bl L d.order.length ≤ M) : ∀ k, k ≤ d.nodes.length → ∀ x ∈ valsL ps (d.nodes.take k) [], x.wf M := by
  intro k hk x hx
  obtain ⟨j, hj, e⟩ := List.mem_iff_getElem.1 hx
  have hlen : (valsL ps (d.nodes.take k) []).length = k := by rw [vals_len]; simp; omega
  have hf := vals_fits ok hL hw k hk ((j : Int) + 2) (by omega) (by omega)
  have hq := vals_q ok hp k hk ((j : Int) + 2) (by omega) (by omega)
  have hgl := hgt_le (d := d) (r := (j : Int) + 2) (fun i hi => by
    obtain ⟨v0, v1, _, _, _, _⟩ := ok.ns i hi
    exact perm0_mem ok.perm v0 v1) (by omega)
  have hB := Bl_mono (L := L) hgl
  have hx2 : refRD (valsL ps (d.nodes.take k) []) ((j : Int) + 2) = x := by
    unfold refRD
    rw [if_neg (by omega), show ((j : Int) + 2 - 2).toNat = j from by omega, List.getD_eq_getElem?_getD, List.getElem?_eq_getElem hj, ← e]; rfl
  rw [hx2] at hf hq
  rw [hq, rd_q] at hf
  rw [hq]
  exact rd_wf (fits_mono hf (by omega))
theorem Bl46 {h : Nat} (hh : h ≤ 6) : Bl 4 h ≤ 1000 := Nat.le_trans (Bl_mono hh) (by decide)
end Go.Proofs.YtmfmnmkipjpjhaaGreat

/- shannon: check, Probability, Values. -/
namespace Go.Proofs.YtmfmnmkipjpjhaaGreat
open Go.AI Go.PN
attribute [local irreducible] aw Fa Fh DrK
set_option maxHeartbeats 800000 in
theorem scheckD_fa (d : DG) (p : List RD) (hw : ∀ r ∈ p, r.wf 500000000) (hl : p.length ≤ 1099511627776) (hl1 : d.order.length ≤ 1099511627776) (hl2 : d.nodes.length ≤ 1099511627776) : Fa Tryz.prog 42 [.agg (dgc false d), .c (rats false p)] (.c (errA (dpcode d p))) := by
  unfold dpcode
  refine fa_of_body Tryz.func42 rfl rfl (by simp [Tryz.ntmps42]) fun C hC => ?_
  simp only [initS, Nat.reduceAdd]
  refine xG ?_
  refine xB fun g2 hn_g2=>?_
  refine yG hn_g2 ?_
  refine yC hn_g2 (dcheck_fa d hl1 hl2) ?_
  refine yG hn_g2 ?_
  refine yF hn_g2 (fun hb=>?_) fun hb=>?_
  · have hb' : dcode d ≠ 0 := by simpa using hb
    rw [if_pos hb']
    refine yG hn_g2 ?_
    refine yT hC hn_g2 ?_
    exact .one (.c ler_err)
  · have hb' : dcode d = 0 := by simpa using hb
    rw [if_neg (by simp [hb'])]
    refine yG hn_g2 ?_
    refine yC hn_g2 (scheck_fa p d.order.length hw hl) ?_
    refine yG hn_g2 ?_
    refine yT hC hn_g2 ?_
    exact .one (.c ler_err)
theorem dp_ok {d : DG} {p : List RD} (h : dpcode d p = 0) : DgOk d ∧ p.length = d.order.length ∧ ∀ r ∈ p, r.prob = true := by
  unfold dpcode at h
  split at h
  · rename_i h1; exact absurd h h1
  · rename_i h1
    unfold pcode at h
    split at h
    · cases h
    · rename_i h2
      split at h
      · rename_i h3
        exact ⟨dg_ok (by simpa using h1), by omega, fun r hr => List.all_eq_true.1 h3 r hr⟩
      · cases h
/-- What is needed of the inputs of a law. -/
structure Small (d : DG) (p : List RD) : Prop where
  w : ∀ r ∈ p, r.wf 4
  l : p.length ≤ 100
  o : d.order.length ≤ 100
  n : d.nodes.length ≤ 1099511627776
  o6 : dpcode d p = 0 → d.order.length ≤ 6
theorem Small.w5 {d : DG} {p : List RD} (h : Small d p) : ∀ r ∈ p, r.wf 500000000 := fun r hr => wf_mono (h.w r hr) (by omega)
theorem ns_len {m : Nat} {d : DG} (ok : DgOk d) (hm : m = d.order.length) : ∀ i, i < d.nodes.length → NodeOk m i (d.nodes.getD i dn0) := by subst hm; exact ok.ns
theorem vlen {ps : List RD} {ns : List DN} : (valsL ps ns []).length = ns.length := by rw [vals_len]; simp
set_option maxRecDepth 100000 in
set_option maxHeartbeats 1600000 in
theorem sprobability_fa (d : DG) (p : List RD) (hs : Small d p) : Fa Tryz.prog 20 [.agg (dgc false d), .c (rats false p)] (.tup [.agg (rdc (if dpcode d p = 0 then rd (sumQ p (tabL d) (2 ^ p.length)) else rd0)), .c (errA (dpcode d p))]) := by
  have s1 := hs.l
  have s2 := hs.o
  have s3 := hs.n
  refine fa_of_body Tryz.func20 rfl rfl (by simp [Tryz.ntmps20]) fun C hC => ?_
  simp only [initS, Nat.reduceAdd]
  refine xG ?_
  refine xB fun g2 hn_g2=>?_
  refine yA hn_g2 fun g4 hn_g4=>?_
  refine yG (oj hn_g2 hn_g4) ?_
  refine yC (oj hn_g2 hn_g4) (scheckD_fa d p hs.w5 ?_ ?_ ?_) ?_
  · omega
  · omega
  · omega
  refine yG (oj hn_g2 hn_g4) ?_
  refine yF (oj hn_g2 hn_g4) (fun hb=>?_) fun hb=>?_
  · have hb' : dpcode d p ≠ 0 := by simpa using hb
    rw [if_neg hb']
    refine yG (oj hn_g2 hn_g4) ?_
    refine yW (oj hn_g2 hn_g4) ?_
    refine yS (oj hn_g2 hn_g4) ?_
    refine yG (oj hn_g2 hn_g4) ?_
    refine yT hC (oj hn_g2 hn_g4) ?_
    exact .tup ⟨.agg ⟨.bool _, .nils, .nils, trivial⟩, .c ler_err, trivial⟩
  · have hb' : dpcode d p = 0 := by simpa using hb
    obtain ⟨ok, hpl, _⟩ := dp_ok hb'
    have h6 := hs.o6 hb'
    rw [if_pos hb', ← plain_law ok hpl]
    have k1 := ok.n4096
    have k2 := ok.r1
    have k3 := vlen (ps := p) (ns := d.nodes)
    refine yG (oj hn_g2 hn_g4) ?_
    refine aw_dr 6 ty_mixed (by kernel_rfl) ?_
    refine yG (oj hn_g2 hn_g4) ?_
    refine yD (oj hn_g2 hn_g4) (values_fa d p 1000 ?_ ?_ (fun r hr => wf_mono (hs.w r hr) ?_) (vals_wf ok hpl (L := 4) ?_ hs.w (Bl46 h6)) (ns_len ok hpl) ?_) ?_
    · omega
    · omega
    · omega
    · omega
    · omega
    refine yG (oj hn_g2 hn_g4) ?_
    refine yD (oj hn_g2 hn_g4) (of_fa' (valsL p d.nodes []) d.root ok.r0 ?_ ?_) ?_
    · omega
    · omega
    refine yG (oj hn_g2 hn_g4) ?_
    refine yW (oj hn_g2 hn_g4) ?_
    refine yS (oj hn_g2 hn_g4) ?_
    refine yG (oj hn_g2 hn_g4) ?_
    refine yT hC (oj hn_g2 hn_g4) ?_
    exact .tup ⟨.agg lerl_rd, .c (ler_err0 hb'), trivial⟩
end Go.Proofs.YtmfmnmkipjpjhaaGreat

/- faultlinelaw37.large. -/
namespace Go.AI
section
variable {E : Env} {K : List It} {σ σ' : Sl} {h : Heap} {all rest : List Oper} {o : Oper}
/-- An operation that is left out leaves nothing. -/
theorem aw_skipU (hw : wantA all σ o = some false) (hd : dstOk E.N o.dst = true) (k : aw E (.ops all rest :: K) (σ.setO o.dst (.c (.raw undef))) h) : aw E (.ops all (o :: rest) :: K) σ h := fun a w s => by
  show wpList _ _ _ _ _ _
  unfold wpList
  rw [if_neg (by rw [s.wanted hw]; simp)]
  exact k _ _ (s.put hd (r := .c (.raw undef)) rfl)
/-- An operation that hangs on one that was left out is left out too. -/
theorem aw_skipN {j t : Nat} {want : Bool} (hg : o.guard = some (j, want)) (hj : (all[j]?).bind (·.dst) = some t) (ht : σ.get t = .c (.raw undef)) (hd : dstOk E.N o.dst = true) (k : aw E (.ops all rest :: K) (σ.setO o.dst (.c .any)) h) : aw E (.ops all (o :: rest) :: K) σ h := fun a w s => by
  have hnw : Region.wanted o (yielded all.toArray a.tmps) = false := by
    unfold Region.wanted
    rw [hg]
    show (yielded all.toArray a.tmps j == some want) = false
    have hy : yielded all.toArray a.tmps j = none := by
      unfold yielded
      have h1 : ((all.toArray[j]?).bind (·.dst)) = some t := by simpa using hj
      rw [h1]
      have h2 := s.slots t
      rw [ht] at h2
      have h3 : a.tmps.getD t undef = undef := h2
      simp only [Option.bind_some]
      rw [Array.getD_eq_getD_getElem?] at h3
      cases h4 : a.tmps[t]? with
      | none => rfl
      | some v =>
        rw [h4] at h3
        have h5 : v = undef := h3
        subst h5
        rfl
    rw [hy]; rfl
  show wpList _ _ _ _ _ _
  unfold wpList
  rw [if_neg (by rw [hnw]; simp)]
  exact k _ _ (s.put hd (r := .c .any) trivial)
end
end Go.AI
namespace Go.PN
open Go.AI
def bigR (r : RD) : Bool := decide ((r.num.length : Int) > 4) || decide ((r.den.length : Int) > 4)
def largeA (d : DG) (p : List RD) : Bool := decide ((p.length : Int) > 100) || decide ((d.order.length : Int) > 100) || (decide ((d.nodes.length : Int) > 300) && decide ((d.nodes.length : Int) ≤ 4096)) || (decide ((d.order.length : Int) > 6) && (dcode d == 0))
def largeB (d : DG) (p : List RD) : Bool := largeA d p || p.any bigR
/-- Words that are words. -/
def WordsOk (p : List RD) : Prop := ∀ r ∈ p, (∀ x ∈ r.num, x < 4294967296) ∧ (∀ x ∈ r.den, x < 4294967296)
end Go.PN
namespace Go.Proofs.YtmfmnmkipjpjhaaGreat
open Go.AI Go.PN
attribute [local irreducible] aw Fa Fh DrK
theorem small_of {d : DG} {p : List RD} (hw : WordsOk p) (hn : d.nodes.length ≤ 1099511627776) (h : largeB d p = false) : Small d p := by
  unfold largeB largeA at h
  simp only [Bool.or_eq_false_iff, Bool.and_eq_false_iff, decide_eq_false_iff_not, beq_eq_false_iff_ne] at h
  obtain ⟨⟨⟨⟨h1, h2⟩, h3⟩, h4⟩, h5⟩ := h
  have h5' : ∀ r ∈ p, bigR r = false := by
    intro r hr
    cases hb : bigR r with
    | false => rfl
    | true => rw [List.any_eq_true.2 ⟨r, hr, hb⟩] at h5; cases h5
  refine ⟨fun r hr => ?_, by omega, by omega, hn, fun h0 => ?_⟩
  · have := h5' r hr
    unfold bigR at this
    simp only [Bool.or_eq_false_iff, decide_eq_false_iff_not] at this
    exact ⟨(hw r hr).1, (hw r hr).2, by omega, by omega⟩
  · rcases h4 with h4 | h4
    · omega
    · refine absurd ?_ h4
      unfold dpcode at h0
      split at h0
      · rename_i hc; exact absurd h0 hc
      · rename_i hc; simpa using hc
set_option maxRecDepth 100000 in
set_option maxHeartbeats 1600000 in
theorem large_fa (d : DG) (p : List RD) (hl : p.length ≤ 1099511627776) (hl1 : d.order.length ≤ 1099511627776) (hl2 : d.nodes.length ≤ 1099511627776) : Fa Tryz.prog 6 [.agg (dgc false d), .c (rats false p)] (.c (.bool (largeB d p))) := by
  have hA : largeA d p = true → largeB d p = true := fun h => by unfold largeB; rw [h]; rfl
  refine fa_of_body Tryz.func6 rfl rfl (by simp [Tryz.ntmps6]) fun C hC => ?_
  simp only [initS, Nat.reduceAdd]
  apply aw_seq
  apply aw_region
  refine xB fun g2 hn_g2=>?_
  refine yH hn_g2 ?_
  apply aw_seq
  refine aw_cut (fun _ : Unit => [(1, .c (rats false p))]) (fun _ => []) (fun _ => largeA d p = false) ?_ ?_
  · refine yG hn_g2 ?_
    refine aw_split 9 (zE hn_g2) (fun a1 => ?_) (fun a1 => ?_) <;> refine yS hn_g2 ?_
    · rw [hA (by unfold largeA; rw [a1]; rfl)]
      iterate 10 refine yO hn_g2 ?_
      refine aw_skipU (zE hn_g2) rfl ?_
      refine yS hn_g2 ?_
      iterate 4 (refine aw_skipN rfl rfl (zE hn_g2) rfl ?_; refine yS hn_g2 ?_)
      refine yO hn_g2 ?_
      refine yO hn_g2 ?_
      refine yO hn_g2 ?_
      iterate 4 refine yO hn_g2 ?_
      refine aw_skipU (zE hn_g2) rfl ?_
      refine yS hn_g2 ?_
      iterate 3 (refine aw_skipN rfl rfl (zE hn_g2) rfl ?_; refine yS hn_g2 ?_)
      refine yG hn_g2 ?_
      refine yP hn_g2 ?_
      refine yG hn_g2 ?_
      refine yT hC hn_g2 ?_
      exact .one (.c (.bool _))
    refine yG hn_g2 ?_
    refine aw_split 15 (zE hn_g2) (fun a2 => ?_) (fun a2 => ?_) <;> refine yS hn_g2 ?_
    · rw [hA (by unfold largeA; rw [a1, a2]; rfl)]
      iterate 4 refine yO hn_g2 ?_
      refine aw_skipU (zE hn_g2) rfl ?_
      refine yS hn_g2 ?_
      iterate 4 (refine aw_skipN rfl rfl (zE hn_g2) rfl ?_; refine yS hn_g2 ?_)
      refine yO hn_g2 ?_
      refine yO hn_g2 ?_
      refine yO hn_g2 ?_
      iterate 4 refine yO hn_g2 ?_
      refine aw_skipU (zE hn_g2) rfl ?_
      refine yS hn_g2 ?_
      iterate 3 (refine aw_skipN rfl rfl (zE hn_g2) rfl ?_; refine yS hn_g2 ?_)
      refine yG hn_g2 ?_
      refine yP hn_g2 ?_
      refine yG hn_g2 ?_
      refine yT hC hn_g2 ?_
      exact .one (.c (.bool _))
    refine yG hn_g2 ?_
    refine aw_split 20 (zE hn_g2) (fun a3 => ?_) (fun a3 => ?_) <;> refine yS hn_g2 ?_
    · refine yG hn_g2 ?_
      refine aw_split 27 (zE hn_g2) (fun a4 => ?_) (fun a4 => ?_) <;> refine yS hn_g2 ?_
      · rw [hA (by unfold largeA; rw [a1, a2, a3, a4]; rfl)]
        iterate 4 refine yO hn_g2 ?_
        refine aw_skipU (zE hn_g2) rfl ?_
        refine yS hn_g2 ?_
        iterate 3 (refine aw_skipN rfl rfl (zE hn_g2) rfl ?_; refine yS hn_g2 ?_)
        refine yG hn_g2 ?_
        refine yP hn_g2 ?_
        refine yG hn_g2 ?_
        refine yT hC hn_g2 ?_
        exact .one (.c (.bool _))
      refine yG hn_g2 ?_
      refine aw_split 32 (zE hn_g2) (fun a5 => ?_) (fun a5 => ?_) <;> refine yS hn_g2 ?_
      · refine yG hn_g2 ?_
        refine yC hn_g2 (dcheckR_fa d hl1 hl2) ?_
        refine yG hn_g2 ?_
        refine yF hn_g2 (fun a6=>?_) fun a6=>?_
        · rw [hA (by unfold largeA; rw [a1, a2, a3, a4, a5, a6]; rfl)]
          refine yG hn_g2 ?_
          refine yT hC hn_g2 ?_
          exact .one (.c (.bool _))
        · refine yG hn_g2 ?_
          exact aw_stop ⟨(), (zB hn_g2), List.nil_sublist _, by unfold largeA; rw [a1, a2, a3, a4, a5, a6]; rfl⟩
      · refine yG hn_g2 ?_
        refine yN hn_g2 ?_
        refine yG hn_g2 ?_
        exact aw_stop ⟨(), (zB hn_g2), List.nil_sublist _, by unfold largeA; rw [a1, a2, a3, a4, a5]; rfl⟩
    refine yG hn_g2 ?_
    refine aw_split 32 (zE hn_g2) (fun a5 => ?_) (fun a5 => ?_) <;> refine yS hn_g2 ?_
    · refine yG hn_g2 ?_
      refine yC hn_g2 (dcheckR_fa d hl1 hl2) ?_
      refine yG hn_g2 ?_
      refine yF hn_g2 (fun a6=>?_) fun a6=>?_
      · rw [hA (by unfold largeA; rw [a1, a2, a3, a5, a6]; rfl)]
        refine yG hn_g2 ?_
        refine yT hC hn_g2 ?_
        exact .one (.c (.bool _))
      · refine yG hn_g2 ?_
        exact aw_stop ⟨(), (zB hn_g2), List.nil_sublist _, by unfold largeA; rw [a1, a2, a3, a5, a6]; rfl⟩
    · refine yG hn_g2 ?_
      refine yN hn_g2 ?_
      refine yG hn_g2 ?_
      exact aw_stop ⟨(), (zB hn_g2), List.nil_sublist _, by unfold largeA; rw [a1, a2, a3, a5]; rfl⟩
  rintro _ hLA
  have hB : largeB d p = p.any bigR := by unfold largeB; rw [hLA]; rfl
  rw [hB]
  refine yG hn_g2 ?_
  refine aw_lp (fun x : Nat => [(1, .c (rats false p)), (5, .c (.int .i64 x))]) (fun x => []) (fun x => x ≤ p.length ∧ ∀ j, j < x → bigR (p.getD j rd0) = false) (fun x => p.length - x) 0 (zB hn_g2) zZ ⟨Nat.zero_le _, by omega⟩ ?_
  rintro i ⟨hi, hs⟩
  refine yG hn_g2 ?_
  refine yF hn_g2 (fun h1=>?_) fun h1=>?_
  · have h1' : i < p.length := by have := of_decide_eq_true h1; omega
    have hmem : p.getD i rd0 ∈ p := by rw [List.getD_eq_getElem?_getD, List.getElem?_eq_getElem h1']; exact List.getElem_mem h1'
    refine yG hn_g2 ?_
    refine aw_split 51 (zE hn_g2) (fun h2 => ?_) (fun h2 => ?_) <;> refine yS hn_g2 ?_
    · rw [List.any_eq_true.2 ⟨_, hmem, by unfold bigR; rw [h2]; rfl⟩]
      refine yG hn_g2 ?_
      refine yP hn_g2 ?_
      refine yG hn_g2 ?_
      refine yT hC hn_g2 ?_
      exact .one (.c (.bool _))
    · refine yG hn_g2 ?_
      refine yF hn_g2 (fun h3=>?_) fun h3=>?_
      · rw [List.any_eq_true.2 ⟨_, hmem, by unfold bigR; rw [h2, h3]; rfl⟩]
        refine yG hn_g2 ?_
        refine yT hC hn_g2 ?_
        exact .one (.c (.bool _))
      · refine yG hn_g2 ?_
        refine aw_stop ⟨i + 1, by omega, (zB hn_g2), zZ, by omega, fun j hj => ?_⟩
        rcases Nat.lt_succ_iff_lt_or_eq.1 hj with h | h
        · exact hs j h
        · rw [h]; unfold bigR; rw [h2, h3]; rfl
  · have h1' : i = p.length := by have := of_decide_eq_false h1; omega
    subst h1'
    refine yG hn_g2 ?_
    refine yT hC hn_g2 ?_
    refine .one (.c (ler_bool ?_))
    cases ha : p.any bigR with
    | false => rfl
    | true =>
      obtain ⟨x, hx, hxb⟩ := List.any_eq_true.1 ha
      obtain ⟨j, hj, e⟩ := List.mem_iff_getElem.1 hx
      have := hs j hj
      rw [List.getD_eq_getElem?_getD, List.getElem?_eq_getElem hj, Option.getD_some, e, hxb] at this
      cases this
end Go.Proofs.YtmfmnmkipjpjhaaGreat

/- The readers of this program's data, and what the statement asks behind the call. -/
namespace Go.Proofs.YtmfmnmkipjpjhaaGreat
open Go.AI Go.PN Go.ChangeShapes Go.WideShapes Go.RowKit
theorem glue_laid : laidOutB Tryz.prog = true := by kernel_rfl
theorem own : ownKnob Tryz.prog.godebug = none := by kernel_rfl
section
variable {H : Type} {enc : TypeId × Value → H} {P : Program}
theorem trodAll_stays (hl : laidOutB P = true) {W W' : World} {sp : Nat → Bool} : ∀ {ts : List TypeId} {vs : List Value} {ds : List (DataW H)} {p : List MemPlace}, (∀ t ∈ ts, P.readableRec t = true ∧ t < P.types.size) → DataW.TrodAll enc P W 0 (fun _ => true) true ts vs ds p → (∀ x ∈ p, W.sameAt W' x) → (∀ x ∈ p, sp x.block = true) → DataW.TrodAll enc P W' 0 sp true ts vs ds p
  | [], _, _, _, _, h, _, _ => by
    obtain ⟨rfl, rfl, rfl⟩ := trodAll_nil h
    exact rfl
  | t :: ts, _, _, _, hts, h, hs, hp => by
    obtain ⟨v, vs, d, ds, a, b, rfl, rfl, rfl, h1, h2⟩ := trodAll_cons h
    exact ⟨a, b, WideElems.Trod_stays hl (hts t (List.mem_cons_self ..)).1 (hts t (List.mem_cons_self ..)).2 h1 (fun x hx => hs x (List.mem_append_left _ hx)) (fun x hx => hp x (List.mem_append_left _ hx)),
      trodAll_stays hl (fun t' ht => hts t' (List.mem_cons_of_mem _ ht)) h2 (fun x hx => hs x (List.mem_append_right _ hx)) (fun x hx => hp x (List.mem_append_right _ hx)), rfl⟩
/-- Behind a call that leaves all old memory alone and answers true. -/
theorem post_of_below {fn : Func} {s : ChangeSpec} {W W' : World} {args : Array Value} {ds gs : List (DataW H)} {before : List MemPlace} {tb : TypeId} (hl : laidOutB P = true) (hts : ∀ t ∈ fn.params.toList, P.readableRec t = true ∧ t < P.types.size) (hrt : fn.resultTypes = #[tb]) (hbt : P.underlying tb = some .bool) (hvars : s.vars = [])
    (hW : DataW.Whole enc P fn.params.toList s.vars false W args.toList ds gs before) (hfn : ∀ gs' : List (DataW H), gs' = [] → s.fn H (ds ++ gs') = { results := [.lit (.bool true)], args := ds }) (hb : Below W.heap.size W W') : s.post enc P fn false true false false W args (.bool true) W' := by
  have hWk := hW
  obtain ⟨p, q, hA, hV, rfl, hfz, _⟩ := hW
  rw [hvars] at hV
  obtain ⟨rfl, rfl⟩ := trodVars_none hV
  have hlt : ∀ x ∈ p ++ [], x.block < W.heap.size := fun x hx => by simpa using hWk.lt x hx
  have hlt' : ∀ x ∈ p, x.block < W.heap.size := fun x hx => hlt x (List.mem_append_left _ hx)
  have hres : ∀ (b : Nat) (sp : Nat → Bool) (hd : Bool), DataW.TrodAll enc P W' b sp hd fn.resultTypes.toList ((Value.bool true).resultList fn.resultTypes.size) (s.fn H (ds ++ [])).results [] := fun b sp hd => by
    rw [hrt, hfn [] rfl]
    exact trodAll_cons_mk (shut_bool hbt _) trodAll_mk0
  have hargs : ∀ sp : Nat → Bool, (∀ x ∈ p, sp x.block = true) → DataW.TrodAll enc P W' 0 sp true fn.params.toList args.toList (s.fn H (ds ++ [])).args p := fun sp hsp => by
    rw [hfn [] rfl]
    exact trodAll_stays hl hts hA (fun x hx => hb.same (hlt' x hx)) hsp
  have hvr : ∀ sp : Nat → Bool, DataW.TrodVars enc P W' sp s.vars (s.fn H (ds ++ [])).vars [] := fun sp => by
    rw [hvars, hfn [] rfl]; exact rfl
  refine ⟨ds, [], p ++ [], [], p, [], hWk, hres _ _ _, hargs _ (fun x hx => by simpa using hlt' x hx), hvr _, hb.frame _, fun _ => ?_⟩
  refine ⟨ok_one hrt rfl (okWide_bool_mk hbt _), _, _, ([] ++ p) ++ [], ⟨[] ++ p, [], trodAll_append (hargs _ (fun _ _ => rfl)) (hres _ _ _), hvr _, rfl, ?_, fun h => by cases h⟩, ?_⟩
  · intro b off hp
    have hp' : MemPlace.cell b off ∈ p ++ [] := by simpa using hp
    rw [Below.frozen hb (hlt _ hp')]
    exact hfz b off hp'
  · intro x hx _
    simpa using hx
/-- An argument that is a struct. -/
theorem arg_agg {α : Type} {c : α → List CV} {B : α → Nat → Prop} {t : TypeId} {fs : Array Field} (hr : Rdr P t c B) (ht : P.underlying t = some (.struct fs)) {W : World} {base : Nat} {v : Value} {d : DataW H} {p : List MemPlace} (ho : Value.okWide P W .any base t v) (h : DataW.Trod enc P W 0 (fun _ => true) true t v d p) :
    ∃ y, Rep0 (AllB W) W (.agg (c y)) v ∧ B y (Rows.uptoBulk d) := by
  obtain ⟨cs, rfl, _⟩ := okWide_struct ht ho
  obtain ⟨fuel, hf⟩ := h
  obtain ⟨y, h1, h2⟩ := hr H enc W fuel _ _ hf
  exact ⟨y, ⟨cs.toList, by simp, h1⟩, h2⟩
/-- An argument that is one cell. -/
theorem arg_cell {α : Type} {c : α → CV} {B : α → Nat → Prop} {t : TypeId} (hr : Rdr P t (fun y => [c y]) B) {W : World} {v : Value} {d : DataW H} {p : List MemPlace} (hv : v.cells = #[v]) (h : DataW.Trod enc P W 0 (fun _ => true) true t v d p) :
    ∃ y, Rep0 (AllB W) W (.c (c y)) v ∧ B y (Rows.uptoBulk d) := by
  obtain ⟨fuel, hf⟩ := h
  rw [hv] at hf
  obtain ⟨y, h1, h2⟩ := hr H enc W fuel _ _ hf
  exact ⟨y, h1.1, h2⟩
end
theorem wok_mono {xs : List Nat} : ∀ (m n : Nat), xs.length ≤ m ∧ (∀ x ∈ xs, x < 4294967296) → m ≤ n → xs.length ≤ n ∧ ∀ x ∈ xs, x < 4294967296 := fun _ _ h hm => ⟨Nat.le_trans h.1 hm, h.2⟩
theorem rdr_words : Rdr Tryz.prog 33 (fun xs : List Nat => [ws true xs]) (fun xs n => xs.length ≤ n ∧ ∀ x ∈ xs, x < 4294967296) :=
  (rdr_slice (0 : Nat) true Tryz.underlying33 (s := 1) (by kernel_rfl) (by omega) (fun _ _ _ h _ => h) (rdr_word Tryz.underlying106)).to id (fun ys => by
    show [CV.row true 1 ys.length _] = [CV.row true 1 ys.length _]
    congr 2
    funext j
    show _ = ofL [CV.int .u32 ((ys.getD (j / 1) 0 : Nat) : Int)] (j % 1)
    rw [Nat.div_one, Nat.mod_one]
    rfl) (fun _ _ h => h)
theorem rdr_rat : Rdr Tryz.prog 35 (fun r : RD => [CV.bool r.neg, ws true r.num, ws true r.den]) (fun r _ => (∀ x ∈ r.num, x < 4294967296) ∧ ∀ x ∈ r.den, x < 4294967296) := by
  have r := rdr_struct3 Tryz.underlying35 (s0 := 1) (s1 := 1) (s2 := 1) (by kernel_rfl) (by kernel_rfl) (by kernel_rfl) (by kernel_rfl) rfl rfl rfl (rdr_bool Tryz.underlying4) rdr_words rdr_words (fun _ _ _ h _ => h) (fun _ m n => wok_mono m n) (fun _ m n => wok_mono m n)
  exact r.to (fun y => ⟨y.1, y.2.1, y.2.2⟩) (fun _ => rfl) (fun _ _ h => ⟨h.2.1.2, h.2.2.2⟩)
theorem rdr_rats : Rdr Tryz.prog 25 (fun p : List RD => [rats false p]) (fun p n => p.length ≤ n ∧ WordsOk p) :=
  (rdr_slice rd0 false Tryz.underlying25 (s := 3) (by kernel_rfl) (by omega) (fun _ _ _ h _ => h) rdr_rat).to id (fun _ => rfl) (fun _ _ h => h)
end Go.Proofs.YtmfmnmkipjpjhaaGreat
