/- Texts of one proof, laid one behind the other by a program (merge.py): PTab3, Bir2, PTab4, AiMap2, AiMin, AiPush2. -/
import Derived.Test.YtlpejaefobdajaaGreatK17
import Derived.Test.YtlpejaefobdajaaGreatK16
import Derived.Test.YtlpejaefobdajaaGreatK18
import Derived.Test.YtlpejaefobdajaaGreatK19
import Derived.Test.YtlpejaefobdajaaGreatK07
set_option linter.unusedSimpArgs false
set_option linter.unusedVariables false
/- Tables of nodes: what a reference does not look at, Compose, Count. No program in sight. -/
namespace Go.PN
open Go.AI
/-- s with bit e told. -/
def setB (s e : Nat) (b : Bool) : Nat := if s.testBit e = b then s else s ^^^ 2 ^ e
theorem setB_bit (s e : Nat) (b : Bool) (j : Nat) : (setB s e b).testBit j = if j = e then b else s.testBit j := by
  unfold setB
  split
  · rename_i h
    split
    · rename_i hj; rw [hj, h]
    · rfl
  · rename_i h
    rw [Nat.testBit_xor, Nat.testBit_two_pow]
    split
    · rename_i hj
      subst hj
      cases hb : s.testBit j <;> cases b <;> simp_all
    · rename_i hj
      rw [decide_eq_false (fun h => hj h.symm), Bool.xor_false]
theorem tab_indep {o : List Int} {ns : List DN} (ht : TabOk o ns) {s t : Nat} {P : Int} (hb : ∀ j : Nat, j < o.length → P < placeZ o j → s.testBit j = t.testBit j) : ∀ (n : Nat) (r : Int), r.toNat ≤ n → RefOk ns r → P < lvZ o ns r → evalD ns s r = evalD ns t r := by
  intro n
  induction n with
  | zero =>
    intro r hn h0 hP
    rw [evalD_leaf (by omega), evalD_leaf (by omega)]
  | succ n ih =>
    intro r hn h0 hP
    by_cases h2 : 2 ≤ r
    · unfold RefOk at h0
      have hi : (r - 2).toNat < ns.length := by omega
      have nd := ht _ hi
      obtain ⟨v0, v1, _, _, _, _⟩ := nd.nk
      obtain ⟨r1, r2⟩ := kids_ref ht hi
      have b1 := nd.bl
      have b2 := nd.bh
      have hP' : P < placeZ o (ns.getD (r - 2).toNat dn0).v := by
        unfold lvZ at hP
        rw [if_neg (by omega)] at hP
        exact hP
      have hbit := hb (ns.getD (r - 2).toNat dn0).v.toNat (by omega) (by rw [show (((ns.getD (r - 2).toNat dn0).v.toNat : Nat) : Int) = (ns.getD (r - 2).toNat dn0).v from by omega]; exact hP')
      have hk := kid_lt ht.ns (s := t) h2 h0.2
      rw [evalD_step ht.ns h2 h0.2, evalD_step ht.ns h2 h0.2]
      unfold kid at hk ⊢
      rw [hbit]
      split
      · rename_i hx
        rw [if_pos hx] at hk
        exact ih _ (by omega) r2 (by omega)
      · rename_i hx
        rw [if_neg hx] at hk
        exact ih _ (by omega) r1 (by omega)
    · rw [evalD_leaf (by omega), evalD_leaf (by omega)]
theorem setB_indep {o : List Int} {ns : List DN} (ht : TabOk o ns) {r : Int} (hr : RefOk ns r) {e : Nat} (hl : placeZ o e < lvZ o ns r) (s : Nat) (b : Bool) : evalD ns (setB s e b) r = evalD ns s r :=
  tab_indep ht (P := placeZ o e) (fun j _ hp => by rw [setB_bit, if_neg (fun h => by subst h; omega)]) r.toNat r (Nat.le_refl _) hr hl
/-- A reference's value, with an event replaced by another reference. -/
def CmR (ns0 : List DN) (e : Nat) (y : Int) (ns : List DN) (r x : Int) : Prop := RefOk ns x ∧ ∀ s, evalD ns s x = evalD ns0 (setB s e (evalD ns0 s y)) r
theorem Later.loose {o : List Int} {a b : List DN} {n : Nat} (h : Later o a b n) : Later o a b b.length := ⟨h.tab, h.pre, by omega⟩
/-- Compose on its way. -/
structure CmOk (o : List Int) (ns0 : List DN) (e : Nat) (y : Int) (ns : List DN) (mm : Mem3) (dl : List (Int × Int)) : Prop where
  lat : Later o ns0 ns ns.length
  mem : MemOk o ns mm
  keys : (dl.map (·.1)).Nodup
  bd : ∀ x ∈ dl, 2 ≤ x.1 ∧ x.1 < ns0.length + 2
  sem : ∀ x ∈ dl, CmR ns0 e y ns x.1 x.2
theorem CmR.later {o : List Int} {ns0 ns ns' : List DN} {e : Nat} {y r x : Int} {n : Nat} (h : CmR ns0 e y ns r x) (ht : TabOk o ns) (hl : Later o ns ns' n) : CmR ns0 e y ns' r x :=
  ⟨hl.ref h.1, fun s => by rw [hl.eval ht h.1, h.2 s]⟩
theorem CmOk.later {o : List Int} {ns0 : List DN} {e : Nat} {y : Int} {ns ns' : List DN} {mm mm' : Mem3} {dl : List (Int × Int)} (h : CmOk o ns0 e y ns mm dl) {n : Nat} (hl : Later o ns ns' n) (hm : MemOk o ns' mm') : CmOk o ns0 e y ns' mm' dl :=
  ⟨(h.lat.trans hl (Nat.le_refl _)).loose, hm, h.keys, h.bd, fun x hx => (h.sem x hx).later h.lat.tab hl⟩
theorem CmOk.push {o : List Int} {ns0 : List DN} {e : Nat} {y : Int} {ns : List DN} {mm : Mem3} {dl : List (Int × Int)} (h : CmOk o ns0 e y ns mm dl) {r x : Int} (h2 : 2 ≤ r) (hr : r < ns0.length + 2) (hnew : ∀ x ∈ dl, x.1 ≠ r) (hx : CmR ns0 e y ns r x) :
    CmOk o ns0 e y ns mm (dl ++ [(r, x)]) := by
  refine ⟨h.lat, h.mem, ?_, fun z hz => ?_, fun z hz => ?_⟩
  · rw [List.map_append, List.map_singleton]
    refine List.nodup_append.2 ⟨h.keys, by simp, fun a ha b hb => ?_⟩
    rw [List.mem_singleton] at hb
    subst hb
    obtain ⟨z, hz, rfl⟩ := List.mem_map.1 ha
    exact hnew z hz
  · rcases List.mem_append.1 hz with hz | hz
    · exact h.bd z hz
    · rw [List.mem_singleton] at hz; subst hz; exact ⟨h2, hr⟩
  · rcases List.mem_append.1 hz with hz | hz
    · exact h.sem z hz
    · rw [List.mem_singleton] at hz; subst hz; exact hx
theorem CmOk.len {o : List Int} {ns0 : List DN} {e : Nat} {y : Int} {ns : List DN} {mm : Mem3} {dl : List (Int × Int)} (h : CmOk o ns0 e y ns mm dl) : dl.length ≤ ns0.length := by
  have := nodup_range h.keys (fun x hx => by obtain ⟨z, hz, rfl⟩ := List.mem_map.1 hx; exact h.bd z hz)
  simpa using this
theorem CmOk.zero {o : List Int} {ns0 : List DN} {e : Nat} {y : Int} {mm : Mem3} (ht : TabOk o ns0) (hm : MemOk o ns0 mm) : CmOk o ns0 e y ns0 mm [] :=
  ⟨Later.refl ht _, hm, List.nodup_nil, fun x hx => absurd hx List.not_mem_nil, fun x hx => absurd hx List.not_mem_nil⟩
/-- What has been done for some references. -/
def dnGet (r : Int) : List (Int × Int) → Option Int
  | [] => none
  | e :: dl => if r = e.1 then some e.2 else dnGet r dl
def dnL (dl : List (Int × Int)) : List (Int × Value) := dl.map fun e => (e.1, .int .i64 e.2)
theorem dn_get (r : Int) : ∀ dl, kvGet r (dnL dl) = (dnGet r dl).map (Value.int .i64)
  | [] => rfl
  | e :: dl => by
    show (if r = e.1 then some (Value.int .i64 e.2) else kvGet r (dnL dl)) = _
    rw [dnGet, dn_get r dl]
    split <;> rfl
theorem dnL_push (dl : List (Int × Int)) (r x : Int) : dnL dl ++ [(r, .int .i64 x)] = dnL (dl ++ [(r, x)]) := by simp [dnL]
theorem dn_mem {r x : Int} : ∀ {dl : List (Int × Int)}, dnGet r dl = some x → (r, x) ∈ dl
  | [], h => by simp [dnGet] at h
  | e :: dl, h => by
    rw [dnGet] at h
    split at h
    · rename_i hk
      injection h with h
      subst hk h
      exact List.mem_cons_self ..
    · exact List.mem_cons_of_mem _ (dn_mem h)
theorem dn_none {r : Int} : ∀ {dl : List (Int × Int)}, dnGet r dl = none → ∀ e ∈ dl, e.1 ≠ r
  | e :: dl, h, e', he => by
    rw [dnGet] at h
    split at h
    · cases h
    · rename_i hk
      rcases List.mem_cons.1 he with rfl | he
      · exact fun x => hk x.symm
      · exact dn_none h e' he
theorem dn_none' {r : Int} : ∀ {dl : List (Int × Int)}, (∀ e ∈ dl, e.1 ≠ r) → dnGet r dl = none
  | [], _ => rfl
  | e :: dl, h => by
    rw [dnGet, if_neg (fun x => h e (List.mem_cons_self ..) x.symm)]
    exact dn_none' fun e' he => h e' (List.mem_cons_of_mem _ he)
/-- A reference behind the event stays. -/
theorem cm_same {o : List Int} {ns0 ns : List DN} {e : Nat} {y r : Int} {n : Nat} (ht : TabOk o ns0) (hl : Later o ns0 ns n) (hr : RefOk ns0 r) (hlv : placeZ o e < lvZ o ns0 r) : CmR ns0 e y ns r r :=
  ⟨hl.ref hr, fun s => by rw [hl.eval ht hr, setB_indep ht hr hlv]⟩
/-- The event itself. -/
theorem cm_here {o : List Int} {ns0 ns ns' : List DN} {e : Nat} {y r x : Int} {n m : Nat} (ht : TabOk o ns0) (hl : Later o ns0 ns n) (hl2 : Later o ns ns' m) (h2 : 2 ≤ r) (hr : RefOk ns0 r) (hy : RefOk ns0 y) (he : (ns0.getD (r - 2).toNat dn0).v = e)
    (hx : RefOk ns' x) (hs : ∀ s, evalD ns' s x = if evalD ns s y then evalD ns s (ns0.getD (r - 2).toNat dn0).hi else evalD ns s (ns0.getD (r - 2).toNat dn0).lo) : CmR ns0 e y ns' r x := by
  refine ⟨hx, fun s => ?_⟩
  have hi : (r - 2).toNat < ns0.length := by unfold RefOk at hr; omega
  obtain ⟨r1, r2⟩ := kids_ref ht hi
  have nd := ht _ hi
  rw [hs s, hl.eval ht hy, hl.eval ht r1, hl.eval ht r2]
  have en := eval_node ht hi (v := (ns0.getD (r - 2).toNat dn0).v) (lo := (ns0.getD (r - 2).toNat dn0).lo) (hi' := (ns0.getD (r - 2).toNat dn0).hi) rfl (setB s e (evalD ns0 s y))
  rw [show (2 : Int) + (((r - 2).toNat : Nat) : Int) = r from by omega] at en
  have hbit : (setB s e (evalD ns0 s y)).testBit (ns0.getD (r - 2).toNat dn0).v.toNat = evalD ns0 s y := by rw [he, setB_bit, if_pos (by omega)]
  rw [en, hbit, setB_indep ht r1 (by have := nd.bl; rw [he] at this; exact this), setB_indep ht r2 (by have := nd.bh; rw [he] at this; exact this)]
/-- A node before the event. -/
theorem cm_node {ns0 ns' : List DN} {o : List Int} {e : Nat} {y r x c a b : Int} {ns : List DN} (ht : TabOk o ns0) (h2 : 2 ≤ r) (hr : RefOk ns0 r) (he : (ns0.getD (r - 2).toNat dn0).v ≠ e)
    (hc : ∀ s, evalD ns s c = s.testBit (ns0.getD (r - 2).toNat dn0).v.toNat) (ha : CmR ns0 e y ns (ns0.getD (r - 2).toNat dn0).hi a) (hb : CmR ns0 e y ns (ns0.getD (r - 2).toNat dn0).lo b)
    (hx : RefOk ns' x) (hs : ∀ s, evalD ns' s x = if evalD ns s c then evalD ns s a else evalD ns s b) : CmR ns0 e y ns' r x := by
  refine ⟨hx, fun s => ?_⟩
  have hi : (r - 2).toNat < ns0.length := by unfold RefOk at hr; omega
  obtain ⟨v0, _, _, _, _, _⟩ := (ht _ hi).nk
  have en := eval_node ht hi (v := (ns0.getD (r - 2).toNat dn0).v) (lo := (ns0.getD (r - 2).toNat dn0).lo) (hi' := (ns0.getD (r - 2).toNat dn0).hi) rfl (setB s e (evalD ns0 s y))
  rw [show (2 : Int) + (((r - 2).toNat : Nat) : Int) = r from by omega] at en
  have hbit : (setB s e (evalD ns0 s y)).testBit (ns0.getD (r - 2).toNat dn0).v.toNat = s.testBit (ns0.getD (r - 2).toNat dn0).v.toNat := by rw [setB_bit, if_neg (by omega)]
  rw [hs s, hc s, ha.2 s, hb.2 s, en, hbit]
/-- How many of the first k states are true. -/
def cntTo (f : Nat → Bool) : Nat → Nat
  | 0 => 0
  | k + 1 => cntTo f k + if f k then 1 else 0
theorem cntTo_le (f : Nat → Bool) : ∀ k, cntTo f k ≤ k
  | 0 => Nat.le_refl _
  | k + 1 => by
    have := cntTo_le f k
    unfold cntTo
    split <;> omega
theorem cnt_congr {f g : Nat → Bool} : ∀ k, (∀ s, s < k → f s = g s) → cntTo f k = cntTo g k
  | 0, _ => rfl
  | k + 1, h => by
    unfold cntTo
    rw [cnt_congr k fun s hs => h s (by omega), h k (by omega)]
theorem cnt_add (f : Nat → Bool) (a : Nat) : ∀ b, cntTo f (a + b) = cntTo f a + cntTo (fun s => f (s + a)) b
  | 0 => rfl
  | b + 1 => by
    show cntTo f (a + b) + _ = _
    rw [cnt_add f a b]
    show _ = cntTo f a + (cntTo (fun s => f (s + a)) b + if f (b + a) then 1 else 0)
    rw [Nat.add_comm b a]
    exact Nat.add_assoc _ _ _
theorem cnt_false : ∀ k, cntTo (fun _ => false) k = 0
  | 0 => rfl
  | k + 1 => by unfold cntTo; rw [cnt_false k]; rfl
theorem cnt_true : ∀ k, cntTo (fun _ => true) k = k
  | 0 => rfl
  | k + 1 => by unfold cntTo; rw [cnt_true k]; rfl
abbrev half : Nat → Rat := fun _ => 1 / 2
def indQ (f : Nat → Bool) (s : Nat) : Rat := if f s then 1 else 0
theorem ind_eq {f g : Nat → Bool} {s t : Nat} (h : f s = g t) : indQ f s = indQ g t := by unfold indQ; rw [h]
theorem cnt_ex : ∀ (m : Nat) (f : Nat → Bool), (cntTo f (2 ^ m) : Rat) = ((2 ^ m : Nat) : Rat) * exQ half m (indQ f)
  | 0, f => by
    show ((cntTo f 1 : Nat) : Rat) = ((1 : Nat) : Rat) * indQ f 0
    unfold cntTo cntTo indQ
    split <;> simp
  | m + 1, f => by
    have e : 2 ^ (m + 1) = 2 ^ m + 2 ^ m := by rw [Nat.pow_succ]; omega
    have h1 := cnt_ex m f
    have h2 := cnt_ex m (fun s => f (s + 2 ^ m))
    rw [e, cnt_add, exQ]
    clear e
    have e3 : exQ half m (fun s => indQ f (s + 2 ^ m)) = exQ half m (indQ fun s => f (s + 2 ^ m)) := rfl
    rw [e3]
    rw [show ((cntTo f (2 ^ m) + cntTo (fun s => f (s + 2 ^ m)) (2 ^ m) : Nat) : Rat) = (cntTo f (2 ^ m) : Rat) + (cntTo (fun s => f (s + 2 ^ m)) (2 ^ m) : Rat) from by push_cast; rfl, h1, h2]
    rw [show ((2 ^ m + 2 ^ m : Nat) : Rat) = ((2 ^ m : Nat) : Rat) + ((2 ^ m : Nat) : Rat) from by push_cast; rfl]
    generalize ((2 ^ m : Nat) : Rat) = q
    simp only [half]
    grind
theorem cnt_shan {m v : Nat} {l h : Nat → Bool} (hv : v < m) (il : Indep m v (indQ l)) (ih : Indep m v (indQ h)) : 2 * cntTo (fun s => if s.testBit v then h s else l s) (2 ^ m) = cntTo l (2 ^ m) + cntTo h (2 ^ m) := by
  have h0 := cnt_ex m (fun s => if s.testBit v then h s else l s)
  have h1 := cnt_ex m l
  have h2 := cnt_ex m h
  have e : exQ half m (indQ fun s => if s.testBit v then h s else l s) = exQ half m (fun s => if s.testBit v then indQ h s else indQ l s) := ex_congr m _ _ fun s _ => by unfold indQ; by_cases hb : s.testBit v = true <;> simp [hb]
  rw [e, ex_shan m _ _ hv il ih] at h0
  have : ((2 * cntTo (fun s => if s.testBit v then h s else l s) (2 ^ m) : Nat) : Rat) = ((cntTo l (2 ^ m) + cntTo h (2 ^ m) : Nat) : Rat) := by
    push_cast
    push_cast at h0 h1 h2
    rw [h0, h1, h2]
    simp only [half]
    grind
  exact_mod_cast this
/-- The number of the true states of a reference. -/
def cntR (o : List Int) (ns : List DN) (r : Int) : Nat := cntTo (fun s => evalD ns s r) (2 ^ o.length)
theorem ref_indep {o : List Int} {ns : List DN} (ht : TabOk o ns) {r : Int} (hr : RefOk ns r) {v : Nat} (hl : placeZ o v < lvZ o ns r) : Indep o.length v (indQ fun s => evalD ns s r) := fun s t _ _ hb => by
  exact ind_eq (tab_indep ht (s := s) (t := t) (P := placeZ o v) (fun j hj hp => hb j hj (fun e => by subst e; omega)) r.toNat r (Nat.le_refl _) hr hl)
theorem cnt_node {o : List Int} {ns : List DN} (ht : TabOk o ns) {i : Nat} (hi : i < ns.length) : 2 * cntR o ns (2 + i) = cntR o ns (ns.getD i dn0).lo + cntR o ns (ns.getD i dn0).hi := by
  have nd := ht i hi
  obtain ⟨v0, v1, _, _, _, _⟩ := nd.nk
  obtain ⟨r1, r2⟩ := kids_ref ht hi
  have hvv : (((ns.getD i dn0).v.toNat : Nat) : Int) = (ns.getD i dn0).v := by omega
  have := cnt_shan (m := o.length) (v := (ns.getD i dn0).v.toNat) (by omega) (ref_indep ht r1 (by rw [hvv]; exact nd.bl)) (ref_indep ht r2 (by rw [hvv]; exact nd.bh))
  unfold cntR
  rw [← this]
  congr 1
  exact cnt_congr _ fun s _ => eval_node ht hi rfl s
theorem cntR_leaf {o : List Int} {ns : List DN} : cntR o ns 0 = 0 ∧ cntR o ns 1 = 2 ^ o.length := by
  unfold cntR
  refine ⟨?_, ?_⟩
  · rw [cnt_congr (g := fun _ => false) _ fun s _ => evalD_leaf (by omega)]; exact cnt_false _
  · rw [cnt_congr (g := fun _ => true) _ fun s _ => evalD_leaf (by omega)]; exact cnt_true _
/-- An event decides in half of the states in which it would. -/
theorem cnt_crit {m i : Nat} (hi : i < m) (f : Nat → Bool) : 2 * cntTo (fun s => !s.testBit i && (f (setB s i false) != f (setB s i true))) (2 ^ m) = cntTo (fun s => f (setB s i false) != f (setB s i true)) (2 ^ m) := by
  have ind : Indep m i (indQ fun s => f (setB s i false) != f (setB s i true)) := fun s t hs ht hb => by
    have e : ∀ b, setB s i b = setB t i b := fun b => Nat.eq_of_testBit_eq fun j => by
      rw [setB_bit, setB_bit]
      by_cases hj : j = i
      · rw [if_pos hj, if_pos hj]
      · rw [if_neg hj, if_neg hj]
        by_cases hjm : j < m
        · exact hb j hjm hj
        · rw [Nat.testBit_lt_two_pow (Nat.lt_of_lt_of_le hs (Nat.pow_le_pow_right (by omega) (by omega))), Nat.testBit_lt_two_pow (Nat.lt_of_lt_of_le ht (Nat.pow_le_pow_right (by omega) (by omega)))]
    exact ind_eq (by rw [e, e])
  have h := cnt_shan (m := m) (v := i) (l := fun s => f (setB s i false) != f (setB s i true)) (h := fun _ => false) hi ind (fun _ _ _ _ _ => rfl)
  rw [cnt_false] at h
  rw [← Nat.add_zero (cntTo (fun s => f (setB s i false) != f (setB s i true)) (2 ^ m)), ← h]
  congr 1
  exact cnt_congr _ fun s _ => by cases s.testBit i <;> simp
end Go.PN

/- faultlineref42: set, Change, one, Birnbaum, Joint, Critical. -/
namespace Go.Proofs.YtlpejaefobdajaaGreat
open Go.AI Go.PN
attribute [local irreducible] aw Fa Fh DrK
theorem ler_oslr2 {h : Heap} {t : Bool} {g n : Nat} {ty : TypeId} {W : List RD} (hg : h.get g = some (.cells ty (n * 3) (ratsF W))) (hn : n = W.length) : LeR h (.osl g 3 0 n) (rats t W) := by
  subst hn
  refine .osl hg (by omega) (fun j hj => ?_)
  rw [Nat.zero_add]
  exact lf_ler (by omega) (fun x _ k hk => by
    match k, hk with
    | 0, _ => exact .bool _
    | 1, _ => exact ler_ws
    | 2, _ => exact ler_ws) j hj
/-- The joint importance. -/
def jointQ (d : DG) (p : List RD) (i j : Nat) : Rat := if i = j then 0 else impQ d (p.set j (rd 1)) i - impQ d (p.set j rd0) i
/-- Does event i decide in state s? -/
def critB (d : DG) (i s : Nat) : Bool := !s.testBit i && (evalD d.nodes s d.root != evalD d.nodes (setB s i true) d.root)
theorem setB_lt {m s i : Nat} {b : Bool} (hs : s < 2 ^ m) (hi : i < m) : setB s i b < 2 ^ m := Nat.lt_pow_two_of_testBit _ fun j hj => by
  rw [setB_bit, if_neg (by omega)]
  exact Nat.testBit_lt_two_pow (Nat.lt_of_lt_of_le hs (Nat.pow_le_pow_right (by omega) hj))
end Go.Proofs.YtlpejaefobdajaaGreat

/- Tables of nodes: Export. No program in sight. -/
namespace Go.PN
open Go.AI Go.Proofs.YtlpejaefobdajaaGreat
/-- The new reference of a reference, when those of rs are out, in this order. -/
def exR (rs : List Int) (r : Int) : Option Int := if r < 2 then some r else if r ∈ rs then some ((rs.idxOf r : Int) + 2) else none
theorem exR_app {rs zs : List Int} {r x : Int} (h : exR rs r = some x) : exR (rs ++ zs) r = some x := by
  unfold exR at h ⊢
  split at h
  · rename_i h2; rw [if_pos h2]; exact h
  · rename_i h2
    rw [if_neg h2]
    split at h
    · rename_i hm
      rw [if_pos (List.mem_append_left _ hm), List.idxOf_append, if_pos hm]
      exact h
    · cases h
theorem exR_take {rs : List Int} {r x : Int} {j : Nat} (h : exR (rs.take j) r = some x) : exR rs r = some x := by
  have := exR_app (zs := rs.drop j) h
  rwa [List.take_append_drop] at this
theorem exR_lt {rs : List Int} {r x : Int} (h0 : 0 ≤ r) (h : exR rs r = some x) : 0 ≤ x ∧ x < rs.length + 2 := by
  unfold exR at h
  split at h
  · injection h with h; omega
  · split at h
    · rename_i hm
      injection h with h
      have := List.idxOf_lt_length_of_mem hm
      omega
    · cases h
theorem exR_inj {rs : List Int} {a b x : Int} (ha : exR rs a = some x) (hb : exR rs b = some x) : a = b := by
  unfold exR at ha hb
  split at ha
  · injection ha with ha
    split at hb
    · injection hb with hb; omega
    · split at hb
      · injection hb with hb; omega
      · cases hb
  · split at ha
    · rename_i h1 hm
      injection ha with ha
      split at hb
      · injection hb with hb; omega
      · split at hb
        · rename_i h2 hm2
          injection hb with hb
          have e : rs.idxOf a = rs.idxOf b := by omega
          have l1 := List.idxOf_lt_length_of_mem hm
          have l2 := List.idxOf_lt_length_of_mem hm2
          have e1 := List.getElem_idxOf l1
          have e2 := List.getElem_idxOf l2
          rw [← e1, ← e2]
          simp only [e]
        · cases hb
    · cases ha
/-- What has been exported. -/
structure ExOk (ns : List DN) (rs : List Int) (os : List DN) : Prop where
  len : os.length = rs.length
  nd : rs.Nodup
  bd : ∀ r ∈ rs, 2 ≤ r ∧ r < ns.length + 2
  node : ∀ j, j < rs.length → ∃ lo hi, exR (rs.take j) (ns.getD (rs.getD j 0 - 2).toNat dn0).lo = some lo ∧ exR (rs.take j) (ns.getD (rs.getD j 0 - 2).toNat dn0).hi = some hi ∧ os.getD j dn0 = ⟨(ns.getD (rs.getD j 0 - 2).toNat dn0).v, lo, hi⟩
theorem ExOk.nil (ns : List DN) : ExOk ns [] [] := ⟨rfl, List.nodup_nil, fun x hx => absurd hx List.not_mem_nil, fun j hj => absurd hj (Nat.not_lt_zero _)⟩
theorem ExOk.ref {ns : List DN} {rs : List Int} {os : List DN} (h : ExOk ns rs os) {j : Nat} (hj : j < rs.length) : 2 ≤ rs.getD j 0 ∧ rs.getD j 0 < ns.length + 2 := by
  rw [getDZ hj]; exact h.bd _ (List.getElem_mem hj)
theorem ExOk.nsok {o : List Int} {ns : List DN} {rs : List Int} {os : List DN} (ht : TabOk o ns) (h : ExOk ns rs os) : NsOk o.length os := fun j hj => by
  have hj' : j < rs.length := by rw [← h.len]; exact hj
  obtain ⟨lo, hi, e1, e2, e3⟩ := h.node j hj'
  have hb := h.ref hj'
  have hi' : (rs.getD j 0 - 2).toNat < ns.length := by omega
  obtain ⟨v0, v1, _, _, _, _⟩ := (ht _ hi').nk
  obtain ⟨r1, r2⟩ := kids_ref ht hi'
  have b1 := exR_lt r1.1 e1
  have b2 := exR_lt r2.1 e2
  rw [List.length_take] at b1 b2
  rw [e3]
  exact ⟨v0, v1, b1.1, by show lo < j + 2; omega, b2.1, by show hi < j + 2; omega⟩
theorem ExOk.find {ns : List DN} {rs : List Int} {os : List DN} (h : ExOk ns rs os) {r x : Int} (h2 : 2 ≤ r) (e : exR rs r = some x) : ∃ j, j < rs.length ∧ rs.getD j 0 = r ∧ x = 2 + (j : Int) := by
  unfold exR at e
  rw [if_neg (by omega)] at e
  split at e
  · rename_i hm
    injection e with e
    have l := List.idxOf_lt_length_of_mem hm
    refine ⟨_, l, ?_, by omega⟩
    rw [getDZ l]
    exact List.getElem_idxOf l
  · cases e
theorem ExOk.eval {o : List Int} {ns : List DN} {rs : List Int} {os : List DN} (ht : TabOk o ns) (h : ExOk ns rs os) (s : Nat) : ∀ (n : Nat) (r x : Int), x.toNat ≤ n → 0 ≤ r → r < ns.length + 2 → exR rs r = some x → evalD os s x = evalD ns s r := by
  intro n
  induction n with
  | zero =>
    intro r x hn h0 hr e
    have := exR_lt h0 e
    by_cases h2 : r < 2
    · unfold exR at e; rw [if_pos h2] at e; injection e with e; subst e
      rw [evalD_leaf (by omega), evalD_leaf (by omega)]
    · obtain ⟨j, _, _, rfl⟩ := h.find (by omega) e
      omega
  | succ n ih =>
    intro r x hn h0 hr e
    by_cases h2 : r < 2
    · unfold exR at e; rw [if_pos h2] at e; injection e with e; subst e
      rw [evalD_leaf (by omega), evalD_leaf (by omega)]
    · obtain ⟨j, hj, er, rfl⟩ := h.find (by omega) e
      obtain ⟨lo, hi, e1, e2, e3⟩ := h.node j hj
      rw [er] at e1 e2 e3
      have hi' : (r - 2).toNat < ns.length := by omega
      obtain ⟨r1, r2⟩ := kids_ref ht hi'
      have b1 := exR_lt r1.1 e1
      have b2 := exR_lt r2.1 e2
      rw [List.length_take] at b1 b2
      rw [evalD_step (h.nsok ht) (by omega) (by rw [h.len]; omega)]
      unfold kid
      rw [show ((2 : Int) + (j : Int) - 2).toNat = j from by omega, e3]
      rw [evalD_step ht.ns (by omega) hr]
      unfold kid
      dsimp only
      split
      · exact ih _ _ (by omega) r2.1 r2.2 (exR_take e2)
      · exact ih _ _ (by omega) r1.1 r1.2 (exR_take e1)
theorem ExOk.lv {o : List Int} {ns : List DN} {rs : List Int} {os : List DN} (h : ExOk ns rs os) {r x : Int} (e : exR rs r = some x) : lvZ o os x = lvZ o ns r := by
  by_cases h2 : r < 2
  · unfold exR at e; rw [if_pos h2] at e; injection e with e; subst e
    unfold lvZ; rw [if_pos h2, if_pos h2]
  · obtain ⟨j, hj, er, rfl⟩ := h.find (by omega) e
    obtain ⟨lo, hi, e1, e2, e3⟩ := h.node j hj
    unfold lvZ
    rw [if_neg (by omega), if_neg h2, show ((2 : Int) + (j : Int) - 2).toNat = j from by omega, e3, er]
theorem behind_lv {o : List Int} {os : List DN} {root x v : Int} (h : placeZ o v < lvZ o os x) : behindB ⟨o, os, root⟩ x v = true := by
  unfold behindB
  by_cases h2 : x < 2
  · rw [decide_eq_true h2]; rfl
  · unfold lvZ at h
    rw [if_neg h2] at h
    rw [decide_eq_false h2, Bool.false_or]
    exact decide_eq_true h
theorem ExOk.ncode {o : List Int} {ns : List DN} {rs : List Int} {os : List DN} (ht : TabOk o ns) (h : ExOk ns rs os) (root : Int) {j : Nat} (hj : j < os.length) : Go.PN.ncode ⟨o, os, root⟩ j = 0 := by
  have hj' : j < rs.length := by rw [← h.len]; exact hj
  obtain ⟨lo, hi, e1, e2, e3⟩ := h.node j hj'
  have hb := h.ref hj'
  have hi' : (rs.getD j 0 - 2).toNat < ns.length := by omega
  have nd := ht _ hi'
  have nk := h.nsok ht j hj
  rw [e3] at nk
  obtain ⟨v0, v1, l0, l1, g0, g1⟩ := nk
  dsimp only at v0 v1 l0 l1 g0 g1
  unfold Go.PN.ncode
  rw [show (⟨o, os, root⟩ : DG).nodes = os from rfl, e3]
  rw [if_neg (by unfold nrange; dsimp only; omega), if_neg ?_, if_neg ?_, if_neg ?_]
  · intro hm
    obtain ⟨k, hk, hkl, ek⟩ := take_memN.1 hm
    have hk' : k < rs.length := by omega
    obtain ⟨lo', hi'', f1, f2, f3⟩ := h.node k hk'
    rw [f3] at ek
    injection ek with ev el eh
    subst el eh
    have q1 := exR_inj (exR_take f1) (exR_take e1)
    have q2 := exR_inj (exR_take f2) (exR_take e2)
    have hkb := h.ref hk'
    have same : ns.getD (rs.getD k 0 - 2).toNat dn0 = ns.getD (rs.getD j 0 - 2).toNat dn0 := by
      cases hA : ns.getD (rs.getD k 0 - 2).toNat dn0
      cases hB : ns.getD (rs.getD j 0 - 2).toNat dn0
      rw [hA, hB] at q1 q2 ev
      dsimp only at q1 q2 ev
      rw [q1, q2, ev]
    have hne : rs.getD k 0 ≠ rs.getD j 0 := fun e => by
      have p1 := place_get h.nd hk'
      have p2 := place_get h.nd hj'
      rw [e] at p1
      omega
    have hik : (rs.getD k 0 - 2).toNat < ns.length := by omega
    rcases Nat.lt_or_gt_of_ne (show (rs.getD k 0 - 2).toNat ≠ (rs.getD j 0 - 2).toNat from fun e => hne (by omega)) with hl | hl
    · refine nd.new ?_
      rw [← same]
      exact take_memN.2 ⟨_, hl, hik, rfl⟩
    · refine (ht _ hik).new ?_
      rw [same]
      exact take_memN.2 ⟨_, hl, hi', rfl⟩
  · have b1 := nd.bl
    have b2 := nd.bh
    dsimp only
    rw [behind_lv (by rw [h.lv (exR_take e1)]; exact b1), behind_lv (by rw [h.lv (exR_take e2)]; exact b2)]
    simp
  · dsimp only
    intro e
    subst e
    exact nd.ne (exR_inj (exR_take e1) (exR_take e2))
/-- A call of the walk that exports. -/
structure Ex (o : List Int) (ns : List DN) (rs : List Int) (os : List DN) (rs' : List Int) (os' : List DN) (r x : Int) : Prop where
  ok : ExOk ns rs' os'
  pre : ∃ zs, rs' = rs ++ zs
  preo : ∃ ys, os' = os ++ ys
  ref : exR rs' r = some x
  num : ∀ ys, ∀ k, x.toNat ≤ k → numF (os' ++ ys) k x (numsL rs.length) = numsL rs'.length
  below : ∀ z ∈ rs', z ∈ rs ∨ z ≤ r
  len : rs'.length ≤ rs.length + (2 ^ (o.length - lvZ o ns r).toNat - 1)
theorem mem_numsL {n : Nat} {x : Int} : x ∈ numsL n ↔ 2 ≤ x ∧ x < n + 2 := by
  unfold numsL
  rw [List.mem_map]
  constructor
  · rintro ⟨i, hi, rfl⟩
    rw [List.mem_range] at hi
    omega
  · intro h
    exact ⟨(x - 2).toNat, List.mem_range.2 (by omega), by omega⟩
theorem numsL_succ' (n : Nat) : numsL (n + 1) = numsL n ++ [(n : Int) + 2] := by simp [numsL, List.range_succ]
theorem ex_same {o : List Int} {ns : List DN} {rs : List Int} {os : List DN} {r x : Int} (h : ExOk ns rs os) (h0 : 0 ≤ r) (e : exR rs r = some x) : Ex o ns rs os rs os r x :=
  ⟨h, ⟨[], by simp⟩, ⟨[], by simp⟩, e, fun ys k _ => by
    have hx := exR_lt h0 e
    cases k with
    | zero => rfl
    | succ k => rw [numF, if_pos]; rw [mem_numsL]; omega, fun z hz => .inl hz, by omega⟩
theorem ex_node {o : List Int} {ns : List DN} {rs rs1 rs2 : List Int} {os os1 os2 : List DN} {r xl xh : Int} (ht : TabOk o ns) (h2 : 2 ≤ r) (hr : r < ns.length + 2) (hnew : r ∉ rs)
    (a : Ex o ns rs os rs1 os1 (ns.getD (r - 2).toNat dn0).lo xl) (b : Ex o ns rs1 os1 rs2 os2 (ns.getD (r - 2).toNat dn0).hi xh) :
    r ∉ rs2 ∧ Ex o ns rs os (rs2 ++ [r]) (os2 ++ [⟨(ns.getD (r - 2).toNat dn0).v, xl, xh⟩]) r ((rs2.length : Int) + 2) := by
  have hi' : (r - 2).toNat < ns.length := by omega
  have nk := (ht _ hi').nk
  obtain ⟨v0, v1, l0, l1, g0, g1⟩ := nk
  obtain ⟨z1, e1⟩ := a.pre
  obtain ⟨z2, e2⟩ := b.pre
  obtain ⟨y1, f1⟩ := a.preo
  obtain ⟨y2, f2⟩ := b.preo
  have hout : r ∉ rs2 := fun hm => by
    rcases b.below r hm with hm | hm
    · rcases a.below r hm with hm | hm
      · exact hnew hm
      · omega
    · omega
  have hax : exR rs2 (ns.getD (r - 2).toNat dn0).lo = some xl := by rw [e2]; exact exR_app a.ref
  have hxl := exR_lt l0 hax
  have hxh := exR_lt g0 b.ref
  have hlen2 := b.ok.len
  refine ⟨hout, ⟨⟨by simp [hlen2], ?_, fun z hz => ?_, fun j hj => ?_⟩, ⟨z1 ++ z2 ++ [r], by rw [e2, e1]; simp⟩, ⟨y1 ++ y2 ++ [⟨(ns.getD (r - 2).toNat dn0).v, xl, xh⟩], by rw [f2, f1]; simp only [List.append_assoc]⟩, ?_, fun ys k hk => ?_, fun z hz => ?_, ?_⟩⟩
  · exact List.nodup_append.2 ⟨b.ok.nd, by simp, fun a ha c hc => by
      rw [List.mem_singleton] at hc; subst hc; exact fun e => hout (e ▸ ha)⟩
  · rcases List.mem_append.1 hz with hz | hz
    · exact b.ok.bd z hz
    · rw [List.mem_singleton] at hz; subst hz; exact ⟨h2, hr⟩
  · rw [List.length_append, List.length_singleton] at hj
    by_cases hjl : j < rs2.length
    · obtain ⟨lo, hi, q1, q2, q3⟩ := b.ok.node j hjl
      have e : (rs2 ++ [r]).getD j 0 = rs2.getD j 0 := by
        rw [List.getD_eq_getElem?_getD, List.getD_eq_getElem?_getD, List.getElem?_append_left hjl]
      rw [e, List.take_append_of_le_length (by omega)]
      exact ⟨lo, hi, q1, q2, by rw [getD_app (by omega)]; exact q3⟩
    · have hj' : j = rs2.length := by omega
      subst hj'
      have e : (rs2 ++ [r]).getD rs2.length 0 = r := by
        rw [List.getD_eq_getElem?_getD, List.getElem?_append_right (Nat.le_refl _), Nat.sub_self]; rfl
      rw [e, List.take_append_of_le_length (Nat.le_refl _), List.take_length]
      refine ⟨xl, xh, hax, b.ref, ?_⟩
      rw [← hlen2, List.getD_eq_getElem?_getD, List.getElem?_append_right (Nat.le_refl _), Nat.sub_self]; rfl
  · unfold exR
    rw [if_neg (by omega), if_pos (by simp), List.idxOf_append, if_neg hout]
    simp
  · obtain ⟨k', rfl⟩ : ∃ k', k = k' + 1 := ⟨k - 1, by omega⟩
    have hlen : (rs2 ++ [r]).length = rs2.length + 1 := by simp
    have hg : ((os2 ++ [(⟨(ns.getD (r - 2).toNat dn0).v, xl, xh⟩ : DN)]) ++ ys).getD ((rs2.length : Int) + 2 - 2).toNat dn0 = ⟨(ns.getD (r - 2).toNat dn0).v, xl, xh⟩ := by
      rw [show ((rs2.length : Int) + 2 - 2).toNat = os2.length from by omega, List.append_assoc, List.getD_eq_getElem?_getD, List.getElem?_append_right (Nat.le_refl _), Nat.sub_self]; rfl
    have hle : rs.length ≤ rs2.length := by rw [e2, e1]; simp only [List.length_append]; omega
    rw [numF, if_neg (by rw [mem_numsL]; omega), hg]
    dsimp only
    have a1 := a.num (y2 ++ [(⟨(ns.getD (r - 2).toNat dn0).v, xl, xh⟩ : DN)] ++ ys) k' (by omega)
    have b1 := b.num ([(⟨(ns.getD (r - 2).toNat dn0).v, xl, xh⟩ : DN)] ++ ys) k' (by omega)
    have ea : os1 ++ (y2 ++ [(⟨(ns.getD (r - 2).toNat dn0).v, xl, xh⟩ : DN)] ++ ys) = os2 ++ [(⟨(ns.getD (r - 2).toNat dn0).v, xl, xh⟩ : DN)] ++ ys := by rw [f2]; simp
    rw [ea] at a1
    rw [← List.append_assoc] at b1
    rw [a1, b1, hlen, numsL_succ']
  · rcases List.mem_append.1 hz with hz | hz
    · rcases b.below z hz with h | h
      · rcases a.below z h with h | h
        · exact .inl h
        · exact .inr (by omega)
      · exact .inr (by omega)
    · rw [List.mem_singleton] at hz; exact .inr (by omega)
  · have nd := ht _ hi'
    have b1 := nd.bl
    have b2 := nd.bh
    have hlr : lvZ o ns r = placeZ o (ns.getD (r - 2).toNat dn0).v := by unfold lvZ; rw [if_neg (by omega)]
    have ll := lv_le (o := o) (ns := ns) (r := (ns.getD (r - 2).toNat dn0).lo)
    have lh := lv_le (o := o) (ns := ns) (r := (ns.getD (r - 2).toNat dn0).hi)
    have la := a.len
    have lb := b.len
    obtain ⟨q, hq⟩ : ∃ q, (o.length - lvZ o ns r).toNat = q + 1 := ⟨(o.length - lvZ o ns r).toNat - 1, by omega⟩
    have pa : 2 ^ ((o.length : Int) - lvZ o ns (ns.getD (r - 2).toNat dn0).lo).toNat ≤ 2 ^ q := Nat.pow_le_pow_right (by omega) (by omega)
    have pb : 2 ^ ((o.length : Int) - lvZ o ns (ns.getD (r - 2).toNat dn0).hi).toNat ≤ 2 ^ q := Nat.pow_le_pow_right (by omega) (by omega)
    have pq : 0 < 2 ^ q := Nat.pow_pos (by omega)
    rw [hq, Nat.pow_succ, List.length_append, List.length_singleton]
    omega
/-- What is exported is a diagram without error, of the same function. -/
theorem ex_code {o : List Int} {ns : List DN} {rs : List Int} {os : List DN} {r x : Int} (ho : ocode o o.length = 0) (ht : TabOk o ns) (hr : RefOk ns r) (h : Ex o ns [] [] rs os r x) (hl : os.length ≤ 4096) : dcode ⟨o, os, x⟩ = 0 := by
  have hx := exR_lt hr.1 h.ref
  have hlen := h.ok.len
  unfold dcode
  have hz : ∀ (k i : Nat), i + k ≤ os.length → nfirst ⟨o, os, x⟩ i k = 0 := by
    intro k
    induction k with
    | zero => intro i _; rfl
    | succ k ih =>
      intro i hi
      rw [nfirst, if_neg (by rw [h.ok.ncode ht x (by omega)]; simp)]
      exact ih (i + 1) (by omega)
  rw [if_neg (by simpa using ho), if_neg (by simpa using hl), if_neg (by rw [hz _ _ (by simp)]; simp), if_neg (by dsimp only; omega)]
  have hn := h.num [] x.toNat (Nat.le_refl _)
  rw [List.append_nil] at hn
  rw [if_pos]
  show numF os x.toNat x [] = numsL os.length
  rw [hlen, ← hn]
  rfl
end Go.PN

/- Maps, more: keys that are ints or arrays of three ints; lookups that tell whether the key is there. -/
namespace Go.AI
section
variable {P : Program}
def keyI (n : Int) : Value := .int .i64 n
theorem keyI_ok {kt : TypeId} (ht : P.underlying kt = some (.int .i64)) : KeyOk P kt keyI := by
  refine ⟨fun b a w => ?_, fun a ks es w h => ?_⟩
  · unfold Instr.checkKey keyI
    simp only [Sem.run_bind, run_underlying ht, Result.andThen_ok]
    rfl
  · unfold Instr.findKey
    simp only [Sem.run_bind, run_underlying ht, Result.andThen_ok]
    have hn : ∀ (ks : List Int) (es : List MapEntry) (i : Nat), es.map (·.key) = ks.map keyI → Instr.findNow (.int .i64) (keyI a) es i = some (fAsk a ks es i) := by
      intro ks
      induction ks with
      | nil =>
        intro es i h
        cases es with
        | nil => rfl
        | cons e es => simp at h
      | cons k ks ih =>
        intro es i h
        cases es with
        | nil => simp at h
        | cons e es =>
          simp only [List.map_cons, List.cons.injEq] at h
          simp only [Instr.findNow, fAsk, h.1, keyI, Instr.sameNow, if_true]
          by_cases hk : a = k
          · subst hk; simp
          · have : (a == k) = false := by simpa using hk
            rw [this, if_neg hk]
            exact ih es (i + 1) h.2
    rw [hn ks es 0 h]
    rfl
def key3 (k : Int × Int × Int) : Value := .agg #[.int .i64 k.1, .int .i64 k.2.1, .int .i64 k.2.2]
theorem key3_ok {kt e : TypeId} (ht : P.underlying kt = some (.array 3 e)) (he : P.underlying e = some (.int .i64)) {inf : TypeInfo} (hi : P.info? e = some inf) (hs : inf.size = 1) : KeyOk P kt key3 := by
  have hag : ∀ w, (isAgg e).run P w = .ok false w := fun w => by simp [isAgg, run_underlying he]
  have hsz : ∀ w, (sizeOf e).run P w = .ok 1 w := fun w => by simp [sizeOf, typeInfo, hi, hs]
  have hp : ∀ (a b c : Int) w, (part e #[.int .i64 a, .int .i64 b, .int .i64 c] 0).run P w = .ok (.int .i64 a) w ∧ (part e #[.int .i64 a, .int .i64 b, .int .i64 c] 1).run P w = .ok (.int .i64 b) w ∧ (part e #[.int .i64 a, .int .i64 b, .int .i64 c] 2).run P w = .ok (.int .i64 c) w := fun a b c w => by
    unfold part
    simp only [Sem.run_bind, hag, Result.andThen_ok, Bool.false_eq_true, if_false]
    exact ⟨rfl, rfl, rfl⟩
  have hck : ∀ b n x w, (Instr.checkKey b (n + 1) e (.int .i64 x)).run P w = .ok () w := fun b n x w => by simp [Instr.checkKey, run_underlying he]
  have heq1 : ∀ d x y w, (Op.equalIn (d + 1) e (.int .i64 x) (.int .i64 y)).run P w = .ok (x == y) w := fun d x y w => by simp [Op.equalIn, run_underlying he]
  refine ⟨fun b a w => ?_, fun a ks es w h => ?_⟩
  · obtain ⟨x, y, z⟩ := a
    obtain ⟨p0, p1, p2⟩ := hp x y z w
    show (Instr.checkKey b (9998 + 1 + 1) kt (key3 (x, y, z))).run P w = _
    unfold Instr.checkKey key3
    have hck9 : ∀ x w, (Instr.checkKey b 9999 e (.int .i64 x)).run P w = .ok () w := fun x w => hck b 9998 x w
    simp [run_underlying ht]
    rw [show List.range' 0 3 = [0, 1, 2] from rfl]
    simp [hsz, p0, p1, p2, hck9]
  · have hfeq : ∀ a b w, (Op.equal kt (key3 a) (key3 b)).run P w = .ok (decide (a = b)) w := fun a b w => by
      obtain ⟨x, y, z⟩ := a
      obtain ⟨x', y', z'⟩ := b
      have hp0 := fun a b c w => (hp a b c w).1
      have hp1 := fun a b c w => (hp a b c w).2.1
      have hp2 := fun a b c w => (hp a b c w).2.2
      show (Op.equalIn (9998 + 1 + 1) kt (key3 (x, y, z)) (key3 (x', y', z'))).run P w = _
      unfold Op.equalIn key3
      have heq9 : ∀ x y w, (Op.equalIn 9999 e (.int .i64 x) (.int .i64 y)).run P w = .ok (x == y) w := fun x y w => heq1 9998 x y w
      simp [run_underlying ht, hsz]
      rw [show List.range' 0 3 = [0, 1, 2] from rfl]
      by_cases e0 : x = x' <;> by_cases e1 : y = y' <;> by_cases e2 : z = z' <;> simp [hp0, hp1, hp2, heq9, e0, e1, e2]
    have hn : ∀ e' es', es = e' :: es' → Instr.findNow (.array 3 e) (key3 a) es 0 = none := fun e' es' he' => by
      subst he'; simp [Instr.findNow, Instr.sameNow]
    unfold Instr.findKey
    simp only [Sem.run_bind, run_underlying ht, Result.andThen_ok]
    cases es with
    | nil =>
      cases ks with
      | nil => simp [Instr.findNow, fAsk]
      | cons k ks => simp at h
    | cons e' es' =>
      rw [hn e' es' rfl]
      exact run_findAsking hfeq a ks (e' :: es') 0 w h
end
section
variable {P : Program}
variable {E : Env} {K : List It} {σ σ' : Sl} {h : Heap} {all rest : List Oper} {o : Oper}
/-- v, ok = m[k] -/
theorem aw_lookup2 {α : Type} [DecidableEq α] {Kf : α → Value} {t kt et g : TypeId} {kv : List (α × Value)} {x ky : Operand} {ck : AV} {a : α} {z : Value} (hop : o.op = .lookup t x ky true) (hw : wantA all σ o = some true) (hd : dstOk E.N o.dst = true)
    (ht : tMap E.P t = some (kt, et)) (hK : KeyOk E.P kt Kf) (hz : tZ1 E.P et = some z) (hx : ev σ x = .c (.raw (.map (some g)))) (hg : h.get g = some (.gen (MapI Kf kv))) (hk : ev σ ky = ck) (hka : ∀ S w v, Rep S w ck v → v = Kf a)
    (k : aw E (.ops all rest :: K) (σ.setO o.dst (.tup [.c (cstC ((kvGet a kv).getD z)), .c (.bool (kvGet a kv).isSome)])) h) : aw E (.ops all (o :: rest) :: K) σ h := by
  refine aw_step hw (fun ac w s => ?_) k
  have h1 := ev_rep s x
  rw [hx] at h1
  have h1' : ac.eval x = .map (some g) := h1
  have h2 := ev_rep s ky
  rw [hk] at h2
  have h2' := hka _ _ _ h2
  obtain ⟨ob, hb, es, c, rfl, hes⟩ := s.heap g _ (Heap.get_mem hg)
  have hkeys : es.toList.map (·.key) = (kv.map (·.1)).map Kf := by
    have := congrArg (List.map Prod.fst) hes
    rw [List.map_map, List.map_map] at this
    rw [List.map_map]
    exact this
  have hfind := hK.find a (kv.map (·.1)) es.toList w hkeys
  have hget := fAsk_get (K := Kf) a kv es.toList 0 hes
  refine ⟨.tuple #[(kvGet a kv).getD z, .bool (kvGet a kv).isSome], w, .inl ?_, s.put hd ⟨[_, _], rfl, cstC_rep _ _ _, rfl, trivial⟩⟩
  have hlk : (Instr.lookup t (ac.eval x) (ac.eval ky) true).run E.P w = .ok (.tuple #[(kvGet a kv).getD z, .bool (kvGet a kv).isSome]) w := by
    rw [h1', h2']
    unfold Instr.lookup
    simp only [Sem.run_bind, run_underlying (tMap_spec ht), Result.andThen_ok, runGet hb, Sem.run_pure, hK.check, hfind]
    rw [← hget]
    cases hf : fAsk a (kv.map (·.1)) es.toList 0 with
    | none => simp [tZ1_run hz]
    | some p => obtain ⟨i, v⟩ := p; simp
  simp only [execOp, hop, Sem.run_bind, hlk, Result.andThen_ok]
  rfl
theorem Calm.lookup2 {l : List Oper} {α : Type} [DecidableEq α] {Kf : α → Value} {t kt et g : TypeId} {kv : List (α × Value)} {x ky : Operand} {ck : AV} {a : α} {z : Value} (hop : o.op = .lookup t x ky true) (hw : wantA l σ o = some true) (hd : dstOk E.N o.dst = true)
    (ht : tMap E.P t = some (kt, et)) (hK : KeyOk E.P kt Kf) (hz : tZ1 E.P et = some z) (hx : ev σ x = .c (.raw (.map (some g)))) (hg : h.get g = some (.gen (MapI Kf kv))) (hk : ev σ ky = ck) (hka : ∀ S w v, Rep S w ck v → v = Kf a) :
    Calm E h l σ o (.tup [.c (cstC ((kvGet a kv).getD z)), .c (.bool (kvGet a kv).isSome)]) := by
  refine ⟨hd, fun σ' ac w Q hs s => ?_⟩
  rw [if_pos (s.wanted ((want_same hs).trans hw))]
  have h1 := ev_rep s x
  rw [ev_same (by rw [hop]; simp [Op.operands]) hs, hx] at h1
  have h1' : ac.eval x = .map (some g) := h1
  have h2 := ev_rep s ky
  rw [ev_same (by rw [hop]; simp [Op.operands]) hs, hk] at h2
  have h2' := hka _ _ _ h2
  obtain ⟨ob, hb, es, c, rfl, hes⟩ := s.heap g _ (Heap.get_mem hg)
  have hkeys : es.toList.map (·.key) = (kv.map (·.1)).map Kf := by
    have := congrArg (List.map Prod.fst) hes
    rw [List.map_map, List.map_map] at this
    rw [List.map_map]
    exact this
  have hfind := hK.find a (kv.map (·.1)) es.toList w hkeys
  have hget := fAsk_get (K := Kf) a kv es.toList 0 hes
  have hlk : (Instr.lookup t (ac.eval x) (ac.eval ky) true).run E.P w = .ok (.tuple #[(kvGet a kv).getD z, .bool (kvGet a kv).isSome]) w := by
    rw [h1', h2']
    unfold Instr.lookup
    simp only [Sem.run_bind, run_underlying (tMap_spec ht), Result.andThen_ok, runGet hb, Sem.run_pure, hK.check, hfind]
    rw [← hget]
    cases hf : fAsk a (kv.map (·.1)) es.toList 0 with
    | none => simp [tZ1_run hz]
    | some p => obtain ⟨i, v⟩ := p; simp
  have hrun : (execOp ac.eval o).run E.P w = .ok (.value (.tuple #[(kvGet a kv).getD z, .bool (kvGet a kv).isSome])) w := by
    simp only [execOp, hop, Sem.run_bind, hlk, Result.andThen_ok]
    rfl
  unfold Oper.wp
  rw [hrun]
  exact s.put hd ⟨[_, _], rfl, cstC_rep _ _ _, rfl, trivial⟩
theorem drk_lookup2 {l : List Oper} {n : Nat} {α : Type} [DecidableEq α] {Kf : α → Value} {t kt et g : TypeId} {kv : List (α × Value)} {x ky : Operand} {ck : AV} {a : α} {z : Value} (hop : o.op = .lookup t x ky true) (hw : wantA l σ o = some true) (hd : dstOk E.N o.dst = true)
    (ht : tMap E.P t = some (kt, et)) (hK : KeyOk E.P kt Kf) (hz : tZ1 E.P et = some z) (hx : ev σ x = .c (.raw (.map (some g)))) (hg : h.get g = some (.gen (MapI Kf kv))) (hk : ev σ ky = ck) (hka : ∀ S w v, Rep S w ck v → v = Kf a)
    (k : DrK E h l K n rest (σ.setO o.dst (.tup [.c (cstC ((kvGet a kv).getD z)), .c (.bool (kvGet a kv).isSome)]))) : DrK E h l K (n + 1) (o :: rest) σ := drk_cons (Calm.lookup2 hop hw hd ht hK hz hx hg hk hka) k
end
end Go.AI

/- The builtin min of three ints. -/
namespace Go.AI
section
variable {E : Env} {K : List It} {σ σ' : Sl} {h : Heap} {all rest : List Oper} {o : Oper}
theorem aw_min3 {x y z : Operand} {ts : Array TypeId} {a b c : Int} (hop : o.op = .call { callee := .builtin .min, args := #[x, y, z], argTypes := ts }) (hw : wantA all σ o = some true) (hd : dstOk E.N o.dst = true)
    (hx : ev σ x = .c (.int .i64 a)) (hy : ev σ y = .c (.int .i64 b)) (hz : ev σ z = .c (.int .i64 c)) (k : aw E (.ops all rest :: K) (σ.setO o.dst (.c (.int .i64 (min a (min b c))))) h) : aw E (.ops all (o :: rest) :: K) σ h := by
  refine aw_step hw (fun ac w s => ?_) k
  have h1 : ac.eval x = .int .i64 a := by have := ev_rep s x; rw [hx] at this; exact this
  have h2 : ac.eval y = .int .i64 b := by have := ev_rep s y; rw [hy] at this; exact this
  have h3 : ac.eval z = .int .i64 c := by have := ev_rep s z; rw [hz] at this; exact this
  have hrun : (execOp ac.eval o).run E.P w = .ok (.value (.int .i64 (min a (min b c)))) w := by
    simp only [execOp, hop, resolve, invoke, Go.builtin, Sem.run_bind, Sem.run_pure, Result.andThen_ok, List.map_toArray, List.map_cons, List.map_nil, h1, h2, h3]
    have hm : (if c < (if b < a then b else a) then c else (if b < a then b else a)) = min a (min b c) := by
      simp only [Int.min_def]; split <;> split <;> (try split) <;> (try split) <;> omega
    simp [Builtin.min_, Builtin.min2, hm]
  exact ⟨_, w, .inl hrun, s.put hd rfl⟩
end
end Go.AI

/- out = append(out, x) where the new element's slice has been made before; new slices in drawn regions. -/
namespace Go.AI
section
variable {E : Env} {K : List It} {σ σ' : Sl} {h : Heap} {all l rest : List Oper} {o o1 o2 : Oper}
theorem aw_push2 {t e size bytes n d1 s gt : Nat} {z : List CV} {og : Option Nat} {f f' : Nat → CV} {pre : Heap} {v : AV} (hop2 : o2.op = .call { callee := .builtin .append, args := #[.tmp s, .tmp d1], argTypes := #[t, t] })
    (hg2 : o2.guard = none) (hd2 : dstOk E.N o2.dst = true)
    (ht : tElem E.P t = some (e, size, bytes)) (hz : tZero E.P e = some z) (hzl : z.length = size) (hs0 : 0 < size) (hsz : size ≤ 16777216)
    (hevs : ev σ (.tmp s) = .c (gs og size n)) (hev1 : ev σ (.tmp d1) = .c (.osl gt size 0 1)) (hog : og = none → n = 0) (hok : okPart v = true) (hvl : v.cells.length = size) (hh : h = (gt, .cells e (1 * size) (ofL v.cells)) :: (pre ++ gh og e (n * size) f))
    (h63 : n + 1 ≤ maxLen) (hby : (n + 1) * bytes ≤ 140737488355328) (hf : ∀ j, j < (n + 1) * size → appF f (n * size) (ofL v.cells) j = f' j)
    (kk : ∀ g', g' ∉ pre.keys → aw E (.ops all rest :: K) ((σ.set d1 (.c .any)).setO o2.dst (.c (gs (some g') size (n + 1)))) (pre ++ gh (some g') e ((n + 1) * size) f')) : aw E (.ops all (o2 :: rest) :: K) σ h := by
  subst hh
  obtain ⟨ok1, ok2⟩ := okPart_spec hok
  have hw2 : ∀ σ2, wantA all σ2 o2 = some true := fun σ2 => by unfold wantA; rw [hg2]
  have hsrc : ∀ h0 : Heap, Src ((gt, .cells e (1 * size) (ofL v.cells)) :: h0) size (.osl gt size 0 1) 1 (ofL v.cells) := fun h0 => by
    refine .osl (f' := ofL v.cells) (m := 1 * size) (ty := e) (by simp [Heap.get]) (by omega) (fun j _ => by rw [Nat.zero_add])
  have hle : ∀ (B : AV) (g' : Nat), Sl.le ((σ.set d1 (.c .any)).setO o2.dst B) (σ.setO o2.dst B) := fun B g' t' => by
    rw [setO_get, setO_get]
    by_cases e1 : o2.dst = some t'
    · rw [if_pos e1, if_pos e1]; exact .inr rfl
    · rw [if_neg e1, if_neg e1]
      simp only [Sl.get_set]
      by_cases e2 : d1 = t'
      · rw [if_pos e2]; exact .inl rfl
      · rw [if_neg e2]; exact .inr rfl
  have hkp : ∀ g' : Nat, g' ∉ Heap.keys ((gt, .cells e (1 * size) (ofL v.cells)) :: pre) → g' ∉ pre.keys := fun g' hg' hm => hg' (by simp only [Heap.keys, List.map_cons, List.mem_cons]; exact .inr hm)
  have hperm : ∀ g' : Nat, (pre ++ gh (some g') e ((n + 1) * size) f').Sublist ((pre ++ [(g', .cells e ((n + 1) * size) f')])) := fun g' => List.Sublist.refl _
  cases og with
  | none =>
    have hn0 : n = 0 := hog rfl
    subst hn0
    refine aw_appendN (cx := .osl gt size 0 1) (k := 1) (f2 := ofL v.cells) hop2 (hw2 _) hd2 ht hz hzl hs0 hevs hev1 (hsrc _) (by omega) (by omega) (by omega) fun g' hg' => ?_
    refine aw_conv1 (f' := f') (fun j hj => ?_) ?_
    · have := hf j (by omega)
      rw [← this]; simp [appF]
    · have hnew : g' ∉ pre.keys := fun hm => hg' (by simp only [Heap.keys, List.map_cons, List.mem_cons, gh, List.append_nil]; exact .inr hm)
      refine aw_perm (h' := (gt, .cells e (1 * size) (ofL v.cells)) :: (pre ++ [(g', .cells e (1 * size) f')])) ?_ ?_
      · have : (pre ++ gh none e (0 * size) f) = pre := by simp [gh]
        rw [this]
        refine (List.Perm.swap _ _ _).trans (List.Perm.cons _ ?_)
        exact (List.perm_append_singleton _ _).symm
      · refine aw_weak (hle _ g') (List.Sublist.cons _ (List.Sublist.refl _)) ?_
        have := kk g' hnew
        simpa [gh, gs] using this
  | some g =>
    refine aw_nd fun hnd => ?_
    have hnp : g ∉ pre.keys := fun hm => by
      simp only [Heap.keys, gh, List.map_cons, List.map_append, List.map_nil, List.nodup_cons] at hnd
      have := (List.nodup_append.1 hnd.2).2.2 g hm g (by simp)
      exact this rfl
    have hgtg : gt ≠ g := fun e => by
      subst e
      simp [Heap.keys, gh] at hnd
    refine aw_append (cx := .osl gt size 0 1) (k := 1) (f2 := ofL v.cells) (g := g) (m := n * size) (f := f) (h2 := (gt, .cells e (1 * size) (ofL v.cells)) :: pre) hop2 (hw2 _) hd2 ht hz hzl hs0 hevs ?_ (Nat.le_refl _) hev1 (hsrc _) ?_ (by omega) h63 hby ?_ fun g' hg' => ?_
    · show Heap.get ((gt, _) :: (pre ++ [(g, _)])) g = _
      simp only [Heap.get, if_neg hgtg]
      exact Heap.get_app hnp
    · intro j hj
      have hjl : j < v.cells.length := by omega
      rw [ofL_get v.cells j v.cells[j] (List.getElem?_eq_getElem hjl)]
      exact List.all_eq_true.1 ok2 _ (List.getElem_mem hjl)
    · show Heap.del ((gt, _) :: (pre ++ [(g, _)])) g = _
      rw [Heap.del_ne hgtg, Heap.del_app hnp]
    · refine aw_conv1 (f' := f') hf ?_
      refine aw_perm (h' := (gt, .cells e (1 * size) (ofL v.cells)) :: (pre ++ [(g', .cells e ((n + 1) * size) f')])) ?_ ?_
      · refine (List.Perm.swap _ _ _).trans (List.Perm.cons _ ?_)
        exact (List.perm_append_singleton _ _).symm
      · refine aw_weak (hle _ g') (List.Sublist.cons _ (List.Sublist.refl _)) ?_
        exact kk g' (hkp g' hg')

theorem NewX.buildSlice {t e size bytes len : Nat} {xs : List Operand} {cells : List CV} (hop : o.op = .buildSlice t len (enumO 0 xs).toArray) (hw : wantA l σ o = some true) (hd : dstOk E.N o.dst = true) (ht : tElem E.P t = some (e, size, bytes))
    (hz : (tZero E.P e).isSome = true) (hl : xs.length = len) (hsm : len * size ≤ 16777216) (hlm : len ≤ 16777216) (hx : ∀ x ∈ xs, (ev σ x).flat = true ∧ (ev σ x).cells.all CV.solid = true ∧ (ev σ x).cells.length = size) (hc : (xs.map (ev σ)).flatMap AV.cells = cells) (hops : ∀ x ∈ xs, x ∈ o.op.operands) :
    NewX E h l σ o (fun g => .c (.osl g size 0 len)) (.cells e (len * size) (ofL cells)) := by
  subst hc
  refine NewX.of_run hw hd fun σ' ext a w he s => ?_
  have hmap : xs.map (ev σ') = xs.map (ev σ) := List.map_congr_left fun x hx' => he x (hops x hx')
  have hx2 : ∀ x ∈ xs, (ev σ' x).flat = true ∧ (ev σ' x).cells.all CV.solid = true ∧ (ev σ' x).cells.length = size := fun x hx' => by rw [he x (hops x hx')]; exact hx x hx'
  rw [← hmap]
  obtain ⟨hu, inf, hi, hsz, _⟩ := tElem_spec ht
  obtain ⟨z, hz'⟩ := Option.isSome_iff_exists.1 hz
  obtain ⟨i', zv, hi', hzv, _⟩ := tZero_spec hz'
  rw [hi] at hi'
  injection hi' with hi'
  subst hi'
  obtain ⟨hL, hcs⟩ := parts_rep s size xs hx2
  have hnk : w.heap.size ∉ (ext ++ h).keys := fun hm => Nat.lt_irrefl _ (s.klt hm)
  generalize hvs : xs.map a.eval = vs at hL hcs
  have hlv : vs.length = len := by rw [← hvs]; simpa using hl
  have hfl : (vs.flatMap fun v => v.cells.toList).length = len * size := by
    rw [← hlv]
    clear hL hvs hlv
    induction vs with
    | nil => simp
    | cons v vs ih => simp only [List.flatMap_cons, List.length_append, List.length_cons, ih (fun x hx => hcs x (List.mem_cons_of_mem _ hx)), Nat.add_mul]; have := hcs v (by simp); simp [this]; omega
  refine ⟨.slice (some ⟨w.heap.size, 0, none⟩) len len, w.alloc (.cells (vs.flatMap fun v => v.cells.toList).toArray e), ?_, Fr.alloc _ _ _, by simp, ?_, ?_⟩
  · have hm : (Array.map (fun x : Nat × Operand => (x.1, a.eval x.2)) (enumO 0 xs).toArray).toList = enumL 0 vs := by
      rw [← hvs, ← enum_map]; simp
    have hfill : ∀ zc : Array Value, Instr.fill (fun i => some (i * size, size)) ((Array.range (len * size)).map (fun x => zc[x % zc.size]!)) (enumL 0 vs) = some (vs.flatMap fun v => v.cells.toList).toArray := fun zc => by
      rw [fill_seq size vs 0 _ hcs (by simp [hlv])]
      rw [Nat.zero_mul, putL_full _ _ (by simp [hfl])]
    simp only [execOp, hop, Instr.buildSlice, Sem.run_bind, run_underlying hu, Result.andThen_ok, sizeOf, typeInfo, Sem.run_pure]
    simp only [run_program, hi, Result.andThen_ok, Sem.run_pure, hsz]
    rw [if_neg (by omega)]
    rw [hm]
    by_cases h0 : len * size = 0
    · rw [if_pos h0]
      simp only [Sem.run_bind, Sem.run_pure, Result.andThen_ok, hfill]
      rfl
    · rw [if_neg h0]
      simp only [Sem.run_bind, Sem.run_pure, Result.andThen_ok, zeroValue, typeInfo, run_program, hi, hzv, hfill]
      rfl
  · have hr := orep_new (C := E.C) (w := w) (ty := e) (h' := ((w.heap.size, AObj.cells e (len * size) (ofL ((xs.map (ev σ')).flatMap AV.cells))) :: (ext ++ h))) (hL.keep (keeps_alloc hnk))
    have hcl : ((xs.map (ev σ')).flatMap AV.cells).length = len * size := by rw [← hL.length, hfl]
    rw [hcl] at hr
    exact hr
  · exact ⟨len, rfl, Nat.le_refl _, by unfold maxLen; omega, (vs.flatMap fun v => v.cells.toList).toArray, e, heap_alloc_new w _, by simp [hfl]⟩
end
end Go.AI
