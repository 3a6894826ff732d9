/- Texts of one proof, laid one behind the other by a program (merge.py): PTab4, AiMap2, AiMin, AiPush2, AiFh, PTab2. -/
import Derived.Test.YtlpejaefobdajaaGreatM17
import Derived.Test.YtlpejaefobdajaaGreatM20
import Derived.Test.YtlpejaefobdajaaGreatM07
set_option linter.unusedSimpArgs false
set_option linter.unusedVariables false
/- Tables of nodes: Export. No program in sight. -/
namespace Go.PN
open Go.AI Go.Proofs.YtlpejaefobdajaaGreat
/-- The new reference of a reference, when those of rs are out, in this order. -/
def exR (rs : List Int) (r : Int) : Option Int := if r < 2 then some r else if r ∈ rs then some ((rs.idxOf r : Int) + 2) else none
theorem exR_app {rs zs : List Int} {r x : Int} (h : exR rs r = some x) : exR (rs ++ zs) r = some x := by
  unfold exR at h ⊢
  split at h
  · rename_i h2; rw [if_pos h2]; exact h
  · rename_i h2
    rw [if_neg h2]
    split at h
    · rename_i hm
      rw [if_pos (List.mem_append_left _ hm), List.idxOf_append, if_pos hm]
      exact h
    · cases h
theorem exR_take {rs : List Int} {r x : Int} {j : Nat} (h : exR (rs.take j) r = some x) : exR rs r = some x := by
  have := exR_app (zs := rs.drop j) h
  rwa [List.take_append_drop] at this
theorem exR_lt {rs : List Int} {r x : Int} (h0 : 0 ≤ r) (h : exR rs r = some x) : 0 ≤ x ∧ x < rs.length + 2 := by
  unfold exR at h
  split at h
  · injection h with h; omega
  · split at h
    · rename_i hm
      injection h with h
      have := List.idxOf_lt_length_of_mem hm
      omega
    · cases h
theorem exR_inj {rs : List Int} {a b x : Int} (ha : exR rs a = some x) (hb : exR rs b = some x) : a = b := by
  unfold exR at ha hb
  split at ha
  · injection ha with ha
    split at hb
    · injection hb with hb; omega
    · split at hb
      · injection hb with hb; omega
      · cases hb
  · split at ha
    · rename_i h1 hm
      injection ha with ha
      split at hb
      · injection hb with hb; omega
      · split at hb
        · rename_i h2 hm2
          injection hb with hb
          have e : rs.idxOf a = rs.idxOf b := by omega
          have l1 := List.idxOf_lt_length_of_mem hm
          have l2 := List.idxOf_lt_length_of_mem hm2
          have e1 := List.getElem_idxOf l1
          have e2 := List.getElem_idxOf l2
          rw [← e1, ← e2]
          simp only [e]
        · cases hb
    · cases ha
theorem exR_at {rs : List Int} (hn : rs.Nodup) {j : Nat} (hj : j < rs.length) (h2 : 2 ≤ rs[j]) : exR rs rs[j] = some ((j : Int) + 2) := by
  unfold exR
  rw [if_neg (by omega), if_pos (List.getElem_mem hj)]
  have := place_get hn hj
  unfold placeZ at this
  rw [getDZ hj, if_pos (List.getElem_mem hj)] at this
  rw [this]
/-- What has been exported. -/
structure ExOk (ns : List DN) (rs : List Int) (os : List DN) : Prop where
  len : os.length = rs.length
  nd : rs.Nodup
  bd : ∀ r ∈ rs, 2 ≤ r ∧ r < ns.length + 2
  node : ∀ j, j < rs.length → ∃ lo hi, exR (rs.take j) (ns.getD (rs.getD j 0 - 2).toNat dn0).lo = some lo ∧ exR (rs.take j) (ns.getD (rs.getD j 0 - 2).toNat dn0).hi = some hi ∧ os.getD j dn0 = ⟨(ns.getD (rs.getD j 0 - 2).toNat dn0).v, lo, hi⟩
theorem ExOk.nil (ns : List DN) : ExOk ns [] [] := ⟨rfl, List.nodup_nil, fun x hx => absurd hx List.not_mem_nil, fun j hj => absurd hj (Nat.not_lt_zero _)⟩
theorem ExOk.ref {ns : List DN} {rs : List Int} {os : List DN} (h : ExOk ns rs os) {j : Nat} (hj : j < rs.length) : 2 ≤ rs.getD j 0 ∧ rs.getD j 0 < ns.length + 2 := by
  rw [getDZ hj]; exact h.bd _ (List.getElem_mem hj)
theorem ExOk.nsok {o : List Int} {ns : List DN} {rs : List Int} {os : List DN} (ht : TabOk o ns) (h : ExOk ns rs os) : NsOk o.length os := fun j hj => by
  have hj' : j < rs.length := by rw [← h.len]; exact hj
  obtain ⟨lo, hi, e1, e2, e3⟩ := h.node j hj'
  have hb := h.ref hj'
  have hi' : (rs.getD j 0 - 2).toNat < ns.length := by omega
  obtain ⟨v0, v1, _, _, _, _⟩ := (ht _ hi').nk
  obtain ⟨r1, r2⟩ := kids_ref ht hi'
  have b1 := exR_lt r1.1 e1
  have b2 := exR_lt r2.1 e2
  rw [List.length_take] at b1 b2
  rw [e3]
  exact ⟨v0, v1, b1.1, by show lo < j + 2; omega, b2.1, by show hi < j + 2; omega⟩
theorem ExOk.find {ns : List DN} {rs : List Int} {os : List DN} (h : ExOk ns rs os) {r x : Int} (h2 : 2 ≤ r) (e : exR rs r = some x) : ∃ j, j < rs.length ∧ rs.getD j 0 = r ∧ x = 2 + (j : Int) := by
  unfold exR at e
  rw [if_neg (by omega)] at e
  split at e
  · rename_i hm
    injection e with e
    have l := List.idxOf_lt_length_of_mem hm
    refine ⟨_, l, ?_, by omega⟩
    rw [getDZ l]
    exact List.getElem_idxOf l
  · cases e
theorem ExOk.eval {o : List Int} {ns : List DN} {rs : List Int} {os : List DN} (ht : TabOk o ns) (h : ExOk ns rs os) (s : Nat) : ∀ (n : Nat) (r x : Int), x.toNat ≤ n → 0 ≤ r → r < ns.length + 2 → exR rs r = some x → evalD os s x = evalD ns s r := by
  intro n
  induction n with
  | zero =>
    intro r x hn h0 hr e
    have := exR_lt h0 e
    by_cases h2 : r < 2
    · unfold exR at e; rw [if_pos h2] at e; injection e with e; subst e
      rw [evalD_leaf (by omega), evalD_leaf (by omega)]
    · obtain ⟨j, _, _, rfl⟩ := h.find (by omega) e
      omega
  | succ n ih =>
    intro r x hn h0 hr e
    by_cases h2 : r < 2
    · unfold exR at e; rw [if_pos h2] at e; injection e with e; subst e
      rw [evalD_leaf (by omega), evalD_leaf (by omega)]
    · obtain ⟨j, hj, er, rfl⟩ := h.find (by omega) e
      obtain ⟨lo, hi, e1, e2, e3⟩ := h.node j hj
      rw [er] at e1 e2 e3
      have hi' : (r - 2).toNat < ns.length := by omega
      obtain ⟨r1, r2⟩ := kids_ref ht hi'
      have b1 := exR_lt r1.1 e1
      have b2 := exR_lt r2.1 e2
      rw [List.length_take] at b1 b2
      rw [evalD_step (h.nsok ht) (by omega) (by rw [h.len]; omega)]
      unfold kid
      rw [show ((2 : Int) + (j : Int) - 2).toNat = j from by omega, e3]
      rw [evalD_step ht.ns (by omega) hr]
      unfold kid
      dsimp only
      split
      · exact ih _ _ (by omega) r2.1 r2.2 (exR_take e2)
      · exact ih _ _ (by omega) r1.1 r1.2 (exR_take e1)
theorem ExOk.lv {o : List Int} {ns : List DN} {rs : List Int} {os : List DN} (h : ExOk ns rs os) {r x : Int} (e : exR rs r = some x) : lvZ o os x = lvZ o ns r := by
  by_cases h2 : r < 2
  · unfold exR at e; rw [if_pos h2] at e; injection e with e; subst e
    unfold lvZ; rw [if_pos h2, if_pos h2]
  · obtain ⟨j, hj, er, rfl⟩ := h.find (by omega) e
    obtain ⟨lo, hi, e1, e2, e3⟩ := h.node j hj
    unfold lvZ
    rw [if_neg (by omega), if_neg h2, show ((2 : Int) + (j : Int) - 2).toNat = j from by omega, e3, er]
theorem behind_lv {o : List Int} {os : List DN} {root x v : Int} (h : placeZ o v < lvZ o os x) : behindB ⟨o, os, root⟩ x v = true := by
  unfold behindB
  by_cases h2 : x < 2
  · rw [decide_eq_true h2]; rfl
  · unfold lvZ at h
    rw [if_neg h2] at h
    rw [decide_eq_false h2, Bool.false_or]
    exact decide_eq_true h
theorem ExOk.ncode {o : List Int} {ns : List DN} {rs : List Int} {os : List DN} (ht : TabOk o ns) (h : ExOk ns rs os) (root : Int) {j : Nat} (hj : j < os.length) : Go.PN.ncode ⟨o, os, root⟩ j = 0 := by
  have hj' : j < rs.length := by rw [← h.len]; exact hj
  obtain ⟨lo, hi, e1, e2, e3⟩ := h.node j hj'
  have hb := h.ref hj'
  have hi' : (rs.getD j 0 - 2).toNat < ns.length := by omega
  have nd := ht _ hi'
  have nk := h.nsok ht j hj
  rw [e3] at nk
  obtain ⟨v0, v1, l0, l1, g0, g1⟩ := nk
  dsimp only at v0 v1 l0 l1 g0 g1
  unfold Go.PN.ncode
  rw [show (⟨o, os, root⟩ : DG).nodes = os from rfl, e3]
  rw [if_neg (by unfold nrange; dsimp only; omega), if_neg ?_, if_neg ?_, if_neg ?_]
  · intro hm
    obtain ⟨k, hk, hkl, ek⟩ := take_memN.1 hm
    have hk' : k < rs.length := by omega
    obtain ⟨lo', hi'', f1, f2, f3⟩ := h.node k hk'
    rw [f3] at ek
    injection ek with ev el eh
    subst el eh
    have q1 := exR_inj (exR_take f1) (exR_take e1)
    have q2 := exR_inj (exR_take f2) (exR_take e2)
    have hkb := h.ref hk'
    have same : ns.getD (rs.getD k 0 - 2).toNat dn0 = ns.getD (rs.getD j 0 - 2).toNat dn0 := by
      cases hA : ns.getD (rs.getD k 0 - 2).toNat dn0
      cases hB : ns.getD (rs.getD j 0 - 2).toNat dn0
      rw [hA, hB] at q1 q2 ev
      dsimp only at q1 q2 ev
      rw [q1, q2, ev]
    have hne : rs.getD k 0 ≠ rs.getD j 0 := fun e => by
      have p1 := place_get h.nd hk'
      have p2 := place_get h.nd hj'
      rw [e] at p1
      omega
    have hik : (rs.getD k 0 - 2).toNat < ns.length := by omega
    rcases Nat.lt_or_gt_of_ne (show (rs.getD k 0 - 2).toNat ≠ (rs.getD j 0 - 2).toNat from fun e => hne (by omega)) with hl | hl
    · refine nd.new ?_
      rw [← same]
      exact take_memN.2 ⟨_, hl, hik, rfl⟩
    · refine (ht _ hik).new ?_
      rw [same]
      exact take_memN.2 ⟨_, hl, hi', rfl⟩
  · have b1 := nd.bl
    have b2 := nd.bh
    dsimp only
    rw [behind_lv (by rw [h.lv (exR_take e1)]; exact b1), behind_lv (by rw [h.lv (exR_take e2)]; exact b2)]
    simp
  · dsimp only
    intro e
    subst e
    exact nd.ne (exR_inj (exR_take e1) (exR_take e2))
/-- A call of the walk that exports. -/
structure Ex (o : List Int) (ns : List DN) (rs : List Int) (os : List DN) (rs' : List Int) (os' : List DN) (r x : Int) : Prop where
  ok : ExOk ns rs' os'
  pre : ∃ zs, rs' = rs ++ zs
  preo : ∃ ys, os' = os ++ ys
  ref : exR rs' r = some x
  num : ∀ ys, ∀ k, x.toNat ≤ k → numF (os' ++ ys) k x (numsL rs.length) = numsL rs'.length
  below : ∀ z ∈ rs', z ∈ rs ∨ z ≤ r
  len : rs'.length ≤ rs.length + (2 ^ (o.length - lvZ o ns r).toNat - 1)
theorem mem_numsL {n : Nat} {x : Int} : x ∈ numsL n ↔ 2 ≤ x ∧ x < n + 2 := by
  unfold numsL
  rw [List.mem_map]
  constructor
  · rintro ⟨i, hi, rfl⟩
    rw [List.mem_range] at hi
    omega
  · intro h
    exact ⟨(x - 2).toNat, List.mem_range.2 (by omega), by omega⟩
theorem numsL_succ' (n : Nat) : numsL (n + 1) = numsL n ++ [(n : Int) + 2] := by simp [numsL, List.range_succ]
theorem ex_same {o : List Int} {ns : List DN} {rs : List Int} {os : List DN} {r x : Int} (h : ExOk ns rs os) (h0 : 0 ≤ r) (e : exR rs r = some x) : Ex o ns rs os rs os r x :=
  ⟨h, ⟨[], by simp⟩, ⟨[], by simp⟩, e, fun ys k _ => by
    have hx := exR_lt h0 e
    cases k with
    | zero => rfl
    | succ k => rw [numF, if_pos]; rw [mem_numsL]; omega, fun z hz => .inl hz, by omega⟩
theorem ex_node {o : List Int} {ns : List DN} {rs rs1 rs2 : List Int} {os os1 os2 : List DN} {r xl xh : Int} (ht : TabOk o ns) (h2 : 2 ≤ r) (hr : r < ns.length + 2) (hnew : r ∉ rs)
    (a : Ex o ns rs os rs1 os1 (ns.getD (r - 2).toNat dn0).lo xl) (b : Ex o ns rs1 os1 rs2 os2 (ns.getD (r - 2).toNat dn0).hi xh) :
    r ∉ rs2 ∧ Ex o ns rs os (rs2 ++ [r]) (os2 ++ [⟨(ns.getD (r - 2).toNat dn0).v, xl, xh⟩]) r ((rs2.length : Int) + 2) := by
  have hi' : (r - 2).toNat < ns.length := by omega
  have nk := (ht _ hi').nk
  obtain ⟨v0, v1, l0, l1, g0, g1⟩ := nk
  obtain ⟨z1, e1⟩ := a.pre
  obtain ⟨z2, e2⟩ := b.pre
  obtain ⟨y1, f1⟩ := a.preo
  obtain ⟨y2, f2⟩ := b.preo
  have hout : r ∉ rs2 := fun hm => by
    rcases b.below r hm with hm | hm
    · rcases a.below r hm with hm | hm
      · exact hnew hm
      · omega
    · omega
  have hax : exR rs2 (ns.getD (r - 2).toNat dn0).lo = some xl := by rw [e2]; exact exR_app a.ref
  have hxl := exR_lt l0 hax
  have hxh := exR_lt g0 b.ref
  have hlen2 := b.ok.len
  refine ⟨hout, ⟨⟨by simp [hlen2], ?_, fun z hz => ?_, fun j hj => ?_⟩, ⟨z1 ++ z2 ++ [r], by rw [e2, e1]; simp⟩, ⟨y1 ++ y2 ++ [⟨(ns.getD (r - 2).toNat dn0).v, xl, xh⟩], by rw [f2, f1]; simp only [List.append_assoc]⟩, ?_, fun ys k hk => ?_, fun z hz => ?_, ?_⟩⟩
  · exact List.nodup_append.2 ⟨b.ok.nd, by simp, fun a ha c hc => by
      rw [List.mem_singleton] at hc; subst hc; exact fun e => hout (e ▸ ha)⟩
  · rcases List.mem_append.1 hz with hz | hz
    · exact b.ok.bd z hz
    · rw [List.mem_singleton] at hz; subst hz; exact ⟨h2, hr⟩
  · rw [List.length_append, List.length_singleton] at hj
    by_cases hjl : j < rs2.length
    · obtain ⟨lo, hi, q1, q2, q3⟩ := b.ok.node j hjl
      have e : (rs2 ++ [r]).getD j 0 = rs2.getD j 0 := by
        rw [List.getD_eq_getElem?_getD, List.getD_eq_getElem?_getD, List.getElem?_append_left hjl]
      rw [e, List.take_append_of_le_length (by omega)]
      exact ⟨lo, hi, q1, q2, by rw [getD_app (by omega)]; exact q3⟩
    · have hj' : j = rs2.length := by omega
      subst hj'
      have e : (rs2 ++ [r]).getD rs2.length 0 = r := by
        rw [List.getD_eq_getElem?_getD, List.getElem?_append_right (Nat.le_refl _), Nat.sub_self]; rfl
      rw [e, List.take_append_of_le_length (Nat.le_refl _), List.take_length]
      refine ⟨xl, xh, hax, b.ref, ?_⟩
      rw [← hlen2, List.getD_eq_getElem?_getD, List.getElem?_append_right (Nat.le_refl _), Nat.sub_self]; rfl
  · unfold exR
    rw [if_neg (by omega), if_pos (by simp), List.idxOf_append, if_neg hout]
    simp
  · obtain ⟨k', rfl⟩ : ∃ k', k = k' + 1 := ⟨k - 1, by omega⟩
    have hlen : (rs2 ++ [r]).length = rs2.length + 1 := by simp
    have hg : ((os2 ++ [(⟨(ns.getD (r - 2).toNat dn0).v, xl, xh⟩ : DN)]) ++ ys).getD ((rs2.length : Int) + 2 - 2).toNat dn0 = ⟨(ns.getD (r - 2).toNat dn0).v, xl, xh⟩ := by
      rw [show ((rs2.length : Int) + 2 - 2).toNat = os2.length from by omega, List.append_assoc, List.getD_eq_getElem?_getD, List.getElem?_append_right (Nat.le_refl _), Nat.sub_self]; rfl
    have hle : rs.length ≤ rs2.length := by rw [e2, e1]; simp only [List.length_append]; omega
    rw [numF, if_neg (by rw [mem_numsL]; omega), hg]
    dsimp only
    have a1 := a.num (y2 ++ [(⟨(ns.getD (r - 2).toNat dn0).v, xl, xh⟩ : DN)] ++ ys) k' (by omega)
    have b1 := b.num ([(⟨(ns.getD (r - 2).toNat dn0).v, xl, xh⟩ : DN)] ++ ys) k' (by omega)
    have ea : os1 ++ (y2 ++ [(⟨(ns.getD (r - 2).toNat dn0).v, xl, xh⟩ : DN)] ++ ys) = os2 ++ [(⟨(ns.getD (r - 2).toNat dn0).v, xl, xh⟩ : DN)] ++ ys := by rw [f2]; simp
    rw [ea] at a1
    rw [← List.append_assoc] at b1
    rw [a1, b1, hlen, numsL_succ']
  · rcases List.mem_append.1 hz with hz | hz
    · rcases b.below z hz with h | h
      · rcases a.below z h with h | h
        · exact .inl h
        · exact .inr (by omega)
      · exact .inr (by omega)
    · rw [List.mem_singleton] at hz; exact .inr (by omega)
  · have nd := ht _ hi'
    have b1 := nd.bl
    have b2 := nd.bh
    have hlr : lvZ o ns r = placeZ o (ns.getD (r - 2).toNat dn0).v := by unfold lvZ; rw [if_neg (by omega)]
    have ll := lv_le (o := o) (ns := ns) (r := (ns.getD (r - 2).toNat dn0).lo)
    have lh := lv_le (o := o) (ns := ns) (r := (ns.getD (r - 2).toNat dn0).hi)
    have la := a.len
    have lb := b.len
    obtain ⟨q, hq⟩ : ∃ q, (o.length - lvZ o ns r).toNat = q + 1 := ⟨(o.length - lvZ o ns r).toNat - 1, by omega⟩
    have pa : 2 ^ ((o.length : Int) - lvZ o ns (ns.getD (r - 2).toNat dn0).lo).toNat ≤ 2 ^ q := Nat.pow_le_pow_right (by omega) (by omega)
    have pb : 2 ^ ((o.length : Int) - lvZ o ns (ns.getD (r - 2).toNat dn0).hi).toNat ≤ 2 ^ q := Nat.pow_le_pow_right (by omega) (by omega)
    have pq : 0 < 2 ^ q := Nat.pow_pos (by omega)
    rw [hq, Nat.pow_succ, List.length_append, List.length_singleton]
    omega
/-- What is exported is a diagram without error, of the same function. -/
theorem ex_code {o : List Int} {ns : List DN} {rs : List Int} {os : List DN} {r x : Int} (ho : ocode o o.length = 0) (ht : TabOk o ns) (hr : RefOk ns r) (h : Ex o ns [] [] rs os r x) (hl : os.length ≤ 4096) : dcode ⟨o, os, x⟩ = 0 := by
  have hx := exR_lt hr.1 h.ref
  have hlen := h.ok.len
  unfold dcode
  have hz : ∀ (k i : Nat), i + k ≤ os.length → nfirst ⟨o, os, x⟩ i k = 0 := by
    intro k
    induction k with
    | zero => intro i _; rfl
    | succ k ih =>
      intro i hi
      rw [nfirst, if_neg (by rw [h.ok.ncode ht x (by omega)]; simp)]
      exact ih (i + 1) (by omega)
  rw [if_neg (by simpa using ho), if_neg (by simpa using hl), if_neg (by rw [hz _ _ (by simp)]; simp), if_neg (by dsimp only; omega)]
  have hn := h.num [] x.toNat (Nat.le_refl _)
  rw [List.append_nil] at hn
  rw [if_pos]
  show numF os x.toNat x [] = numsL os.length
  rw [hlen, ← hn]
  rfl
theorem ex_tab {o : List Int} {ns : List DN} {rs : List Int} {os : List DN} {r x : Int} (ht : TabOk o ns) (hr : RefOk ns r) (h : Ex o ns [] [] rs os r x) : tabL ⟨o, os, x⟩ = (List.range (2 ^ o.length)).map fun s => evalD ns s r := by
  unfold tabL
  refine List.map_congr_left fun s _ => ?_
  exact h.ok.eval ht s x.toNat r x (Nat.le_refl _) hr.1 hr.2 h.ref
end Go.PN

/- Maps, more: keys that are ints or arrays of three ints; lookups that tell whether the key is there. -/
namespace Go.AI
section
variable {P : Program}
def keyI (n : Int) : Value := .int .i64 n
theorem keyI_ok {kt : TypeId} (ht : P.underlying kt = some (.int .i64)) : KeyOk P kt keyI := by
  refine ⟨fun b a w => ?_, fun a ks es w h => ?_⟩
  · unfold Instr.checkKey keyI
    simp only [Sem.run_bind, run_underlying ht, Result.andThen_ok]
    rfl
  · unfold Instr.findKey
    simp only [Sem.run_bind, run_underlying ht, Result.andThen_ok]
    have hn : ∀ (ks : List Int) (es : List MapEntry) (i : Nat), es.map (·.key) = ks.map keyI → Instr.findNow (.int .i64) (keyI a) es i = some (fAsk a ks es i) := by
      intro ks
      induction ks with
      | nil =>
        intro es i h
        cases es with
        | nil => rfl
        | cons e es => simp at h
      | cons k ks ih =>
        intro es i h
        cases es with
        | nil => simp at h
        | cons e es =>
          simp only [List.map_cons, List.cons.injEq] at h
          simp only [Instr.findNow, fAsk, h.1, keyI, Instr.sameNow, if_true]
          by_cases hk : a = k
          · subst hk; simp
          · have : (a == k) = false := by simpa using hk
            rw [this, if_neg hk]
            exact ih es (i + 1) h.2
    rw [hn ks es 0 h]
    rfl
def key3 (k : Int × Int × Int) : Value := .agg #[.int .i64 k.1, .int .i64 k.2.1, .int .i64 k.2.2]
theorem key3_ok {kt e : TypeId} (ht : P.underlying kt = some (.array 3 e)) (he : P.underlying e = some (.int .i64)) {inf : TypeInfo} (hi : P.info? e = some inf) (hs : inf.size = 1) : KeyOk P kt key3 := by
  have hag : ∀ w, (isAgg e).run P w = .ok false w := fun w => by simp [isAgg, run_underlying he]
  have hsz : ∀ w, (sizeOf e).run P w = .ok 1 w := fun w => by simp [sizeOf, typeInfo, hi, hs]
  have hp : ∀ (a b c : Int) w, (part e #[.int .i64 a, .int .i64 b, .int .i64 c] 0).run P w = .ok (.int .i64 a) w ∧ (part e #[.int .i64 a, .int .i64 b, .int .i64 c] 1).run P w = .ok (.int .i64 b) w ∧ (part e #[.int .i64 a, .int .i64 b, .int .i64 c] 2).run P w = .ok (.int .i64 c) w := fun a b c w => by
    unfold part
    simp only [Sem.run_bind, hag, Result.andThen_ok, Bool.false_eq_true, if_false]
    exact ⟨rfl, rfl, rfl⟩
  have hck : ∀ b n x w, (Instr.checkKey b (n + 1) e (.int .i64 x)).run P w = .ok () w := fun b n x w => by simp [Instr.checkKey, run_underlying he]
  have heq1 : ∀ d x y w, (Op.equalIn (d + 1) e (.int .i64 x) (.int .i64 y)).run P w = .ok (x == y) w := fun d x y w => by simp [Op.equalIn, run_underlying he]
  refine ⟨fun b a w => ?_, fun a ks es w h => ?_⟩
  · obtain ⟨x, y, z⟩ := a
    obtain ⟨p0, p1, p2⟩ := hp x y z w
    show (Instr.checkKey b (9998 + 1 + 1) kt (key3 (x, y, z))).run P w = _
    unfold Instr.checkKey key3
    have hck9 : ∀ x w, (Instr.checkKey b 9999 e (.int .i64 x)).run P w = .ok () w := fun x w => hck b 9998 x w
    simp [run_underlying ht]
    rw [show List.range' 0 3 = [0, 1, 2] from rfl]
    simp [hsz, p0, p1, p2, hck9]
  · have hfeq : ∀ a b w, (Op.equal kt (key3 a) (key3 b)).run P w = .ok (decide (a = b)) w := fun a b w => by
      obtain ⟨x, y, z⟩ := a
      obtain ⟨x', y', z'⟩ := b
      have hp0 := fun a b c w => (hp a b c w).1
      have hp1 := fun a b c w => (hp a b c w).2.1
      have hp2 := fun a b c w => (hp a b c w).2.2
      show (Op.equalIn (9998 + 1 + 1) kt (key3 (x, y, z)) (key3 (x', y', z'))).run P w = _
      unfold Op.equalIn key3
      have heq9 : ∀ x y w, (Op.equalIn 9999 e (.int .i64 x) (.int .i64 y)).run P w = .ok (x == y) w := fun x y w => heq1 9998 x y w
      simp [run_underlying ht, hsz]
      rw [show List.range' 0 3 = [0, 1, 2] from rfl]
      by_cases e0 : x = x' <;> by_cases e1 : y = y' <;> by_cases e2 : z = z' <;> simp [hp0, hp1, hp2, heq9, e0, e1, e2]
    have hn : ∀ e' es', es = e' :: es' → Instr.findNow (.array 3 e) (key3 a) es 0 = none := fun e' es' he' => by
      subst he'; simp [Instr.findNow, Instr.sameNow]
    unfold Instr.findKey
    simp only [Sem.run_bind, run_underlying ht, Result.andThen_ok]
    cases es with
    | nil =>
      cases ks with
      | nil => simp [Instr.findNow, fAsk]
      | cons k ks => simp at h
    | cons e' es' =>
      rw [hn e' es' rfl]
      exact run_findAsking hfeq a ks (e' :: es') 0 w h
end
section
variable {P : Program}
variable {E : Env} {K : List It} {σ σ' : Sl} {h : Heap} {all rest : List Oper} {o : Oper}
/-- v, ok = m[k] -/
theorem aw_lookup2 {α : Type} [DecidableEq α] {Kf : α → Value} {t kt et g : TypeId} {kv : List (α × Value)} {x ky : Operand} {ck : AV} {a : α} {z : Value} (hop : o.op = .lookup t x ky true) (hw : wantA all σ o = some true) (hd : dstOk E.N o.dst = true)
    (ht : tMap E.P t = some (kt, et)) (hK : KeyOk E.P kt Kf) (hz : tZ1 E.P et = some z) (hx : ev σ x = .c (.raw (.map (some g)))) (hg : h.get g = some (.gen (MapI Kf kv))) (hk : ev σ ky = ck) (hka : ∀ S w v, Rep S w ck v → v = Kf a)
    (k : aw E (.ops all rest :: K) (σ.setO o.dst (.tup [.c (cstC ((kvGet a kv).getD z)), .c (.bool (kvGet a kv).isSome)])) h) : aw E (.ops all (o :: rest) :: K) σ h := by
  refine aw_step hw (fun ac w s => ?_) k
  have h1 := ev_rep s x
  rw [hx] at h1
  have h1' : ac.eval x = .map (some g) := h1
  have h2 := ev_rep s ky
  rw [hk] at h2
  have h2' := hka _ _ _ h2
  obtain ⟨ob, hb, es, c, rfl, hes⟩ := s.heap g _ (Heap.get_mem hg)
  have hkeys : es.toList.map (·.key) = (kv.map (·.1)).map Kf := by
    have := congrArg (List.map Prod.fst) hes
    rw [List.map_map, List.map_map] at this
    rw [List.map_map]
    exact this
  have hfind := hK.find a (kv.map (·.1)) es.toList w hkeys
  have hget := fAsk_get (K := Kf) a kv es.toList 0 hes
  refine ⟨.tuple #[(kvGet a kv).getD z, .bool (kvGet a kv).isSome], w, .inl ?_, s.put hd ⟨[_, _], rfl, cstC_rep _ _ _, rfl, trivial⟩⟩
  have hlk : (Instr.lookup t (ac.eval x) (ac.eval ky) true).run E.P w = .ok (.tuple #[(kvGet a kv).getD z, .bool (kvGet a kv).isSome]) w := by
    rw [h1', h2']
    unfold Instr.lookup
    simp only [Sem.run_bind, run_underlying (tMap_spec ht), Result.andThen_ok, runGet hb, Sem.run_pure, hK.check, hfind]
    rw [← hget]
    cases hf : fAsk a (kv.map (·.1)) es.toList 0 with
    | none => simp [tZ1_run hz]
    | some p => obtain ⟨i, v⟩ := p; simp
  simp only [execOp, hop, Sem.run_bind, hlk, Result.andThen_ok]
  rfl
theorem Calm.lookup2 {l : List Oper} {α : Type} [DecidableEq α] {Kf : α → Value} {t kt et g : TypeId} {kv : List (α × Value)} {x ky : Operand} {ck : AV} {a : α} {z : Value} (hop : o.op = .lookup t x ky true) (hw : wantA l σ o = some true) (hd : dstOk E.N o.dst = true)
    (ht : tMap E.P t = some (kt, et)) (hK : KeyOk E.P kt Kf) (hz : tZ1 E.P et = some z) (hx : ev σ x = .c (.raw (.map (some g)))) (hg : h.get g = some (.gen (MapI Kf kv))) (hk : ev σ ky = ck) (hka : ∀ S w v, Rep S w ck v → v = Kf a) :
    Calm E h l σ o (.tup [.c (cstC ((kvGet a kv).getD z)), .c (.bool (kvGet a kv).isSome)]) := by
  refine ⟨hd, fun σ' ac w Q hs s => ?_⟩
  rw [if_pos (s.wanted ((want_same hs).trans hw))]
  have h1 := ev_rep s x
  rw [ev_same (by rw [hop]; simp [Op.operands]) hs, hx] at h1
  have h1' : ac.eval x = .map (some g) := h1
  have h2 := ev_rep s ky
  rw [ev_same (by rw [hop]; simp [Op.operands]) hs, hk] at h2
  have h2' := hka _ _ _ h2
  obtain ⟨ob, hb, es, c, rfl, hes⟩ := s.heap g _ (Heap.get_mem hg)
  have hkeys : es.toList.map (·.key) = (kv.map (·.1)).map Kf := by
    have := congrArg (List.map Prod.fst) hes
    rw [List.map_map, List.map_map] at this
    rw [List.map_map]
    exact this
  have hfind := hK.find a (kv.map (·.1)) es.toList w hkeys
  have hget := fAsk_get (K := Kf) a kv es.toList 0 hes
  have hlk : (Instr.lookup t (ac.eval x) (ac.eval ky) true).run E.P w = .ok (.tuple #[(kvGet a kv).getD z, .bool (kvGet a kv).isSome]) w := by
    rw [h1', h2']
    unfold Instr.lookup
    simp only [Sem.run_bind, run_underlying (tMap_spec ht), Result.andThen_ok, runGet hb, Sem.run_pure, hK.check, hfind]
    rw [← hget]
    cases hf : fAsk a (kv.map (·.1)) es.toList 0 with
    | none => simp [tZ1_run hz]
    | some p => obtain ⟨i, v⟩ := p; simp
  have hrun : (execOp ac.eval o).run E.P w = .ok (.value (.tuple #[(kvGet a kv).getD z, .bool (kvGet a kv).isSome])) w := by
    simp only [execOp, hop, Sem.run_bind, hlk, Result.andThen_ok]
    rfl
  unfold Oper.wp
  rw [hrun]
  exact s.put hd ⟨[_, _], rfl, cstC_rep _ _ _, rfl, trivial⟩
theorem drk_lookup2 {l : List Oper} {n : Nat} {α : Type} [DecidableEq α] {Kf : α → Value} {t kt et g : TypeId} {kv : List (α × Value)} {x ky : Operand} {ck : AV} {a : α} {z : Value} (hop : o.op = .lookup t x ky true) (hw : wantA l σ o = some true) (hd : dstOk E.N o.dst = true)
    (ht : tMap E.P t = some (kt, et)) (hK : KeyOk E.P kt Kf) (hz : tZ1 E.P et = some z) (hx : ev σ x = .c (.raw (.map (some g)))) (hg : h.get g = some (.gen (MapI Kf kv))) (hk : ev σ ky = ck) (hka : ∀ S w v, Rep S w ck v → v = Kf a)
    (k : DrK E h l K n rest (σ.setO o.dst (.tup [.c (cstC ((kvGet a kv).getD z)), .c (.bool (kvGet a kv).isSome)]))) : DrK E h l K (n + 1) (o :: rest) σ := drk_cons (Calm.lookup2 hop hw hd ht hK hz hx hg hk hka) k
end
end Go.AI

/- The builtin min of three ints. -/
namespace Go.AI
section
variable {E : Env} {K : List It} {σ σ' : Sl} {h : Heap} {all rest : List Oper} {o : Oper}
theorem aw_min3 {x y z : Operand} {ts : Array TypeId} {a b c : Int} (hop : o.op = .call { callee := .builtin .min, args := #[x, y, z], argTypes := ts }) (hw : wantA all σ o = some true) (hd : dstOk E.N o.dst = true)
    (hx : ev σ x = .c (.int .i64 a)) (hy : ev σ y = .c (.int .i64 b)) (hz : ev σ z = .c (.int .i64 c)) (k : aw E (.ops all rest :: K) (σ.setO o.dst (.c (.int .i64 (min a (min b c))))) h) : aw E (.ops all (o :: rest) :: K) σ h := by
  refine aw_step hw (fun ac w s => ?_) k
  have h1 : ac.eval x = .int .i64 a := by have := ev_rep s x; rw [hx] at this; exact this
  have h2 : ac.eval y = .int .i64 b := by have := ev_rep s y; rw [hy] at this; exact this
  have h3 : ac.eval z = .int .i64 c := by have := ev_rep s z; rw [hz] at this; exact this
  have hrun : (execOp ac.eval o).run E.P w = .ok (.value (.int .i64 (min a (min b c)))) w := by
    simp only [execOp, hop, resolve, invoke, Go.builtin, Sem.run_bind, Sem.run_pure, Result.andThen_ok, List.map_toArray, List.map_cons, List.map_nil, h1, h2, h3]
    have hm : (if c < (if b < a then b else a) then c else (if b < a then b else a)) = min a (min b c) := by
      simp only [Int.min_def]; split <;> split <;> (try split) <;> (try split) <;> omega
    simp [Builtin.min_, Builtin.min2, hm]
  exact ⟨_, w, .inl hrun, s.put hd rfl⟩
end
end Go.AI

/- out = append(out, x) where the new element's slice has been made before; new slices in drawn regions. -/
namespace Go.AI
section
variable {E : Env} {K : List It} {σ σ' : Sl} {h : Heap} {all l rest : List Oper} {o o1 o2 : Oper}
theorem aw_push2 {t e size bytes n d1 s gt : Nat} {z : List CV} {og : Option Nat} {f f' : Nat → CV} {pre : Heap} {v : AV} (hop2 : o2.op = .call { callee := .builtin .append, args := #[.tmp s, .tmp d1], argTypes := #[t, t] })
    (hg2 : o2.guard = none) (hd2 : dstOk E.N o2.dst = true)
    (ht : tElem E.P t = some (e, size, bytes)) (hz : tZero E.P e = some z) (hzl : z.length = size) (hs0 : 0 < size) (hsz : size ≤ 16777216)
    (hevs : ev σ (.tmp s) = .c (gs og size n)) (hev1 : ev σ (.tmp d1) = .c (.osl gt size 0 1)) (hog : og = none → n = 0) (hok : okPart v = true) (hvl : v.cells.length = size) (hh : h = (gt, .cells e (1 * size) (ofL v.cells)) :: (pre ++ gh og e (n * size) f))
    (h63 : n + 1 ≤ maxLen) (hby : (n + 1) * bytes ≤ 140737488355328) (hf : ∀ j, j < (n + 1) * size → appF f (n * size) (ofL v.cells) j = f' j)
    (kk : ∀ g', g' ∉ pre.keys → aw E (.ops all rest :: K) ((σ.set d1 (.c .any)).setO o2.dst (.c (gs (some g') size (n + 1)))) (pre ++ gh (some g') e ((n + 1) * size) f')) : aw E (.ops all (o2 :: rest) :: K) σ h := by
  subst hh
  obtain ⟨ok1, ok2⟩ := okPart_spec hok
  have hw2 : ∀ σ2, wantA all σ2 o2 = some true := fun σ2 => by unfold wantA; rw [hg2]
  have hsrc : ∀ h0 : Heap, Src ((gt, .cells e (1 * size) (ofL v.cells)) :: h0) size (.osl gt size 0 1) 1 (ofL v.cells) := fun h0 => by
    refine .osl (f' := ofL v.cells) (m := 1 * size) (ty := e) (by simp [Heap.get]) (by omega) (fun j _ => by rw [Nat.zero_add])
  have hle : ∀ (B : AV) (g' : Nat), Sl.le ((σ.set d1 (.c .any)).setO o2.dst B) (σ.setO o2.dst B) := fun B g' t' => by
    rw [setO_get, setO_get]
    by_cases e1 : o2.dst = some t'
    · rw [if_pos e1, if_pos e1]; exact .inr rfl
    · rw [if_neg e1, if_neg e1]
      simp only [Sl.get_set]
      by_cases e2 : d1 = t'
      · rw [if_pos e2]; exact .inl rfl
      · rw [if_neg e2]; exact .inr rfl
  have hkp : ∀ g' : Nat, g' ∉ Heap.keys ((gt, .cells e (1 * size) (ofL v.cells)) :: pre) → g' ∉ pre.keys := fun g' hg' hm => hg' (by simp only [Heap.keys, List.map_cons, List.mem_cons]; exact .inr hm)
  have hperm : ∀ g' : Nat, (pre ++ gh (some g') e ((n + 1) * size) f').Sublist ((pre ++ [(g', .cells e ((n + 1) * size) f')])) := fun g' => List.Sublist.refl _
  cases og with
  | none =>
    have hn0 : n = 0 := hog rfl
    subst hn0
    refine aw_appendN (cx := .osl gt size 0 1) (k := 1) (f2 := ofL v.cells) hop2 (hw2 _) hd2 ht hz hzl hs0 hevs hev1 (hsrc _) (by omega) (by omega) (by omega) fun g' hg' => ?_
    refine aw_conv1 (f' := f') (fun j hj => ?_) ?_
    · have := hf j (by omega)
      rw [← this]; simp [appF]
    · have hnew : g' ∉ pre.keys := fun hm => hg' (by simp only [Heap.keys, List.map_cons, List.mem_cons, gh, List.append_nil]; exact .inr hm)
      refine aw_perm (h' := (gt, .cells e (1 * size) (ofL v.cells)) :: (pre ++ [(g', .cells e (1 * size) f')])) ?_ ?_
      · have : (pre ++ gh none e (0 * size) f) = pre := by simp [gh]
        rw [this]
        refine (List.Perm.swap _ _ _).trans (List.Perm.cons _ ?_)
        exact (List.perm_append_singleton _ _).symm
      · refine aw_weak (hle _ g') (List.Sublist.cons _ (List.Sublist.refl _)) ?_
        have := kk g' hnew
        simpa [gh, gs] using this
  | some g =>
    refine aw_nd fun hnd => ?_
    have hnp : g ∉ pre.keys := fun hm => by
      simp only [Heap.keys, gh, List.map_cons, List.map_append, List.map_nil, List.nodup_cons] at hnd
      have := (List.nodup_append.1 hnd.2).2.2 g hm g (by simp)
      exact this rfl
    have hgtg : gt ≠ g := fun e => by
      subst e
      simp [Heap.keys, gh] at hnd
    refine aw_append (cx := .osl gt size 0 1) (k := 1) (f2 := ofL v.cells) (g := g) (m := n * size) (f := f) (h2 := (gt, .cells e (1 * size) (ofL v.cells)) :: pre) hop2 (hw2 _) hd2 ht hz hzl hs0 hevs ?_ (Nat.le_refl _) hev1 (hsrc _) ?_ (by omega) h63 hby ?_ fun g' hg' => ?_
    · show Heap.get ((gt, _) :: (pre ++ [(g, _)])) g = _
      simp only [Heap.get, if_neg hgtg]
      exact Heap.get_app hnp
    · intro j hj
      have hjl : j < v.cells.length := by omega
      rw [ofL_get v.cells j v.cells[j] (List.getElem?_eq_getElem hjl)]
      exact List.all_eq_true.1 ok2 _ (List.getElem_mem hjl)
    · show Heap.del ((gt, _) :: (pre ++ [(g, _)])) g = _
      rw [Heap.del_ne hgtg, Heap.del_app hnp]
    · refine aw_conv1 (f' := f') hf ?_
      refine aw_perm (h' := (gt, .cells e (1 * size) (ofL v.cells)) :: (pre ++ [(g', .cells e ((n + 1) * size) f')])) ?_ ?_
      · refine (List.Perm.swap _ _ _).trans (List.Perm.cons _ ?_)
        exact (List.perm_append_singleton _ _).symm
      · refine aw_weak (hle _ g') (List.Sublist.cons _ (List.Sublist.refl _)) ?_
        exact kk g' (hkp g' hg')

theorem NewX.buildSlice {t e size bytes len : Nat} {xs : List Operand} {cells : List CV} (hop : o.op = .buildSlice t len (enumO 0 xs).toArray) (hw : wantA l σ o = some true) (hd : dstOk E.N o.dst = true) (ht : tElem E.P t = some (e, size, bytes))
    (hz : (tZero E.P e).isSome = true) (hl : xs.length = len) (hsm : len * size ≤ 16777216) (hlm : len ≤ 16777216) (hx : ∀ x ∈ xs, (ev σ x).flat = true ∧ (ev σ x).cells.all CV.solid = true ∧ (ev σ x).cells.length = size) (hc : (xs.map (ev σ)).flatMap AV.cells = cells) (hops : ∀ x ∈ xs, x ∈ o.op.operands) :
    NewX E h l σ o (fun g => .c (.osl g size 0 len)) (.cells e (len * size) (ofL cells)) := by
  subst hc
  refine NewX.of_run hw hd fun σ' ext a w he s => ?_
  have hmap : xs.map (ev σ') = xs.map (ev σ) := List.map_congr_left fun x hx' => he x (hops x hx')
  have hx2 : ∀ x ∈ xs, (ev σ' x).flat = true ∧ (ev σ' x).cells.all CV.solid = true ∧ (ev σ' x).cells.length = size := fun x hx' => by rw [he x (hops x hx')]; exact hx x hx'
  rw [← hmap]
  obtain ⟨hu, inf, hi, hsz, _⟩ := tElem_spec ht
  obtain ⟨z, hz'⟩ := Option.isSome_iff_exists.1 hz
  obtain ⟨i', zv, hi', hzv, _⟩ := tZero_spec hz'
  rw [hi] at hi'
  injection hi' with hi'
  subst hi'
  obtain ⟨hL, hcs⟩ := parts_rep s size xs hx2
  have hnk : w.heap.size ∉ (ext ++ h).keys := fun hm => Nat.lt_irrefl _ (s.klt hm)
  generalize hvs : xs.map a.eval = vs at hL hcs
  have hlv : vs.length = len := by rw [← hvs]; simpa using hl
  have hfl : (vs.flatMap fun v => v.cells.toList).length = len * size := by
    rw [← hlv]
    clear hL hvs hlv
    induction vs with
    | nil => simp
    | cons v vs ih => simp only [List.flatMap_cons, List.length_append, List.length_cons, ih (fun x hx => hcs x (List.mem_cons_of_mem _ hx)), Nat.add_mul]; have := hcs v (by simp); simp [this]; omega
  refine ⟨.slice (some ⟨w.heap.size, 0, none⟩) len len, w.alloc (.cells (vs.flatMap fun v => v.cells.toList).toArray e), ?_, Fr.alloc _ _ _, by simp, ?_, ?_⟩
  · have hm : (Array.map (fun x : Nat × Operand => (x.1, a.eval x.2)) (enumO 0 xs).toArray).toList = enumL 0 vs := by
      rw [← hvs, ← enum_map]; simp
    have hfill : ∀ zc : Array Value, Instr.fill (fun i => some (i * size, size)) ((Array.range (len * size)).map (fun x => zc[x % zc.size]!)) (enumL 0 vs) = some (vs.flatMap fun v => v.cells.toList).toArray := fun zc => by
      rw [fill_seq size vs 0 _ hcs (by simp [hlv])]
      rw [Nat.zero_mul, putL_full _ _ (by simp [hfl])]
    simp only [execOp, hop, Instr.buildSlice, Sem.run_bind, run_underlying hu, Result.andThen_ok, sizeOf, typeInfo, Sem.run_pure]
    simp only [run_program, hi, Result.andThen_ok, Sem.run_pure, hsz]
    rw [if_neg (by omega)]
    rw [hm]
    by_cases h0 : len * size = 0
    · rw [if_pos h0]
      simp only [Sem.run_bind, Sem.run_pure, Result.andThen_ok, hfill]
      rfl
    · rw [if_neg h0]
      simp only [Sem.run_bind, Sem.run_pure, Result.andThen_ok, zeroValue, typeInfo, run_program, hi, hzv, hfill]
      rfl
  · have hr := orep_new (C := E.C) (w := w) (ty := e) (h' := ((w.heap.size, AObj.cells e (len * size) (ofL ((xs.map (ev σ')).flatMap AV.cells))) :: (ext ++ h))) (hL.keep (keeps_alloc hnk))
    have hcl : ((xs.map (ev σ')).flatMap AV.cells).length = len * size := by rw [← hL.length, hfl]
    rw [hcl] at hr
    exact hr
  · exact ⟨len, rfl, Nat.le_refl _, by unfold maxLen; omega, (vs.flatMap fun v => v.cells.toList).toArray, e, heap_alloc_new w _, by simp [hfl]⟩
end
end Go.AI

/- Contracts, more: weaker ends; calls of function values in drawn regions; blocks that are apart. -/
namespace Go.AI
theorem permL {α : Type} (l : List α) (is js : List Nat) (h : is.Perm js) : (is.filterMap fun i => l[i]?).Perm (js.filterMap fun i => l[i]?) := h.filterMap _
theorem eI {P : Prop} (k : P := by (repeat' first|exact has0_nil|refine has0_cons ?_ ?_)<;>simp) : P := k
theorem Fh.mono {P : Program} {f : FuncId} {hc : Heap} {args : List AV} {Q Q' : AV → Heap → Prop} (hf : Fh P f hc args Q) (h : ∀ r h', Q r h' → Q' r h') : Fh P f hc args Q' :=
  ⟨hf.1, fun C vs h1 h2 h3 h4 => (hf.2 C vs h1 h2 h3 h4).mono (by
    rintro e w ⟨v, r, h', he, hq, rest⟩
    exact ⟨v, r, h', he, h _ _ hq, rest⟩)⟩
def neA (a : Nat) : List Nat → Prop
  | [] => True
  | b :: l => ((a = b) = False ∧ (b = a) = False) ∧ neA a l
def ndP : List Nat → Prop
  | [] => True
  | a :: l => neA a l ∧ ndP l
theorem neA_of {a : Nat} : ∀ {l : List Nat}, a ∉ l → neA a l
  | [], _ => trivial
  | b :: l, h => by
    rw [List.mem_cons, not_or] at h
    exact ⟨⟨eq_false h.1, eq_false fun e => h.1 e.symm⟩, neA_of h.2⟩
theorem ndP_of : ∀ {l : List Nat}, l.Nodup → ndP l
  | [], _ => trivial
  | a :: l, h => by
    rw [List.nodup_cons] at h
    exact ⟨neA_of h.1, ndP_of h.2⟩
section
variable {E : Env} {K : List It} {l : List Oper} {FP : Heap} {σ σ' : Sl} {h : Heap} {o : Oper} {i : Nat} {cs : List (Nat × Nat)}
/-- A call of a function value that is handed blocks. -/
theorem cw_callhv {FP' : Heap} {m : Nat} {f : FuncId} {x : Operand} {gs : List Nat} {xs : List Operand} {ts : Array TypeId} {hc hr : Heap} {args : List AV} {Q : AV → Heap → Prop} (ho : l[i]? = some o) (hf : Fh E.P f hc (args ++ gs.map fun g => .c (.optr g 0)) Q) (hop : o.op = .call { callee := .value x, args := xs.toArray, argTypes := ts }) (hw : wantA l σ o = some true) (hd : dstOk E.N o.dst = true) (hx : ev σ x = .c (fnC f gs))
    (hp : h.Perm (hc ++ hr)) (le : LeA [] (xs.map (ev σ)) args) (hFP : ∀ r h', Q r h' → Has0 FP' (h' ++ hr)) (k : ∀ r h', Q r h' → (∀ g ∈ h'.keys, g ∉ hr.keys) → CW E l K FP' cs (σ.setO o.dst r) (h' ++ hr)) (hm : m = 2 ∨ m = 1 ∧ FP' = FP := by first | exact .inl rfl | exact .inr ⟨rfl, rfl⟩) : CW E l K FP ((i, m) :: cs) σ h := by
  refine .pin ho hm (R := fun r h2 => ∃ h', Q r h' ∧ (∀ g ∈ h'.keys, g ∉ hr.keys) ∧ h2 = h' ++ hr) (fun σ' K hs => ?_) ?_ ?_
  · have he : xs.map (ev σ') = xs.map (ev σ) := evs_same (fun x hx => by rw [hop]; simp [Op.operands, Call.operands, hx]) hs
    exact aw_callhv hf hop ((want_same hs).trans hw) hd ((ev_same (by rw [hop]; simp [Op.operands, Call.operands]) hs).trans hx) hp (by rw [he]; exact le) fun r h' hq hfr => aw_ops_nil (aw_stop ⟨r, ⟨h', hq, hfr, rfl⟩, rfl⟩)
  · rintro r h2 ⟨h', hq, _, rfl⟩; exact hFP r h' hq
  · rintro r h2 ⟨h', hq, hfr, rfl⟩; exact k r h' hq hfr
/-- An entry of a map literal. -/
theorem aw_insNew {rest : List Oper} {α : Type} [DecidableEq α] {Kf : α → Value} {t kt et g : TypeId} {kv : List (α × Value)} {x ky vl : Operand} {ck cv : AV} {a : α} {v : Value} (hop : o.op = .insert t x ky vl) (hdn : o.dst = none) (hw : wantA l σ o = some true)
    (ht : tMap E.P t = some (kt, et)) (hK : KeyOk E.P kt Kf) (hx : ev σ x = .c (.raw (.map (some g)))) (hg : h.get g = some (.gen (MapI Kf kv))) (hk : ev σ ky = ck) (hka : ∀ S w u, Rep S w ck u → u = Kf a) (hv : ev σ vl = cv) (hva : ∀ S w u, Rep S w cv u → u = v)
    (hnew : kvGet a kv = none) {h' : Heap} (hh : h.set g (.gen (MapI Kf (kv ++ [(a, v)]))) = h') (k : aw E (.ops l rest :: K) σ h') : aw E (.ops l (o :: rest) :: K) σ h := by
  subst hh
  refine aw_step hw (fun ac w s => ?_) k
  have h1 := ev_rep s x
  rw [hx] at h1
  have h1' : ac.eval x = .map (some g) := h1
  have h2 := ev_rep s ky
  rw [hk] at h2
  have h2' := hka _ _ _ h2
  have h3 := ev_rep s vl
  rw [hv] at h3
  have h3' := hva _ _ _ h3
  obtain ⟨ob, hb, es, c, rfl, hes⟩ := s.heap g _ (Heap.get_mem hg)
  have hkeys : es.toList.map (·.key) = (kv.map (·.1)).map Kf := by
    have := congrArg (List.map Prod.fst) hes
    rw [List.map_map, List.map_map] at this
    rw [List.map_map]
    exact this
  have hfind := hK.find a (kv.map (·.1)) es.toList w hkeys
  have hget := fAsk_get (K := Kf) a kv es.toList 0 hes
  have hnone : fAsk a (kv.map (·.1)) es.toList 0 = none := by
    cases hf : fAsk a (kv.map (·.1)) es.toList 0 with
    | none => rfl
    | some p => rw [hf, hnew] at hget; cases hget
  have hgl : g < w.heap.size := (Array.getElem?_eq_some_iff.1 hb).1
  let w' : World := { w with heap := w.heap.setIfInBounds g (.map (es.push { key := Kf a, val := v, born := c }) (c + 1)) }
  have hrun : (Instr.mapUpdate t (ac.eval x) (ac.eval ky) (ac.eval vl)).run E.P w = .ok () w' := by
    rw [h1', h2', h3']
    unfold Instr.mapUpdate
    simp only [Sem.run_bind, run_underlying (tMap_spec ht), Result.andThen_ok, runGet hb, hK.check, hfind, hnone, runSet _ hb]
    rfl
  refine ⟨undef, w', .inr ⟨?_, rfl⟩, ?_⟩
  · simp only [execOp, hop, Sem.run_bind, hrun, Result.andThen_ok]
    rfl
  · rw [hdn]
    have hfr : Fr (fun b => b = g) w w' := by
      refine ⟨rfl, rfl, rfl, by simp [w'], fun b _ hne => ?_, fun g' m hh => ?_⟩
      · simp only [w']; rw [Array.getElem?_setIfInBounds_ne (fun e => hne e.symm)]
      · obtain ⟨cs, ty, hc, hs⟩ := hh
        refine ⟨cs, ty, ?_, hs⟩
        have hne : g' ≠ g := fun e => by rw [e, hb] at hc; cases hc
        simp only [w']
        rw [Array.getElem?_setIfInBounds_ne (fun e => hne e.symm)]; exact hc
    refine s.setObj hg hfr ⟨_, by simp only [w']; rw [Array.getElem?_setIfInBounds_self_of_lt hgl], _, _, rfl, ?_⟩
    simp only [Array.toList_push, List.map_append, List.map_cons, List.map_nil, hes]
/-- m[k] = v, a new key. -/
theorem cw_mapNew {FP' : Heap} {m : Nat} {α : Type} [DecidableEq α] {Kf : α → Value} {t kt et g : TypeId} {kv : List (α × Value)} {x ky vl : Operand} {ck cv : AV} {a : α} {v : Value} (ho : l[i]? = some o) (hop : o.op = .mapUpdate t x ky vl) (hdn : o.dst = none) (hw : wantA l σ o = some true)
    (ht : tMap E.P t = some (kt, et)) (hK : KeyOk E.P kt Kf) (hx : ev σ x = .c (.raw (.map (some g)))) (hg : h.get g = some (.gen (MapI Kf kv))) (hk : ev σ ky = ck) (hka : ∀ S w u, Rep S w ck u → u = Kf a) (hv : ev σ vl = cv) (hva : ∀ S w u, Rep S w cv u → u = v)
    (hnew : kvGet a kv = none) {h' : Heap} (hh : h.set g (.gen (MapI Kf (kv ++ [(a, v)]))) = h') (hFP : Has0 FP' h') (k : CW E l K FP' cs σ h') (hm : m = 2 ∨ m = 1 ∧ FP' = FP := by first | exact .inl rfl | exact .inr ⟨rfl, rfl⟩) : CW E l K FP ((i, m) :: cs) σ h := by
  have he : ∀ {σ' : Sl}, (∀ t ∈ looks l o, σ'.get t = σ.get t) → ∀ z ∈ [x, ky, vl], ev σ' z = ev σ z := fun hs z hz => ev_same (by rw [hop]; simpa [Op.operands] using hz) hs
  refine .pin ho hm (R := fun _ h2 => h2 = h') (fun σ' K hs => ?_) ?_ ?_
  · exact aw_mapNew hop hdn ((want_same hs).trans hw) ht hK ((he hs x (by simp)).trans hx) hg ((he hs ky (by simp)).trans hk) hka ((he hs vl (by simp)).trans hv) hva hnew hh (aw_ops_nil (aw_stop ⟨.c .any, rfl, by rw [hdn]; rfl⟩))
  · rintro _ _ rfl; exact hFP
  · rintro _ _ rfl; rw [hdn]; exact k
/-- The order of the blocks does not matter. -/
theorem cw_perm {h' : Heap} (hp : h.Perm h') (k : CW E l K FP cs σ h') : CW E l K FP cs σ h := by
  induction cs generalizing σ h h' with
  | nil =>
    cases k with
    | nil k => exact .nil (aw_perm hp k)
  | cons c cs ih =>
    cases k with
    | flt ho hf k => exact .flt ho hf (ih hp k)
    | pin ho hmk hpn hfp k => exact .pin ho hmk (fun σ' K hs => aw_perm hp (hpn σ' K hs)) hfp k
theorem NewX.makeMap {α : Type} {Kf : α → Value} {t : TypeId} (hop : o.op = .makeMap t none) (hw : wantA l σ o = some true) (hd : dstOk E.N o.dst = true) : NewX E h l σ o (fun g => .c (.raw (.map (some g)))) (.gen (MapI Kf [])) := by
  refine NewX.of_run hw hd fun σ' ext a w he s => ?_
  refine ⟨.map (some w.heap.size), w.alloc (.map #[] 0), ?_, Fr.alloc _ _ _, by simp, ⟨_, heap_alloc_new w _, _, _, rfl, rfl⟩, rfl⟩
  simp only [execOp, hop]
  rfl
theorem fill_congr {f g : Nat → Option (Nat × Nat)} : ∀ (vs : List (Nat × Value)) (us : Array Value), (∀ p ∈ vs, g p.1 = f p.1) → Instr.fill g us vs = Instr.fill f us vs
  | [], _, _ => rfl
  | (i, v) :: vs, us, h => by
    simp only [Instr.fill]
    rw [h (i, v) (List.mem_cons_self ..)]
    cases f i with
    | none => rfl
    | some p =>
      simp only
      rw [fill_congr vs _ fun p hp => h p (List.mem_cons_of_mem _ hp)]
def arrFl (n s : Nat) : List (Nat × Nat) := (List.range n).map fun i => (i * s, s)
/-- An array literal. -/
theorem buildArr_ok {P : Program} {ρ : Operand → AV} {t el : TypeId} {n s : Nat} {ag : Bool} {ps : List (Nat × Operand)} {out z : List CV} (hu : P.underlying t = some (.array n el)) (hsz : tSz P el = some (ag, s)) (hz : tZero P t = some z) (hf : fillC (arrFl n s) z (mapCells ρ ps) = some out) (hps : ∀ p ∈ ps, p.1 < n) (hreq : okParts ρ ps = true) :
    POk P h ρ (.build t ps.toArray) (.agg out) := by
  intro S w e hS ho _
  obtain ⟨i, zv, hi, hzv, rfl⟩ := tZero_spec hz
  have hreq' := okParts_spec hreq
  rw [mapCells_eq] at hf
  obtain ⟨us', h1, h2⟩ := fillC_ok (S := S) (w := w) (arrFl n s) (ps.map fun p => (p.1, (ρ p.2).cells)) (ps.map fun p => (p.1, e p.2)) (zv.cells.toList.map cstC) zv.cells out (by simp)
    (fun j p q hp hq => by
      rw [List.getElem?_map] at hp hq
      cases hj : ps[j]? with
      | none => rw [hj] at hp; cases hp
      | some y =>
        rw [hj] at hp hq
        simp only [Option.map_some, Option.some.injEq] at hp hq
        subst hp
        subst hq
        have hm : y ∈ ps := List.mem_of_getElem? hj
        obtain ⟨hnt, hsol⟩ := hreq' y hm
        exact (rep_cells hnt hsol (ho y.2 (by simp only [Op.operands, List.mem_toArray, List.mem_map]; exact ⟨y, hm, rfl⟩))).1)
    (cstL_rep S w _) hf
  refine ⟨.agg us', fun o hop => ?_, us'.toList, by simp, h2⟩
  have hmap : (Array.map (fun x : Nat × Operand => (x.1, e x.2)) ps.toArray).toList = ps.map fun p => (p.1, e p.2) := by simp
  have hfc : Instr.fill (fun i => some (i * s, s)) zv.cells (ps.map fun p => (p.1, e p.2)) = some us' := by
    rw [← h1]
    refine fill_congr _ _ fun p hp => ?_
    obtain ⟨q, hq, rfl⟩ := List.mem_map.1 hp
    have := hps q hq
    simp [arrFl, this]
  simp only [execOp, hop, Instr.build, Sem.run_bind, zeroValue, typeInfo, run_program, hi, hzv, Result.andThen_ok, Sem.run_pure, run_underlying hu, (tSz_run hsz w).2]
  rw [hmap, hfc]
  rfl
end
end Go.AI

/- What Choose comes to: the step, with no program in sight. -/
namespace Go.PN
open Go.AI
/-- What a call of Choose has come to. -/
structure ChP (o : List Int) (ns : List DN) (mm : Mem3) (c a b L : Int) (k : Nat) (ns' : List DN) (mm' : Mem3) (r : Int) : Prop where
  lat : Later o ns ns' (2 ^ k - 1)
  mem : MemOk o ns' mm'
  mlen : mm'.length ≤ mm.length + (2 ^ k - 1)
  mnew : ∀ e ∈ mm', e ∈ mm ∨ L ≤ lv3 o ns' e.1
  ref : RefOk ns' r
  lv : L ≤ lvZ o ns' r
  sem : ∀ s, evalD ns' s r = if evalD ns s c then evalD ns s a else evalD ns s b
theorem ChP.same {o : List Int} {ns : List DN} {mm : Mem3} {c a b L : Int} {k : Nat} {r : Int} (ht : TabOk o ns) (hm : MemOk o ns mm) (hr : RefOk ns r) (hl : L ≤ lvZ o ns r) (hs : ∀ s, evalD ns s r = if evalD ns s c then evalD ns s a else evalD ns s b) : ChP o ns mm c a b L k ns mm r :=
  ⟨Later.refl ht _, hm, by omega, fun e he => .inl he, hr, hl, hs⟩
theorem ChP.step {o : List Int} {ns ns1 ns2 : List DN} {mm mm1 mm2 : Mem3} {c a b L lo hi : Int} {k : Nat} (hmem : ∀ v : Int, 0 ≤ v → v < o.length → v ∈ o) (hpm : ∀ i : Nat, i < o.length → 0 ≤ o.getD i 0 ∧ o.getD i 0 < o.length ∧ placeZ o (o.getD i 0) = i)
    (ht : TabOk o ns) (hc : RefOk ns c) (ha : RefOk ns a) (hb : RefOk ns b) (h0 : 0 ≤ L) (hL : L < o.length) (hl : lv3 o ns (c, a, b) = L)
    (h1 : ChP o ns mm (kidsF o ns c L).1 (kidsF o ns a L).1 (kidsF o ns b L).1 (L + 1) k ns1 mm1 lo) (h2 : ChP o ns1 mm1 (kidsF o ns c L).2 (kidsF o ns a L).2 (kidsF o ns b L).2 (L + 1) k ns2 mm2 hi) :
    ChP o ns mm c a b L (k + 1) (mkF ns2 (o.getD L.toNat 0) lo hi).1 (mm2 ++ [((c, a, b), (mkF ns2 (o.getD L.toNat 0) lo hi).2)]) (mkF ns2 (o.getD L.toNat 0) lo hi).2 := by
  unfold lv3 at hl
  simp only at hl
  obtain ⟨v0, v1, vp⟩ := hpm L.toNat (by omega)
  have k1 := kids_ok ht hmem hc h0 hL (by omega)
  have k2 := kids_ok ht hmem ha h0 hL (by omega)
  have k3 := kids_ok ht hmem hb h0 hL (by omega)
  have hlo := h2.lat.lv h1.ref
  have m := mk_ok h2.lat.tab v0 v1 (h2.lat.ref h1.ref) h2.ref (by have := h1.lv; omega) (by have := h2.lv; omega)
  obtain ⟨m1, m2, m3, m4⟩ := m
  have hp : 2 ^ (k + 1) = 2 ^ k + 2 ^ k := by rw [Nat.pow_succ]; omega
  have hk : 0 < 2 ^ k := Nat.pow_pos (by omega)
  have l12 : Later o ns ns2 (2 ^ k - 1 + (2 ^ k - 1)) := h1.lat.trans h2.lat (Nat.le_refl _)
  have l13 : Later o ns (mkF ns2 (o.getD L.toNat 0) lo hi).1 (2 ^ (k + 1) - 1) := l12.trans m1 (by omega)
  have hsem : ∀ s, evalD (mkF ns2 (o.getD L.toNat 0) lo hi).1 s (mkF ns2 (o.getD L.toNat 0) lo hi).2 = if evalD ns s c then evalD ns s a else evalD ns s b := fun s => by
    rw [m4 s, h2.sem s, h2.lat.eval h1.lat.tab h1.ref, h1.sem s, h1.lat.eval ht k1.2.1, h1.lat.eval ht k2.2.1, h1.lat.eval ht k3.2.1, k1.2.2.2.2 s, k2.2.2.2.2 s, k3.2.2.2.2 s]
    cases s.testBit (o.getD L.toNat 0).toNat <;> rfl
  refine ⟨l13, fun e he => ?_, by rw [List.length_append, List.length_singleton]; have := h1.mlen; have := h2.mlen; omega, fun e he => ?_, m2, by omega, hsem⟩
  · rcases List.mem_append.1 he with he | he
    · exact (h2.mem e he).later m1 h2.lat.tab
    · rw [List.mem_singleton] at he
      subst he
      refine ⟨l13.ref hc, l13.ref ha, l13.ref hb, m2, ?_, fun s => ?_⟩
      · rw [l13.lv3 (k := (c, a, b)) hc ha hb]
        unfold lv3
        simp only
        omega
      · show evalD _ s (mkF ns2 (o.getD L.toNat 0) lo hi).2 = _
        rw [hsem s, l13.eval ht hc, l13.eval ht ha, l13.eval ht hb]
  · rcases List.mem_append.1 he with he | he
    · have hold := h2.mem e he
      rcases h2.mnew e he with h | h
      · rcases h1.mnew e h with h' | h'
        · exact .inl h'
        · have e1 := h1.mem e h
          right
          rw [(h2.lat.trans m1 (Nat.le_refl _)).lv3 e1.c e1.a e1.b]
          omega
      · right
        rw [m1.lv3 hold.c hold.a hold.b]
        omega
    · rw [List.mem_singleton] at he
      subst he
      right
      rw [l13.lv3 (k := (c, a, b)) hc ha hb]
      unfold lv3
      simp only
      omega
theorem ChP.mono {o : List Int} {ns : List DN} {mm : Mem3} {c a b L L' : Int} {k : Nat} {ns' : List DN} {mm' : Mem3} {r : Int} (h : ChP o ns mm c a b L k ns' mm' r) (hl : L' ≤ L) : ChP o ns mm c a b L' k ns' mm' r :=
  ⟨h.lat, h.mem, h.mlen, fun e he => (h.mnew e he).imp id fun x => Int.le_trans hl x, h.ref, Int.le_trans hl h.lv, h.sem⟩
theorem lv3_nonneg {o : List Int} (hm : ∀ v : Int, 0 ≤ v → v < o.length → v ∈ o) {ns : List DN} (ht : TabOk o ns) {r : Int} (hr : RefOk ns r) : 0 ≤ lvZ o ns r := by
  unfold lvZ
  split
  · omega
  · unfold RefOk at hr
    obtain ⟨v0, v1, _, _, _, _⟩ := (ht (r - 2).toNat (by omega)).nk
    exact place_nonneg (hm _ v0 v1)
theorem lv_lt {o : List Int} {ns : List DN} (ht : TabOk o ns) {r : Int} (hr : RefOk ns r) (h2 : 2 ≤ r) : lvZ o ns r < o.length := by
  have hi : (r - 2).toNat < ns.length := by unfold RefOk at hr; omega
  have nd := ht _ hi
  have h1 := nd.bl
  have h3 := lv_le (o := o) (ns := ns) (r := (ns.getD (r - 2).toNat dn0).lo)
  unfold lvZ
  rw [if_neg (by omega)]
  omega
end Go.PN
