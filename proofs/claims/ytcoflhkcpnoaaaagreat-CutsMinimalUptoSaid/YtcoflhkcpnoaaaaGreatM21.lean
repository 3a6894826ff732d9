/- Blocks of one proof, laid one behind the other by a program (merge2.py). -/
import Derived.Test.YtcoflhkcpnoaaaaGreatM20
set_option linter.unusedSimpArgs false
set_option linter.unusedVariables false
namespace Go.PN
open Go.AI Go.Proofs.YtcoflhkcpnoaaaaGreat
theorem sub_le {t s : Nat} (h : SubN t s) : t ≤ s := by
  have : t &&& s = t := Nat.eq_of_testBit_eq fun j => by
    rw [Nat.testBit_and]
    cases ht : t.testBit j
    · rfl
    · rw [h j ht]; rfl
  rw [← this]
  exact Nat.and_le_right
theorem sub_trans {a b c : Nat} (h : SubN a b) (k : SubN b c) : SubN a c := fun j hj => k j (h j hj)
theorem sub_refl (a : Nat) : SubN a a := fun _ h => h
def MonS (f : Nat → Bool) : Prop := ∀ s t, SubN s t → f s = true → f t = true
def mixN (k s t : Nat) : Nat := t % 2 ^ k ||| highN k s
theorem mix_bit (k s t j : Nat) : (mixN k s t).testBit j = if j < k then t.testBit j else s.testBit j := by
  unfold mixN
  rw [Nat.testBit_or, high_bit, Nat.testBit_mod_two_pow]
  by_cases h : j < k
  · rw [if_pos h, decide_eq_true h, decide_eq_false (by omega : ¬ k ≤ j)]; simp
  · rw [if_neg h, decide_eq_false h, decide_eq_true (by omega : k ≤ j)]; simp
theorem monS_of {n : Nat} {f : Nat → Bool} (hm : MonoF n f) (hi : ∀ s t : Nat, (∀ j : Nat, j < n → s.testBit j = t.testBit j) → f s = f t) : MonS f := by
  intro s t hst hs
  have key : ∀ k, k ≤ n → f (mixN k s t) = true := by
    intro k
    induction k with
    | zero =>
      intro _
      have : mixN 0 s t = s := Nat.eq_of_testBit_eq fun j => by rw [mix_bit, if_neg (by omega)]
      rw [this]; exact hs
    | succ k ih =>
      intro hk
      have h1 := ih (by omega)
      by_cases hb : (mixN k s t).testBit k = (mixN (k + 1) s t).testBit k
      · have : mixN (k + 1) s t = mixN k s t := Nat.eq_of_testBit_eq fun j => by
          by_cases e : j = k
          · subst e; exact hb.symm
          · rw [mix_bit, mix_bit]
            by_cases hj : j < k
            · rw [if_pos hj, if_pos (by omega)]
            · rw [if_neg hj, if_neg (by omega)]
        rw [this]; exact h1
      · rw [mix_bit, mix_bit, if_neg (by omega), if_pos (by omega)] at hb
        have hsk : s.testBit k = false := by
          cases h : s.testBit k
          · rfl
          · rw [h, hst k h] at hb; exact absurd rfl hb
        have htk : t.testBit k = true := by
          cases h : t.testBit k
          · rw [hsk, h] at hb; exact absurd rfl hb
          · rfl
        have e1 : mixN k s t = setB (mixN k s t) k false := Nat.eq_of_testBit_eq fun j => by
          rw [setB_bit]
          split
          · rename_i e; subst e; rw [mix_bit, if_neg (by omega), hsk]
          · rfl
        have e2 : mixN (k + 1) s t = setB (mixN k s t) k true := Nat.eq_of_testBit_eq fun j => by
          rw [setB_bit]
          split
          · rename_i e; subst e; rw [mix_bit, if_pos (by omega), htk]
          · rw [mix_bit, mix_bit]
            by_cases hj : j < k
            · rw [if_pos hj, if_pos (by omega)]
            · rw [if_neg hj, if_neg (by omega)]
        rw [e2]
        exact hm k (by omega) _ (by rw [← e1]; exact h1)
  rw [← key n (Nat.le_refl n)]
  exact hi _ _ fun j hj => by rw [mix_bit, if_pos hj]
def MinT (f : Nat → Bool) (s : Nat) : Prop := f s = true ∧ ∀ t, SubN t s → f t = true → t = s
theorem min_ex {f : Nat → Bool} : ∀ (s : Nat), f s = true → ∃ t, SubN t s ∧ MinT f t := by
  intro s
  induction s using Nat.strongRecOn with
  | ind s ih =>
    intro hs
    by_cases h : ∃ t, SubN t s ∧ f t = true ∧ t ≠ s
    · obtain ⟨t, t1, t2, t3⟩ := h
      obtain ⟨u, u1, u2⟩ := ih t (by have := sub_le t1; omega) t2
      exact ⟨u, sub_trans u1 t1, u2⟩
    · exact ⟨s, sub_refl s, hs, fun t h1 h2 => Classical.byContradiction fun h3 => h ⟨t, h1, h2, h3⟩⟩
structure SolP (n : Nat) (o : List Int) (dns ns : List DN) (r x : Int) : Prop where
  rr : RefOk dns r
  rx : RefOk ns x
  lv : lvZ o dns r ≤ evZ n ns x
  sem : ∀ s, memZ ns x s = true ↔ MinT (fun s => evalD dns s r) s
theorem SolP.later {n : Nat} {o : List Int} {dns a b : List DN} {r x : Int} {k : Nat} (h : SolP n o dns a r x) (ha : ZTab n a) (l : ZLat n a b k) : SolP n o dns b r x :=
  ⟨h.rr, l.ref h.rx, by rw [l.ev h.rx]; exact h.lv, fun s => by rw [l.mem ha h.rx]; exact h.sem s⟩
theorem SolP.hit {n : Nat} {o : List Int} {dns ns : List DN} {r x : Int} (ht : ZTab n ns) (h : SolP n o dns ns r x) (hm : MonS fun s => evalD dns s r) (s : Nat) : hitZ ns x s = true ↔ evalD dns s r = true := by
  rw [hit_iff ht x h.rx]
  constructor
  · rintro ⟨t, t1, t2⟩
    exact hm t s t1 ((h.sem t).1 t2).1
  · intro hs
    obtain ⟨t, t1, t2⟩ := min_ex (f := fun s => evalD dns s r) s hs
    exact ⟨t, t1, (h.sem t).2 t2⟩
theorem sub_zero {t : Nat} (h : SubN t 0) : t = 0 := by have := sub_le h; omega
theorem zero_sub (s : Nat) : SubN 0 s := fun j hj => by simp at hj
theorem sol_leaf {n : Nat} {o : List Int} (ho : o.length = n) {dns ns : List DN} {r : Int} (h0 : 0 ≤ r) (h1 : r < 2) : SolP n o dns ns r r := by
  refine ⟨⟨h0, by omega⟩, ⟨h0, by omega⟩, by rw [ev_leaf h1]; have := lv_le (o := o) (ns := dns) (r := r); omega, fun s => ?_⟩
  have e : ∀ s, evalD dns s r = decide (r = 1) := fun s => evalD_leaf (by omega)
  rw [mem_leaf (by omega)]
  unfold MinT
  simp only [e]
  by_cases hr : r = 1
  · subst hr
    simp only [decide_true, Bool.true_and, decide_eq_true_eq, true_and]
    constructor
    · rintro rfl
      exact fun t ht _ => sub_zero ht
    · intro h
      exact (h 0 (zero_sub s) trivial).symm
  · simp [hr]
theorem place_natL {n : Nat} {v : Int} (h0 : 0 ≤ v) (h1 : v < n) : placeZ (natL n) v = v := by
  have := place_get (natL_perm n).nodup (k := v.toNat) (by rw [natL_len]; omega)
  have e : (natL n).getD v.toNat 0 = v := by
    rw [getDZ (by rw [natL_len]; omega)]
    simp [natL]
    omega
  rw [e] at this
  omega
theorem setB_xor {s v : Nat} (h : s.testBit v = true) : setB s v false = s ^^^ 2 ^ v := by
  unfold setB
  rw [if_neg (by rw [h]; simp)]
theorem sub_setB {s t : Nat} (h : SubN s t) (v : Nat) (b : Bool) : SubN (setB s v b) (setB t v b) := fun j hj => by
  rw [setB_bit] at hj ⊢
  split
  · rename_i e; rw [if_pos e] at hj; exact hj
  · rename_i e; rw [if_neg e] at hj; exact h j hj
theorem min_step {f f0 f1 : Nat → Bool} {v : Nat} (hf : ∀ s, f s = if s.testBit v then f1 s else f0 s) (h0 : ∀ s b, f0 (setB s v b) = f0 s) (h1 : ∀ s b, f1 (setB s v b) = f1 s) (hm : MonS f) (s : Nat) :
    MinT f s ↔ if s.testBit v then MinT f1 (s ^^^ 2 ^ v) ∧ ¬ f0 (s ^^^ 2 ^ v) = true else MinT f0 s := by
  have m0 : MonS f0 := fun a b hab ha => by
    have := hm _ _ (sub_setB hab v false) (by rw [hf, setB_bit, if_pos rfl, if_neg (by simp), h0]; exact ha)
    rwa [hf, setB_bit, if_pos rfl, if_neg (by simp), h0] at this
  cases hs : s.testBit v
  · rw [if_neg (by simp)]
    have key : ∀ t, SubN t s → f t = f0 t := fun t ht => by
      rw [hf, if_neg]
      intro hb
      have := ht v hb
      rw [hs] at this
      cases this
    unfold MinT
    rw [key s (sub_refl s)]
    constructor
    · rintro ⟨a, b⟩; exact ⟨a, fun t t1 t2 => b t t1 (by rw [key t t1]; exact t2)⟩
    · rintro ⟨a, b⟩; exact ⟨a, fun t t1 t2 => b t t1 (by rw [← key t t1]; exact t2)⟩
  · rw [if_pos rfl]
    have hx : s ^^^ 2 ^ v = setB s v false := (setB_xor hs).symm
    rw [hx]
    have hoff : (setB s v false).testBit v = false := by rw [setB_bit, if_pos rfl]
    have hsub : SubN (setB s v false) s := fun j hj => by
      rw [setB_bit] at hj
      split at hj
      · cases hj
      · exact hj
    have hon : setB (setB s v false) v true = s := Nat.eq_of_testBit_eq fun j => by
      rw [setB_bit, setB_bit]
      by_cases e : j = v
      · subst e; rw [if_pos rfl, hs]
      · rw [if_neg e, if_neg e]
    constructor
    · rintro ⟨a, b⟩
      rw [hf, hs, if_pos rfl] at a
      refine ⟨⟨by rw [h1]; exact a, fun t t1 t2 => ?_⟩, fun hc => ?_⟩
      · have tv : t.testBit v = false := by
          cases h : t.testBit v
          · rfl
          · have := t1 v h; rw [hoff] at this; cases this
        have := b (setB t v true) (by have := sub_setB t1 v true; rwa [hon] at this) (by rw [hf, setB_bit, if_pos rfl, if_pos rfl, h1]; exact t2)
        rw [← this]
        refine Nat.eq_of_testBit_eq fun j => ?_
        rw [setB_bit, setB_bit]
        by_cases e : j = v
        · subst e; rw [if_pos rfl, tv]
        · rw [if_neg e, if_neg e]
      · have := b (setB s v false) hsub (by rw [hf, hoff, if_neg (by simp)]; exact hc)
        rw [this, hs] at hoff
        cases hoff
    · rintro ⟨⟨a, b⟩, c⟩
      rw [h1] at a
      refine ⟨by rw [hf, hs, if_pos rfl]; exact a, fun t t1 t2 => ?_⟩
      rw [hf] at t2
      cases htv : t.testBit v
      · rw [htv, if_neg (by simp)] at t2
        exfalso
        refine c (m0 t _ (fun j hj => ?_) t2)
        rw [setB_bit]
        split
        · rename_i e; subst e; rw [htv] at hj; cases hj
        · exact t1 j hj
      · rw [htv, if_pos rfl] at t2
        have := b (setB t v false) (sub_setB t1 v false) (by rw [h1]; exact t2)
        rw [← hon, ← this]
        refine Nat.eq_of_testBit_eq fun j => ?_
        rw [setB_bit, setB_bit]
        by_cases e : j = v
        · subst e; rw [if_pos rfl, htv]
        · rw [if_neg e, if_neg e]
theorem mon_kids {n : Nat} {dns : List DN} (ht : TabOk (natL n) dns) {r : Int} (h2 : 2 ≤ r) (hr : RefOk dns r) :
    (∀ s, evalD dns s r = if s.testBit (dns.getD (r - 2).toNat dn0).v.toNat then evalD dns s (dns.getD (r - 2).toNat dn0).hi else evalD dns s (dns.getD (r - 2).toNat dn0).lo) ∧
    (∀ s b, evalD dns (setB s (dns.getD (r - 2).toNat dn0).v.toNat b) (dns.getD (r - 2).toNat dn0).lo = evalD dns s (dns.getD (r - 2).toNat dn0).lo) ∧
    (∀ s b, evalD dns (setB s (dns.getD (r - 2).toNat dn0).v.toNat b) (dns.getD (r - 2).toNat dn0).hi = evalD dns s (dns.getD (r - 2).toNat dn0).hi) := by
  have hi : (r - 2).toNat < dns.length := by unfold RefOk at hr; omega
  obtain ⟨kl, kh⟩ := kids_ref ht hi
  have nd := ht _ hi
  have nk := nd.nk
  obtain ⟨v0, v1, _⟩ := nk
  have hvv : (((dns.getD (r - 2).toNat dn0).v.toNat : Nat) : Int) = (dns.getD (r - 2).toNat dn0).v := by omega
  refine ⟨fun s => ?_, fun s b => setB_indep ht kl (by rw [hvv]; exact nd.bl) s b, fun s b => setB_indep ht kh (by rw [hvv]; exact nd.bh) s b⟩
  have := eval_node ht hi (v := (dns.getD (r - 2).toNat dn0).v) (lo := (dns.getD (r - 2).toNat dn0).lo) (hi' := (dns.getD (r - 2).toNat dn0).hi) rfl s
  rwa [show (2 : Int) + (((r - 2).toNat : Nat) : Int) = r from by omega] at this
theorem mon_sub {f f0 f1 : Nat → Bool} {v : Nat} (hf : ∀ s, f s = if s.testBit v then f1 s else f0 s) (h0 : ∀ s b, f0 (setB s v b) = f0 s) (h1 : ∀ s b, f1 (setB s v b) = f1 s) (hm : MonS f) : MonS f0 ∧ MonS f1 :=
  ⟨fun a b hab ha => by
    have := hm _ _ (sub_setB hab v false) (by rw [hf, setB_bit, if_pos rfl, if_neg (by simp), h0]; exact ha)
    rwa [hf, setB_bit, if_pos rfl, if_neg (by simp), h0] at this, fun a b hab ha => by
    have := hm _ _ (sub_setB hab v true) (by rw [hf, setB_bit, if_pos rfl, if_pos rfl, h1]; exact ha)
    rwa [hf, setB_bit, if_pos rfl, if_pos rfl, h1] at this⟩
theorem sol_step {n : Nat} {dns n1 n2 n3 : List DN} {k2 k3 : Nat} (ht : TabOk (natL n) dns) {r xl xh w : Int} (h2 : 2 ≤ r) (hr : RefOk dns r) (hm : MonS fun s => evalD dns s r) (t1 : ZTab n n1)
    (sl : SolP n (natL n) dns n1 (dns.getD (r - 2).toNat dn0).lo xl) (l2 : ZLat n n1 n2 k2) (sh : SolP n (natL n) dns n2 (dns.getD (r - 2).toNat dn0).hi xh) (l3 : ZLat n n2 n3 k3) (wk : WOk n n3 xh xl w) :
    ZLat n n3 (mkZ n3 (dns.getD (r - 2).toNat dn0).v xl w).1 1 ∧ SolP n (natL n) dns (mkZ n3 (dns.getD (r - 2).toNat dn0).v xl w).1 r (mkZ n3 (dns.getD (r - 2).toNat dn0).v xl w).2 := by
  have hi : (r - 2).toNat < dns.length := by unfold RefOk at hr; omega
  have nd := ht _ hi
  obtain ⟨v0, v1, _⟩ := nd.nk
  rw [natL_len] at v1
  have hpl := place_natL v0 v1
  have bl := nd.bl
  have bh := nd.bh
  rw [hpl] at bl bh
  obtain ⟨e1, e2, e3⟩ := mon_kids ht h2 hr
  obtain ⟨m0, m1⟩ := mon_sub e1 e2 e3 hm
  have ms := min_step e1 e2 e3 hm
  have hlr : lvZ (natL n) dns r = (dns.getD (r - 2).toNat dn0).v := by unfold lvZ; rw [if_neg (by omega)]; exact hpl
  generalize (dns.getD (r - 2).toNat dn0).v = v at *
  generalize (dns.getD (r - 2).toNat dn0).lo = lo at *
  generalize (dns.getD (r - 2).toNat dn0).hi = hi' at *
  have s1 := (sl.later t1 l2).later l2.tab l3
  have s2 := sh.later l2.tab l3
  have ex : v < evZ n n3 xl := by have := s1.lv; omega
  have ew : v < evZ n n3 w := by have := wk.ev; have := s1.lv; have := s2.lv; omega
  obtain ⟨q1, q2, q3, q4⟩ := mkZ_ok l3.tab v0 v1 s1.rx wk.pr ex ew
  refine ⟨q1, hr, q2, by omega, fun s => ?_⟩
  rw [q4, ms s]
  split
  · rw [wk.sem]
    have a1 := s2.sem (s ^^^ 2 ^ v.toNat)
    have a2 := s1.hit l3.tab m0 (s ^^^ 2 ^ v.toNat)
    rw [Bool.and_eq_true, a1, Bool.not_eq_true', ← Bool.not_eq_true, a2]
  · exact s1.sem s
end Go.PN
namespace Go.PN
open Go.AI Go.Proofs.YtcoflhkcpnoaaaaGreat
structure DlOk (n : Nat) (dns ns : List DN) (dl : List (Int × Int)) : Prop where
  sem : ∀ z ∈ dl, SolP n (natL n) dns ns z.1 z.2
  low : ∀ q : Int, 0 ≤ q → q < 2 → dnGet q dl ≠ none
theorem DlOk.later {n : Nat} {dns a b : List DN} {dl : List (Int × Int)} {k : Nat} (h : DlOk n dns a dl) (ha : ZTab n a) (l : ZLat n a b k) : DlOk n dns b dl := ⟨fun z hz => (h.sem z hz).later ha l, h.low⟩
def roomS (n : Nat) (dns : List DN) (r : Int) : Nat := (2 ^ ((n : Int) - lvZ (natL n) dns r).toNat - 1) * 3 ^ (n + 1)
theorem room_arith {a b P B : Nat} (pa : a ≤ P) (pb : b ≤ P) (hP : 0 < P) : (a - 1) * B + (b - 1) * B + B ≤ (P * 2 - 1) * B := by
  have ea := Nat.mul_le_mul_right B (Nat.sub_le_sub_right pa 1)
  have eb := Nat.mul_le_mul_right B (Nat.sub_le_sub_right pb 1)
  have e : (P * 2 - 1) * B = (P - 1) * B + (P - 1) * B + B := by
    obtain ⟨p, rfl⟩ : ∃ p, P = p + 1 := ⟨P - 1, by omega⟩
    rw [show (p + 1) * 2 - 1 = p + p + 1 from by omega, Nat.add_sub_cancel, Nat.add_mul, Nat.add_mul, Nat.one_mul]
  rw [e]
  exact Nat.add_le_add_right (Nat.add_le_add ea eb) B
theorem roomS_node {n : Nat} {dns : List DN} (ht : TabOk (natL n) dns) {r : Int} (h2 : 2 ≤ r) (hr : RefOk dns r) : roomS n dns (dns.getD (r - 2).toNat dn0).lo + roomS n dns (dns.getD (r - 2).toNat dn0).hi + 3 ^ (n + 1) ≤ roomS n dns r := by
  have hi : (r - 2).toNat < dns.length := by unfold RefOk at hr; omega
  have nd := ht _ hi
  obtain ⟨v0, v1, _⟩ := nd.nk
  rw [natL_len] at v1
  have hpl := place_natL v0 v1
  have bl := nd.bl
  have bh := nd.bh
  rw [hpl] at bl bh
  have hlr : lvZ (natL n) dns r = (dns.getD (r - 2).toNat dn0).v := by unfold lvZ; rw [if_neg (by omega)]; exact hpl
  unfold roomS
  obtain ⟨q, hq⟩ : ∃ q, ((n : Int) - lvZ (natL n) dns r).toNat = q + 1 := ⟨((n : Int) - lvZ (natL n) dns r).toNat - 1, by omega⟩
  have pa : 2 ^ ((n : Int) - lvZ (natL n) dns (dns.getD (r - 2).toNat dn0).lo).toNat ≤ 2 ^ q := Nat.pow_le_pow_right (by omega) (by omega)
  have pb : 2 ^ ((n : Int) - lvZ (natL n) dns (dns.getD (r - 2).toNat dn0).hi).toNat ≤ 2 ^ q := Nat.pow_le_pow_right (by omega) (by omega)
  have pq : 0 < 2 ^ q := Nat.pow_pos (by omega)
  rw [hq, Nat.pow_succ]
  exact room_arith pa pb pq
end Go.PN
namespace Go.Proofs.YtcoflhkcpnoaaaaGreat
open Go.AI Go.PN
attribute [local irreducible] aw Fa Fh DrK
abbrev Y5 (g1 g2 g3 g4 gd gT gD : Nat) (dl : List (Int × Int)) : Heap :=
  [(g1, .cells 121 1 (ofL [.raw (.map (some gd))])), (g2, .cells 70 1 (ofL [.optr gD 0])), (g3, .cells 65 1 (ofL [fnC 82 [g1, g2, g3, g4]])), (g4, .cells 74 1 (ofL [.optr gT 0])), (gd, .gen (MapI keyI (dnL dl)))]
abbrev HY (g1 g2 g3 g4 gd gT gU gM gD gV gW : Nat) (oh : Option Nat) (o pl : List Int) (dns : List DN) (dmm : Mem3) (dl : List (Int × Int)) (og : Option Nat) (ns : List DN) (mm : Mem3) : Heap :=
  (Y5 g1 g2 g3 g4 gd gT gD dl ++ THp gD gV gW oh o pl dns dmm) ++ ZHp gT gU gM og ns mm
set_option maxRecDepth 100000 in
set_option maxHeartbeats 12800000 in
theorem zsolw_fh (g1 g2 g3 g4 gd gT gU gM gD gV gW : Nat) {n : Nat} (h24 : n ≤ 24) {oh : Option Nat} {pl : List Int} {dns : List DN} {dmm : Mem3} (ds : TS (natL n) oh dns dmm) (hdn : dns.length ≤ 1000000000) : ∀ (k : Nat) (r : Int) (dl : List (Int × Int)) (og : Option Nat) (ns : List DN) (mm : Mem3), r.toNat < k → RefOk dns r → MonS (fun s => evalD dns s r) → ZS n og ns mm → DlOk n dns ns dl → ns.length + roomS n dns r ≤ 1000000000 →
    Fh Tryz.prog 82 (HY g1 g2 g3 g4 gd gT gU gM gD gV gW oh (natL n) pl dns dmm dl og ns mm) ([.c (.int .i64 r)] ++ [g1, g2, g3, g4].map fun g => .c (.optr g 0)) (fun x h => ∃ dl' og' ns' mm' y, ZS n og' ns' mm' ∧ ZLat n ns ns' (roomS n dns r) ∧ DlOk n dns ns' dl' ∧ (∀ z ∈ dl', z ∈ dl ∨ z.1 ≤ r) ∧ SolP n (natL n) dns ns' r y ∧ x = .c (.int .i64 y) ∧ h = HY g1 g2 g3 g4 gd gT gU gM gD gV gW oh (natL n) pl dns dmm dl' og' ns' mm') := by
  intro k
  induction k with
  | zero => intro r dl og ns mm hk; omega
  | succ k ih =>
    intro r dl og ns mm hk hr hmon hs hd hroom
    simp only [List.cons_append, List.nil_append, List.map_cons, List.map_nil]
    refine fh_of_body Tryz.func82 rfl rfl (by simp [Tryz.ntmps82]) fun C hC => ?_
    simp only [initS, Nat.reduceAdd]
    refine aw_nd fun hnd0 => ?_
    have hnd := keysL hnd0
    simp only [HY, Y5, THp, TH, List.cons_append, List.nil_append, Heap.keys, List.map_cons] at hnd ⊢
    replace hnd := ndP_of hnd
    dsimp only [ndP, neA] at hnd
    refine yG hnd ?_
    refine aw_lookup2 (a := r) (kv := dnL dl) (Kf := keyI) (kt := 3) (et := 3) rfl rfl rfl (by kernel_rfl) ty_ki ty_iz (zE hnd) (zE hnd) (zE hnd) keyI_rep ?_
    refine yS hnd ?_
    rw [dn_get]
    cases hf : dnGet r dl with
    | some y =>
      have hy := hd.sem _ (dn_mem hf)
      try simp only [Option.map_some, Option.getD_some, Option.isSome_some, cstC]
      refine yG hnd ?_
      refine yN hnd ?_
      refine yG hnd ?_
      refine yU hnd ?_
      exact ⟨dl, og, ns, mm, y, hs, ZLat.refl hs.tab _, hd, fun z hz => .inl hz, hy, rfl, rfl⟩
    | none =>
      try simp only [Option.map_none, Option.getD_none, Option.isSome_none, cstC]
      refine yG hnd ?_
      refine yP hnd ?_
      have h2 : 2 ≤ r := by
        refine Classical.byContradiction fun h => ?_
        exact hd.low r hr.1 (by omega) hf
      obtain ⟨g, rfl⟩ : ∃ g, oh = some g := by
        cases oh with
        | none => have := ds.og rfl; unfold RefOk at hr; omega
        | some g => exact ⟨g, rfl⟩
      have hi : (r - 2).toNat < dns.length := by unfold RefOk at hr; omega
      obtain ⟨w0, w1, w2, w3, w4, w5⟩ := (ds.tab.ns _ hi)
      obtain ⟨kl, kh⟩ := kids_ref ds.tab hi
      have hrn := roomS_node ds.tab h2 hr
      have h3n : 0 < 3 ^ n := Nat.pow_pos (by omega)
      obtain ⟨e1, e2, e3⟩ := mon_kids ds.tab h2 hr
      obtain ⟨m0, m1⟩ := mon_sub e1 e2 e3 hmon
      have hst : ∀ {n1 n2 n3 : List DN} {k2 k3 : Nat} {xl xh w : Int}, ZTab n n1 → SolP n (natL n) dns n1 (dns.getD (r - 2).toNat dn0).lo xl → ZLat n n1 n2 k2 → SolP n (natL n) dns n2 (dns.getD (r - 2).toNat dn0).hi xh → ZLat n n2 n3 k3 → WOk n n3 xh xl w → _ := fun t1 sl l2 sh l3 wk => sol_step ds.tab h2 hr hmon t1 sl l2 sh l3 wk
      simp only [gs, gh, List.cons_append, List.nil_append]
      clear hnd e1 e2 e3
      have hnd := keysL hnd0
      simp only [Y5, THp, TH, gh, List.cons_append, List.nil_append, Heap.keys, List.map_cons, List.map_nil] at hnd
      replace hnd := ndP_of hnd
      dsimp only [ndP, neA] at hnd
      generalize hx0 : dns.getD (r - 2).toNat dn0 = nd at *
      refine yG (oj hnd hx0) ?_
      refine yA (oj hnd hx0) fun g9 hn_g9=>?_
      refine yG (oj hnd (oj hx0 hn_g9)) ?_
      refine yW (oj hnd (oj hx0 hn_g9)) ?_
      refine yS (oj hnd (oj hx0 hn_g9)) ?_
      refine yG (oj hnd (oj hx0 hn_g9)) ?_
      refine aw_callhv (hr := [(g9, .cells 88 3 (ofL [.int .i64 nd.v, .int .i64 nd.lo, .int .i64 nd.hi]))]) (gs := [g1, g2, g3, g4]) (ih nd.lo dl og ns mm (by omega) kl m0 hs hd (by omega)) rfl rfl rfl (zE (oj hnd (oj hx0 hn_g9))) ?_ (zL (oj hnd (oj hx0 hn_g9))) ?_
      · exact List.perm_append_comm (l₁ := [(g9, _)])
      rintro _ _ ⟨dl1, og1, ns1, mm1, xl, s1, l1, d1, n1, p1, rfl, rfl⟩ _
      have ll1 := l1.len
      refine aw_perm List.perm_append_comm ?_
      clear hnd
      refine aw_nd fun hnd1 => ?_
      have hnd := keysL (A := [(g9, .cells 88 3 (ofL [.int .i64 nd.v, .int .i64 nd.lo, .int .i64 nd.hi]))] ++ (Y5 g1 g2 g3 g4 gd gT gD dl1 ++ THp gD gV gW (some g) (natL n) pl dns dmm)) (B := ZHp gT gU gM og1 ns1 mm1) hnd1
      simp only [Y5, THp, TH, gh, List.cons_append, List.nil_append, Heap.keys, List.map_cons, List.map_nil] at hnd
      replace hnd := ndP_of hnd
      dsimp only [ndP, neA] at hnd
      simp only [HY, Y5, THp, TH, gs, gh, List.cons_append, List.nil_append]
      refine yS (oj hnd hx0) ?_
      refine yG (oj hnd hx0) ?_
      refine aw_cw ([(g4, .cells 74 1 (ofL [.optr gT 0])), (g3, .cells 65 1 (ofL [fnC 82 [g1, g2, g3, g4]])), (g9, .cells 88 3 (ofL [.int .i64 nd.v, .int .i64 nd.lo, .int .i64 nd.hi]))]) [(0,0),(1,0),(2,0),(3,0),(4,0),(5,0),(6,0),(7,0),(9,0),(8,1),(10,1),(11,1),(12,0)] ty_mixed (by kernel_rfl) eI ?_
      refine yG (oj hnd hx0) ?_
      refine cw_callhv (hr := [(g9, .cells 88 3 (ofL [.int .i64 nd.v, .int .i64 nd.lo, .int .i64 nd.hi]))]) (gs := [g1, g2, g3, g4]) rfl (ih nd.hi dl1 og1 ns1 mm1 (by omega) kh m1 s1 d1 (by omega)) rfl rfl rfl (zE (oj hnd hx0)) (List.perm_append_comm (l₁ := [(g9, _)])) (zL (oj hnd hx0)) (by
        rintro _ _ ⟨_, _, _, _, _, _, _, _, _, _, rfl, rfl⟩; simp only [HY, Y5, List.cons_append, List.nil_append]; exact eI) ?_ (hm := .inr ⟨rfl, rfl⟩)
      rintro _ _ ⟨dl2, og2, ns2, mm2, xh, s2, l2, d2, n2, p2, rfl, rfl⟩ _
      have ll2 := l2.len
      refine yS (oj hnd hx0) ?_
      refine yG (oj hnd hx0) ?_
      have hpm : ∀ (og : Option Nat) (ns : List DN) (mm : Mem3), (ZHp gT gU gM og ns mm ++ ((Y5 g1 g2 g3 g4 gd gT gD dl2 ++ THp gD gV gW (some g) (natL n) pl dns dmm) ++ ([(g9, .cells 88 3 (ofL [.int .i64 nd.v, .int .i64 nd.lo, .int .i64 nd.hi]))] : Heap))).Perm ((g9, .cells 88 3 (ofL [.int .i64 nd.v, .int .i64 nd.lo, .int .i64 nd.hi])) :: HY g1 g2 g3 g4 gd gT gU gM gD gV gW (some g) (natL n) pl dns dmm dl2 og ns mm) := fun og ns mm => by
        rw [← List.append_assoc]
        exact (List.perm_append_singleton _ _).trans (.cons _ List.perm_append_comm)
      refine cw_callh (hc := ZHp gT gU gM og2 ns2 mm2) (hr := (Y5 g1 g2 g3 g4 gd gT gD dl2 ++ THp gD gV gW (some g) (natL n) pl dns dmm) ++ ([(g9, .cells 88 3 (ofL [.int .i64 nd.v, .int .i64 nd.lo, .int .i64 nd.hi]))] : Heap)) rfl (zwithout_fh gT gU gM h24 s2 (by omega) p2.rx (l2.ref p1.rx)) rfl rfl rfl ((List.perm_append_singleton _ _).trans (hpm og2 ns2 mm2).symm) (zL (oj hnd hx0)) (by
        rintro _ _ ⟨_, _, _, _, _, _, rfl, rfl⟩; refine has0_app2 ?_; simp only [Y5, List.cons_append, List.nil_append]; exact eI) ?_ (hm := .inr ⟨rfl, rfl⟩)
      rintro _ _ ⟨og3, ns3, mm3, w, zp, wk, rfl, rfl⟩ _
      have l3 := zp.lat
      have ll3 := l3.len
      refine yS (oj hnd hx0) ?_
      refine yG (oj hnd hx0) ?_
      obtain ⟨l4, sp⟩ := hst s1.tab p1 l2 p2 l3 wk
      have hB : 0 < 3 ^ (n + 1) := Nat.pow_pos (by omega)
      refine cw_callh (hc := ZHp gT gU gM og3 ns3 mm3) (hr := (Y5 g1 g2 g3 g4 gd gT gD dl2 ++ THp gD gV gW (some g) (natL n) pl dns dmm) ++ ([(g9, .cells 88 3 (ofL [.int .i64 nd.v, .int .i64 nd.lo, .int .i64 nd.hi]))] : Heap)) rfl (zmake_fh gT gU gM og3 ns3 mm3 nd.v xl w zp.og (by omega)) rfl rfl rfl (.refl _) (zL (oj hnd hx0)) (by
        rintro _ _ ⟨_, _, rfl, rfl⟩; refine has0_app2 ?_; simp only [Y5, List.cons_append, List.nil_append]; exact eI) ?_ (hm := .inr ⟨rfl, rfl⟩)
      rintro _ _ ⟨og4, ho4, rfl, rfl⟩ _
      refine yS (oj hnd hx0) ?_
      refine yG (oj hnd hx0) ?_
      generalize hmk : mkZ ns3 nd.v xl w = mk at *
      have hnew : ∀ z ∈ dl2, z.1 ≠ r := fun z hz => by
        rcases n2 z hz with h | h
        · rcases n1 z h with h | h
          · exact dn_none hf z h
          · omega
        · omega
      refine aw_perm (hpm og4 mk.1 mm3) ?_
      simp only [HY, Y5, THp, TH, gs, gh, List.cons_append, List.nil_append]
      refine yS (oj hnd hx0) ?_
      refine yG (oj hnd hx0) ?_
      refine aw_mapNew (a := r) (kv := dnL dl2) (Kf := keyI) (v := .int .i64 mk.2) rfl rfl rfl (kt := 3) (et := 3) (by kernel_rfl) ty_ki (zE (oj hnd hx0)) (zE (oj hnd hx0)) (zE (oj hnd hx0)) keyI_rep (cv := .c (.int .i64 mk.2)) (zE (oj hnd hx0)) (fun S w u h => h) (by rw [dn_get, dn_none' hnew]; rfl) (zE (oj hnd hx0)) ?_
      rw [dnL_push]
      refine yS (oj hnd hx0) ?_
      refine yG (oj hnd hx0) ?_
      refine aw_keep [(6, .c (.int .i64 mk.2))] (HY g1 g2 g3 g4 gd gT gU gM gD gV gW (some g) (natL n) pl dns dmm (dl2 ++ [(r, mk.2)]) og4 mk.1 mm3) (zB (oj hnd hx0)) (List.Sublist.cons _ (List.Sublist.refl _)) ?_
      refine yU (oj hnd hx0) ?_
      have l23 := l2.trans l3 (Nat.le_refl _)
      have l24' := l23.trans l4 (Nat.le_refl _)
      have l34 := l3.trans l4 (Nat.le_refl _)
      refine ⟨dl2 ++ [(r, mk.2)], og4, mk.1, mm3, mk.2, ⟨ho4, l4.tab, zp.mem.later l4 l3.tab⟩, l1.trans l24' (by omega), ⟨fun z hz => ?_, fun q q0 q1 => dn_app (d2.low q q0 q1)⟩, fun z hz => ?_, sp, rfl, rfl⟩
      · rcases List.mem_append.1 hz with hz | hz
        · exact (d2.later s2.tab l34).sem z hz
        · rw [List.mem_singleton] at hz; subst hz; exact sp
      · rcases List.mem_append.1 hz with hz | hz
        · rcases n2 z hz with h | h
          · rcases n1 z h with h | h
            · exact .inl h
            · exact .inr (by omega)
          · exact .inr (by omega)
        · rw [List.mem_singleton] at hz; subst hz; exact .inr (Int.le_refl _)
set_option maxRecDepth 100000 in
set_option maxHeartbeats 3200000 in
theorem zsolutions_fh (gT gU gM gD gV gW : Nat) {n : Nat} (h24 : n ≤ 24) {oh : Option Nat} {pl : List Int} {dns : List DN} {dmm : Mem3} (ds : TS (natL n) oh dns dmm) (hdn : dns.length ≤ 1000000000) {r : Int} (hr : RefOk dns r) (hmon : MonS fun s => evalD dns s r) {og : Option Nat} {ns : List DN} {mm : Mem3} (hs : ZS n og ns mm) (hroom : ns.length + roomS n dns r ≤ 1000000000) :
    Fh Tryz.prog 45 (ZHp gT gU gM og ns mm ++ THp gD gV gW oh (natL n) pl dns dmm) [.c (.optr gT 0), .c (.optr gD 0), .c (.int .i64 r)] (fun x h => ∃ og' ns' mm' y, ZS n og' ns' mm' ∧ ZLat n ns ns' (roomS n dns r) ∧ SolP n (natL n) dns ns' r y ∧ x = .c (.int .i64 y) ∧ h = ZHp gT gU gM og' ns' mm' ++ THp gD gV gW oh (natL n) pl dns dmm) := by
  refine fh_of_body Tryz.func45 rfl rfl (by simp [Tryz.ntmps45]) fun C hC => ?_
  simp only [initS, Nat.reduceAdd]
  refine xG ?_
  refine xB fun g3 hn_g3=>?_
  refine yG hn_g3 ?_
  refine yB hn_g3 fun g4 hn_g4=>?_
  refine yG (oj hn_g3 hn_g4) ?_
  refine aw_makeMap (Kf := keyI) rfl rfl rfl fun gd hn_gd => ?_
  replace hn_gd := Heap.ne_of hn_gd
  dsimp only [Heap.ne] at hn_gd
  refine yS (oj hn_g3 (oj hn_g4 hn_gd)) ?_
  refine yG (oj hn_g3 (oj hn_g4 hn_gd)) ?_
  refine aw_insNew (a := 0) (kv := []) (Kf := keyI) (v := .int .i64 0) rfl rfl rfl (kt := 3) (et := 3) (by kernel_rfl) ty_ki (zE (oj hn_g3 (oj hn_g4 hn_gd))) (zE (oj hn_g3 (oj hn_g4 hn_gd))) (zE (oj hn_g3 (oj hn_g4 hn_gd))) keyI_rep (cv := .c (.int .i64 0)) (zE (oj hn_g3 (oj hn_g4 hn_gd))) (fun S w u h => h) rfl (zE (oj hn_g3 (oj hn_g4 hn_gd))) ?_
  refine yS (oj hn_g3 (oj hn_g4 hn_gd)) ?_
  refine yG (oj hn_g3 (oj hn_g4 hn_gd)) ?_
  refine aw_insNew (a := 1) (kv := [(0, .int .i64 0)]) (Kf := keyI) (v := .int .i64 1) rfl rfl rfl (kt := 3) (et := 3) (by kernel_rfl) ty_ki (zE (oj hn_g3 (oj hn_g4 hn_gd))) (zE (oj hn_g3 (oj hn_g4 hn_gd))) (zE (oj hn_g3 (oj hn_g4 hn_gd))) keyI_rep (cv := .c (.int .i64 1)) (zE (oj hn_g3 (oj hn_g4 hn_gd))) (fun S w u h => h) rfl (zE (oj hn_g3 (oj hn_g4 hn_gd))) ?_
  refine yS (oj hn_g3 (oj hn_g4 hn_gd)) ?_
  refine yG (oj hn_g3 (oj hn_g4 hn_gd)) ?_
  refine yA (oj hn_g3 (oj hn_g4 hn_gd)) fun g7 hn_g7=>?_
  refine yG (oj hn_g3 (oj hn_g4 (oj hn_gd hn_g7))) ?_
  refine yW (oj hn_g3 (oj hn_g4 (oj hn_gd hn_g7))) ?_
  refine yS (oj hn_g3 (oj hn_g4 (oj hn_gd hn_g7))) ?_
  refine yG (oj hn_g3 (oj hn_g4 (oj hn_gd hn_g7))) ?_
  refine yA (oj hn_g3 (oj hn_g4 (oj hn_gd hn_g7))) fun g8 hn_g8=>?_
  refine yG (oj hn_g3 (oj hn_g4 (oj hn_gd (oj hn_g7 hn_g8)))) ?_
  refine aw_makeFunc (gs := [g7, g4, g8, g3]) rfl rfl rfl (zE (oj hn_g3 (oj hn_g4 (oj hn_gd (oj hn_g7 hn_g8))))) ?_
  refine yS (oj hn_g3 (oj hn_g4 (oj hn_gd (oj hn_g7 hn_g8)))) ?_
  refine yG (oj hn_g3 (oj hn_g4 (oj hn_gd (oj hn_g7 hn_g8)))) ?_
  refine yW (oj hn_g3 (oj hn_g4 (oj hn_gd (oj hn_g7 hn_g8)))) ?_
  refine yS (oj hn_g3 (oj hn_g4 (oj hn_gd (oj hn_g7 hn_g8)))) ?_
  refine yG (oj hn_g3 (oj hn_g4 (oj hn_gd (oj hn_g7 hn_g8)))) ?_
  have hd0 : DlOk n dns ns [(0, 0), (1, 1)] := ⟨fun z hz => by
    simp only [List.mem_cons, List.not_mem_nil, or_false] at hz
    rcases hz with rfl | rfl
    · exact sol_leaf (natL_len n) (by decide) (by decide)
    · exact sol_leaf (natL_len n) (by decide) (by decide), fun q q0 q1 => by
    obtain rfl | rfl : q = 0 ∨ q = 1 := by omega
    · simp [dnGet]
    · simp [dnGet]⟩
  refine aw_callhv (hr := []) (zsolw_fh g7 g4 g8 g3 gd gT gU gM gD gV gW h24 (pl := pl) ds hdn (r.toNat + 1) r [(0, 0), (1, 1)] og ns mm (by omega) hr hmon hs hd0 hroom) rfl rfl rfl (zE (oj hn_g3 (oj hn_g4 (oj hn_gd (oj hn_g7 hn_g8))))) ?hp (zL (oj hn_g3 (oj hn_g4 (oj hn_gd (oj hn_g7 hn_g8))))) ?_
  · rw [List.append_nil]
    show ([(g8, _), (g7, _), (gd, _), (g4, _), (g3, _)] ++ (ZHp gT gU gM og ns mm ++ THp gD gV gW oh (natL n) pl dns dmm)).Perm ((Y5 g7 g4 g8 g3 gd gT gD [(0, 0), (1, 1)] ++ THp gD gV gW oh (natL n) pl dns dmm) ++ ZHp gT gU gM og ns mm)
    rw [List.append_assoc]
    exact (permL [(g8, _), (g7, _), (gd, _), (g4, _), (g3, _)] [0, 1, 2, 3, 4] [1, 3, 0, 4, 2] (by decide)).append List.perm_append_comm
  rintro _ _ ⟨dl', og', ns', mm', y, s1, l1, _, _, p1, rfl, rfl⟩ _
  rw [List.append_nil]
  refine yS (oj hn_g3 (oj hn_g4 (oj hn_gd (oj hn_g7 hn_g8)))) ?_
  refine yG (oj hn_g3 (oj hn_g4 (oj hn_gd (oj hn_g7 hn_g8)))) ?_
  refine aw_perm ((show (HY g7 g4 g8 g3 gd gT gU gM gD gV gW oh (natL n) pl dns dmm dl' og' ns' mm').Perm _ from by
    unfold HY
    rw [List.append_assoc]
    exact (List.Perm.refl _).append List.perm_append_comm) : (HY g7 g4 g8 g3 gd gT gU gM gD gV gW oh (natL n) pl dns dmm dl' og' ns' mm').Perm (Y5 g7 g4 g8 g3 gd gT gD dl' ++ (ZHp gT gU gM og' ns' mm' ++ THp gD gV gW oh (natL n) pl dns dmm))) ?_
  refine aw_keep [(6, .c (.int .i64 y))] (ZHp gT gU gM og' ns' mm' ++ THp gD gV gW oh (natL n) pl dns dmm) (zB (oj hn_g3 (oj hn_g4 (oj hn_gd (oj hn_g7 hn_g8))))) (List.sublist_append_right (Y5 g7 g4 g8 g3 gd gT gD dl') _) ?_
  refine yU (oj hn_g3 (oj hn_g4 (oj hn_gd (oj hn_g7 hn_g8)))) ?_
  exact ⟨og', ns', mm', y, s1, l1, p1, rfl, rfl⟩
end Go.Proofs.YtcoflhkcpnoaaaaGreat
namespace Go.PN
open Go.AI Go.Proofs.YtcoflhkcpnoaaaaGreat
def SolOut (n : Nat) (f : Nat → Bool) (z : ZD) : Prop := ∃ F, ZOut n F z ∧ (∀ s, F s = true ↔ MinT f s) ∧ z.nodes.length ≤ 4096
theorem mono_n10 {n : Nat} (h : n ≤ 10) : n * monoN n ≤ 50000000 := by
  have h1 : 2 ^ n ≤ 1024 := Nat.le_trans (Nat.pow_le_pow_right (by omega) h) (by decide)
  have h2 : 2 ^ (n + 1) ≤ 2048 := Nat.le_trans (Nat.pow_le_pow_right (by omega) (show n + 1 ≤ 11 by omega)) (by decide)
  have h3 := Nat.mul_le_mul h1 h2
  have h4 : monoN n ≤ 4196352 := by unfold monoN; omega
  have := Nat.mul_le_mul h h4
  omega
theorem room_10 {n : Nat} (h : n ≤ 10) {dns : List DN} {r : Int} (h0 : 0 ≤ lvZ (natL n) dns r) : roomS n dns r ≤ 200000000 := by
  unfold roomS
  have h1 : 2 ^ ((n : Int) - lvZ (natL n) dns r).toNat ≤ 1024 := Nat.le_trans (Nat.pow_le_pow_right (by omega) (show ((n : Int) - lvZ (natL n) dns r).toNat ≤ 10 by omega)) (by decide)
  have h2 : 3 ^ (n + 1) ≤ 177147 := Nat.le_trans (Nat.pow_le_pow_right (by omega) (show n + 1 ≤ 11 by omega)) (by decide)
  have h3 := Nat.mul_le_mul (show 2 ^ ((n : Int) - lvZ (natL n) dns r).toNat - 1 ≤ 1023 by omega) h2
  omega
theorem monS_tab {n : Nat} {ns : List DN} (ht : TabOk (natL n) ns) {r : Int} (hr : RefOk ns r) (hm : MonoF n fun s => evalD ns s r) : MonS fun s => evalD ns s r := by
  refine monS_of hm fun s t hst => ?_
  have hmem : ∀ v : Int, 0 ≤ v → v < (natL n).length → v ∈ natL n := fun v h0 h1 => by
    have := (natL_perm n).all (j := v.toNat) (by omega)
    rwa [show ((v.toNat : Nat) : Int) = v from by omega] at this
  have h0 := lv3_nonneg hmem ht hr
  exact tab_indep ht (P := -1) (fun j hj _ => hst j (by rw [natL_len] at hj; exact hj)) r.toNat r (Nat.le_refl _) hr (by omega)
end Go.PN
namespace Go.Proofs.YtcoflhkcpnoaaaaGreat
open Go.AI Go.PN
attribute [local irreducible] aw Fa Fh DrK
set_option maxRecDepth 100000 in
set_option maxHeartbeats 6400000 in
theorem csol_fh (d : DG) (h0 : dcode d = 0) (h10 : d.order.length ≤ 10) : Fh Tryz.prog 13 [] [.agg (dgc false d)] (fun x h => h = [] ∧ ((¬ MonoF d.order.length (fun s => evalD d.nodes s d.root) ∧ x = .tup [.agg [.nils, .int .i64 0], .c (errA 7)]) ∨
    (MonoF d.order.length (fun s => evalD d.nodes s d.root) ∧ ∃ z, SolOut d.order.length (fun s => evalD d.nodes s d.root) z ∧ x = .tup [.agg (zdc true z), .c .nilI]))) := by
  have N := cnatural_fh d h0 (by omega)
  have hod : OdOk (natL d.order.length) (placesL (natL d.order.length)) := ⟨natL_perm _, pl_ok (natL_perm _), by rw [natL_len]; omega⟩
  have hol := natL_len d.order.length
  have hmn := mono_n10 h10
  have hp : 2 ^ (d.order.length + 1) ≤ 2048 := Nat.le_trans (Nat.pow_le_pow_right (by omega) (show d.order.length + 1 ≤ 11 by omega)) (by decide)
  refine fh_of_body Tryz.func13 rfl rfl (by simp [Tryz.ntmps13]) fun C hC => ?_
  simp only [initS, Nat.reduceAdd]
  refine xG ?_
  refine xB fun g1 hn_g1=>?_
  refine yG hn_g1 ?_
  refine yA hn_g1 fun g2 hn_g2=>?_
  refine yG (oj hn_g1 hn_g2) ?_
  refine aw_callh (hc := []) (hr := [(g2, .cells 33 2 (ofL [.nils, .int .i64 0])), (g1, .cells 25 3 (ofL (dgc false d)))]) N rfl rfl rfl (.refl _) (zL (oj hn_g1 hn_g2)) ?_
  rintro _ _ ⟨gD, gV, gW, og, ns, mm, r, hs, hr, he, hn, rfl, rfl⟩ _
  have M := monotone_fh gD gV gW hod hs (by rw [hol]; omega) hr
  rw [hol] at M
  refine aw_perm List.perm_append_comm ?_
  refine yS (oj hn_g1 hn_g2) ?_
  refine yG (oj hn_g1 hn_g2) ?_
  refine yN (oj hn_g1 hn_g2) ?_
  refine yG (oj hn_g1 hn_g2) ?_
  refine aw_callh (hr := [(g2, .cells 33 2 (ofL [.nils, .int .i64 0])), (g1, .cells 25 3 (ofL (dgc false d)))]) M rfl rfl rfl (List.perm_append_comm (l₁ := [(g2, _), (g1, _)])) (zL (oj hn_g1 hn_g2)) ?_
  rintro _ _ ⟨b, og', ns', mm', hb, hs', hl', rfl, rfl⟩ _
  have hl2 := hl'.len
  refine aw_perm List.perm_append_comm ?_
  have hfe : (fun s => evalD ns s r) = fun s => evalD d.nodes s d.root := funext he
  have hfe' : (fun s => evalD ns' s r) = fun s => evalD d.nodes s d.root := by rw [← hfe]; exact funext fun s => hl'.eval hs.tab hr s
  rw [hfe] at hb
  cases b
  · have hnm : ¬ MonoF d.order.length (fun s => evalD d.nodes s d.root) := fun h => by have := hb.2 h; cases this
    refine yS (oj hn_g1 hn_g2) ?_
    refine yG (oj hn_g1 hn_g2) ?_
    refine yP (oj hn_g1 hn_g2) ?_
    refine yG (oj hn_g1 hn_g2) ?_
    refine yW (oj hn_g1 hn_g2) ?_
    refine yS (oj hn_g1 hn_g2) ?_
    refine yG (oj hn_g1 hn_g2) ?_
    refine aw_rethw (h' := []) rfl (List.nil_sublist _) (fun R hR => ?_)
    simp only [go_sem, hn_g1, hn_g2]
    refine hR _ rfl ?_
    clear hR R
    exact ⟨rfl, .inl ⟨hnm, rfl⟩⟩
  · have hm := hb.1 rfl
    have hr' := hl'.ref hr
    have hms := monS_tab hs'.tab hr' (by rw [hfe']; exact hm)
    refine yS (oj hn_g1 hn_g2) ?_
    refine yG (oj hn_g1 hn_g2) ?_
    refine yN (oj hn_g1 hn_g2) ?_
    refine yG (oj hn_g1 hn_g2) ?_
    refine aw_callh (hc := []) newSets_fh rfl rfl rfl (.refl _) (zL (oj hn_g1 hn_g2)) ?_
    rintro _ _ ⟨gT, gU, gM, rfl, rfl⟩ _
    refine yS (oj hn_g1 hn_g2) ?_
    refine yG (oj hn_g1 hn_g2) ?_
    have hz0 : ZS d.order.length none [] [] := ⟨fun _ => rfl, fun i hi => absurd hi (Nat.not_lt_zero _), fun e he => absurd he List.not_mem_nil⟩
    have hmem : ∀ v : Int, 0 ≤ v → v < (natL d.order.length).length → v ∈ natL d.order.length := hod.mem
    have hrm := room_10 h10 (dns := ns') (r := r) (lv3_nonneg hmem hs'.tab hr')
    have hpm : ([(g2, AObj.cells 33 2 (ofL [.nils, .int .i64 0])), (g1, AObj.cells 25 3 (ofL (dgc false d)))] ++ THp gD gV gW og' (natL d.order.length) (placesL (natL d.order.length)) ns' mm').Perm (THp gD gV gW og' (natL d.order.length) (placesL (natL d.order.length)) ns' mm' ++ [(g2, AObj.cells 33 2 (ofL [.nils, .int .i64 0])), (g1, AObj.cells 25 3 (ofL (dgc false d)))]) := List.perm_append_comm
    refine aw_callh (hc := ZHp gT gU gM none [] [] ++ THp gD gV gW og' (natL d.order.length) (placesL (natL d.order.length)) ns' mm') (hr := [(g2, .cells 33 2 (ofL [.nils, .int .i64 0])), (g1, .cells 25 3 (ofL (dgc false d)))]) (zsolutions_fh gT gU gM gD gV gW (by omega) hs' (by omega) hr' hms hz0 (by simp only [List.length_nil]; omega)) rfl rfl rfl (by rw [List.append_assoc]; exact (List.Perm.refl _).append hpm) (zL (oj hn_g1 hn_g2)) ?_
    rintro _ _ ⟨oz, zn, zm, x, hz, zl, sp, rfl, rfl⟩ _
    have zlen := zl.len
    simp only [List.length_nil] at zlen
    refine aw_perm (h' := ZHp gT gU gM oz zn zm ++ (THp gD gV gW og' (natL d.order.length) (placesL (natL d.order.length)) ns' mm' ++ [(g2, .cells 33 2 (ofL [.nils, .int .i64 0])), (g1, .cells 25 3 (ofL (dgc false d)))])) (by rw [List.append_assoc]) ?_
    refine yS (oj hn_g1 hn_g2) ?_
    refine yG (oj hn_g1 hn_g2) ?_
    have hp10 : 2 ^ d.order.length ≤ 1024 := Nat.le_trans (Nat.pow_le_pow_right (by omega) h10) (by decide)
    refine aw_callh (hc := ZHp gT gU gM oz zn zm) (zsmall_fh gT gU gM hz (by omega) sp.rx (most := 4096) (by omega)) rfl rfl rfl (.refl _) (zL (oj hn_g1 hn_g2)) ?_
    rintro _ _ ⟨rfl, rfl⟩ _
    refine yS (oj hn_g1 hn_g2) ?_
    refine yG (oj hn_g1 hn_g2) ?_
    refine yN (oj hn_g1 hn_g2) ?_
    refine yG (oj hn_g1 hn_g2) ?_
    refine aw_callh (hc := ZHp gT gU gM oz zn zm) (zexport_fh gT gU gM hz (by omega) sp.rx) rfl rfl rfl (.refl _) (zL (oj hn_g1 hn_g2)) ?_
    rintro _ _ ⟨rs, os, y, hex, rfl, rfl⟩ _
    have ho := hex.out hz.tab sp.rx
    have hlen : os.length ≤ 4096 := by
      have h1 := hex.len
      have h2 := hex.ok.len
      have h3 := (evZ_le hz.tab sp.rx).1
      have h4 : 2 ^ ((d.order.length : Int) - evZ d.order.length zn x).toNat ≤ 2 ^ d.order.length := Nat.pow_le_pow_right (by omega) (by omega)
      simp only [List.length_nil] at h1
      omega
    have hso : SolOut d.order.length (fun s => evalD d.nodes s d.root) ⟨os, y⟩ := ⟨_, ho, fun s => by rw [sp.sem s, hfe'], hlen⟩
    refine aw_perm (h' := [(g2, .cells 33 2 (ofL [.nils, .int .i64 0])), (g1, .cells 25 3 (ofL (dgc false d)))] ++ (ZHp gT gU gM oz zn zm ++ THp gD gV gW og' (natL d.order.length) (placesL (natL d.order.length)) ns' mm')) (by rw [← List.append_assoc]; exact List.perm_append_comm) ?_
    refine yS (oj hn_g1 hn_g2) ?_
    refine yG (oj hn_g1 hn_g2) ?_
    refine yW (oj hn_g1 hn_g2) ?_
    refine yS (oj hn_g1 hn_g2) ?_
    refine yG (oj hn_g1 hn_g2) ?_
    refine aw_rethw (h' := []) rfl (List.nil_sublist _) (fun R hR => ?_)
    simp only [go_sem, hn_g1, hn_g2]
    refine hR _ rfl ?_
    clear hR R
    exact ⟨rfl, .inr ⟨hm, ⟨os, y⟩, hso, rfl⟩⟩
end Go.Proofs.YtcoflhkcpnoaaaaGreat
namespace Go.PN
open Go.AI
def keyLt (a b : Nat) : Bool := decide (popN a < popN b) || (decide (popN a = popN b) && decide (a < b))
theorem key_irr (a : Nat) : keyLt a a = false := by simp [keyLt]
theorem key_trans {a b c : Nat} (h : keyLt a b = true) (k : keyLt b c = true) : keyLt a c = true := by
  simp only [keyLt, Bool.or_eq_true, Bool.and_eq_true, decide_eq_true_eq] at *
  omega
theorem key_asym {a b : Nat} (h : keyLt a b = true) : keyLt b a = false := by
  simp only [keyLt, Bool.or_eq_true, Bool.and_eq_true, decide_eq_true_eq, Bool.or_eq_false_iff, Bool.and_eq_false_iff, decide_eq_false_iff_not] at *
  omega
theorem key_total {a b : Nat} (h : keyLt a b = false) (hne : a ≠ b) : keyLt b a = true := by
  simp only [keyLt, Bool.or_eq_true, Bool.and_eq_true, decide_eq_true_eq, Bool.or_eq_false_iff, Bool.and_eq_false_iff, decide_eq_false_iff_not] at *
  omega
def Srt (l : List Nat) : Prop := l.Pairwise fun a b => keyLt a b = true
theorem srt_ext : ∀ {l m : List Nat}, Srt l → Srt m → (∀ x, x ∈ l ↔ x ∈ m) → l = m
  | [], [], _, _, _ => rfl
  | [], b :: m, _, _, h => absurd ((h b).2 (List.mem_cons_self ..)) List.not_mem_nil
  | a :: l, [], _, _, h => absurd ((h a).1 (List.mem_cons_self ..)) List.not_mem_nil
  | a :: l, b :: m, hl, hm, h => by
    have hl' := List.pairwise_cons.1 hl
    have hm' := List.pairwise_cons.1 hm
    have e : a = b := by
      refine Classical.byContradiction fun hne => ?_
      have h1 : a ∈ m := by
        rcases List.mem_cons.1 ((h a).1 (List.mem_cons_self ..)) with h1 | h1
        · exact absurd h1 hne
        · exact h1
      have h2 : b ∈ l := by
        rcases List.mem_cons.1 ((h b).2 (List.mem_cons_self ..)) with h2 | h2
        · exact absurd h2.symm hne
        · exact h2
      have k1 := hl'.1 b h2
      have k2 := hm'.1 a h1
      rw [key_asym k1] at k2
      cases k2
    subst e
    have : l = m := srt_ext hl'.2 hm'.2 fun x => by
      constructor
      · intro hx
        rcases List.mem_cons.1 ((h x).1 (List.mem_cons_of_mem _ hx)) with h1 | h1
        · subst h1
          have := hl'.1 x hx
          rw [key_irr] at this; cases this
        · exact h1
      · intro hx
        rcases List.mem_cons.1 ((h x).2 (List.mem_cons_of_mem _ hx)) with h1 | h1
        · subst h1
          have := hm'.1 x hx
          rw [key_irr] at this; cases this
        · exact h1
    rw [this]
def insA (x : Nat) (l : List Nat) (k : Nat) : List Nat := l.take k ++ x :: l.drop k
def insN (x : Nat) (l : List Nat) : List Nat :=
  if l.getD (l.findIdx fun y => !keyLt y x) x = x ∧ l.findIdx (fun y => !keyLt y x) < l.length then l else insA x l (l.findIdx fun y => !keyLt y x)
def sortN (xs : List Nat) : List Nat := xs.foldl (fun acc x => insN x acc) []
theorem insA_mem {x y : Nat} {l : List Nat} {k : Nat} : y ∈ insA x l k ↔ y = x ∨ y ∈ l := by
  unfold insA
  rw [List.mem_append, List.mem_cons]
  have : y ∈ l ↔ y ∈ l.take k ∨ y ∈ l.drop k := by rw [← List.mem_append, List.take_append_drop]
  rw [this]
  constructor
  · rintro (h | h | h)
    · exact .inr (.inl h)
    · exact .inl h
    · exact .inr (.inr h)
  · rintro (h | h | h)
    · exact .inr (.inl h)
    · exact .inl h
    · exact .inr (.inr h)
theorem ins_mem {x y : Nat} {l : List Nat} : y ∈ insN x l ↔ y = x ∨ y ∈ l := by
  unfold insN
  split
  · rename_i h
    constructor
    · exact .inr
    · rintro (h1 | h1)
      · subst h1
        rw [← h.1, List.getD_eq_getElem?_getD, List.getElem?_eq_getElem h.2]
        exact List.getElem_mem _
      · exact h1
  · exact insA_mem
theorem ins_srt {x : Nat} {l : List Nat} (hl : Srt l) : Srt (insN x l) := by
  unfold insN
  split
  · exact hl
  · rename_i h
    have hb : ∀ j (hj : j < l.length), j < (l.findIdx fun y => !keyLt y x) → keyLt l[j] x = true := fun j hj hlt => by
      have := List.not_of_lt_findIdx (p := fun y => !keyLt y x) (xs := l) (i := j) hlt
      simpa using this
    have ha : ∀ j (hj : j < l.length), (l.findIdx fun y => !keyLt y x) ≤ j → keyLt x l[j] = true := fun j hj hle => by
      have hlt : (l.findIdx fun y => !keyLt y x) < l.length := by omega
      have h1 : keyLt l[l.findIdx fun y => !keyLt y x] x = false := by
        have := List.findIdx_getElem (p := fun y => !keyLt y x) (xs := l) (w := hlt)
        simpa using this
      have hne : l[l.findIdx fun y => !keyLt y x] ≠ x := fun e => h ⟨by rw [List.getD_eq_getElem?_getD, List.getElem?_eq_getElem hlt]; exact e, hlt⟩
      have h2 := key_total h1 hne
      rcases Nat.lt_or_ge (l.findIdx fun y => !keyLt y x) j with h3 | h3
      · exact key_trans h2 (List.pairwise_iff_getElem.1 hl _ _ hlt hj h3)
      · have : j = l.findIdx fun y => !keyLt y x := by omega
        subst this
        exact h2
    generalize (l.findIdx fun y => !keyLt y x) = k at *
    unfold insA Srt
    rw [List.pairwise_append]
    refine ⟨hl.sublist (List.take_sublist _ _), List.pairwise_cons.2 ⟨fun y hy => ?_, hl.sublist (List.drop_sublist _ _)⟩, fun a hma b hmb => ?_⟩
    · obtain ⟨i, hi, e⟩ := List.getElem_of_mem hy
      rw [List.getElem_drop] at e
      rw [← e]
      exact ha _ (by rw [List.length_drop] at hi; omega) (by omega)
    · obtain ⟨i, hi, e⟩ := List.getElem_of_mem hma
      rw [List.length_take] at hi
      rw [List.getElem_take] at e
      have h1 := hb i (by omega) (by omega)
      rw [e] at h1
      rcases List.mem_cons.1 hmb with h2 | h2
      · rw [h2]; exact h1
      · obtain ⟨j, hj, e2⟩ := List.getElem_of_mem h2
        rw [List.getElem_drop] at e2
        rw [← e2]
        exact key_trans h1 (ha _ (by rw [List.length_drop] at hj; omega) (by omega))
theorem sort_fold : ∀ (xs acc : List Nat), Srt acc → Srt (xs.foldl (fun acc x => insN x acc) acc) ∧ ∀ y, y ∈ xs.foldl (fun acc x => insN x acc) acc ↔ y ∈ acc ∨ y ∈ xs
  | [], acc, h => ⟨h, fun y => by simp⟩
  | x :: xs, acc, h => by
    obtain ⟨h1, h2⟩ := sort_fold xs (insN x acc) (ins_srt h)
    refine ⟨h1, fun y => ?_⟩
    show y ∈ xs.foldl (fun acc x => insN x acc) (insN x acc) ↔ _
    rw [h2, ins_mem, List.mem_cons]
    constructor
    · rintro ((h3 | h3) | h3)
      · exact .inr (.inl h3)
      · exact .inl h3
      · exact .inr (.inr h3)
    · rintro (h3 | h3 | h3)
      · exact .inl (.inr h3)
      · exact .inl (.inl h3)
      · exact .inr h3
theorem sort_srt (xs : List Nat) : Srt (sortN xs) := (sort_fold xs [] List.Pairwise.nil).1
theorem sort_mem {xs : List Nat} {y : Nat} : y ∈ sortN xs ↔ y ∈ xs := by
  have := (sort_fold xs [] List.Pairwise.nil).2 y
  unfold sortN
  simpa using this
def zL (l : List Nat) : List Int := l.map fun (s : Nat) => (s : Int)
theorem zL_len (l : List Nat) : (zL l).length = l.length := by simp [zL]
theorem zL_get (l : List Nat) (i : Nat) : (zL l).getD i 0 = ((l.getD i 0 : Nat) : Int) := by
  unfold zL
  rw [List.getD_eq_getElem?_getD, List.getD_eq_getElem?_getD, List.getElem?_map]
  cases l[i]? <;> simp
theorem zL_push (l : List Nat) (x : Nat) : zL l ++ [(x : Int)] = zL (l ++ [x]) := by simp [zL]
def subT (t s : Nat) : Bool := decide (t &&& s = t)
theorem subT_iff {t s : Nat} : subT t s = true ↔ SubN t s := by
  unfold subT
  rw [decide_eq_true_eq]
  constructor
  · intro h j hj
    rw [← h, Nat.testBit_and] at hj
    simp only [Bool.and_eq_true] at hj
    exact hj.2
  · intro h
    refine Nat.eq_of_testBit_eq fun j => ?_
    rw [Nat.testBit_and]
    cases ht : t.testBit j
    · rfl
    · rw [h j ht]; rfl
end Go.PN
namespace Go.PN
open Go.AI
structure FrOk (f : FM) : Prop where
  v0 : 0 ≤ f.vars
  v24 : f.vars ≤ 24
  n128 : f.nodes.length ≤ 128
  kind : ∀ i, i < f.nodes.length → 0 ≤ (f.nodes.getD i fn0).kind ∧ (f.nodes.getD i fn0).kind ≤ 5
  ari : ∀ i, i < f.nodes.length → arityB (f.nodes.getD i fn0).kind (f.nodes.getD i fn0).args.length = true
  arg : ∀ i, i < f.nodes.length → ∀ a ∈ (f.nodes.getD i fn0).args, 0 ≤ a ∧ a < f.vars + i
  kc : ∀ i, i < f.nodes.length → kcode (f.nodes.getD i fn0) = 0
  t0 : 0 ≤ f.top
  t1 : f.top < f.vars + f.nodes.length
theorem fr_ok {f : FM} (h : fcode f = 0) : FrOk f := by
  unfold fcode at h
  split at h
  · cases h
  · rename_i h1
    split at h
    · cases h
    · rename_i h2
      split at h
      · rename_i h3; exact absurd h h3
      · rename_i h3
        split at h
        · rename_i h4
          have hz : ∀ j, j < f.nodes.length → fncode f j = 0 := fun j hj => ffirst_zero f.nodes.length 0 (by simpa using h3) j (by omega) (by omega)
          have hs : ∀ j, j < f.nodes.length → (0 ≤ (f.nodes.getD j fn0).kind ∧ (f.nodes.getD j fn0).kind ≤ 5) ∧ arityB (f.nodes.getD j fn0).kind (f.nodes.getD j fn0).args.length = true ∧ (f.nodes.getD j fn0).args.all (argOk f j) = true ∧ kcode (f.nodes.getD j fn0) = 0 := fun j hj => by
            have hc := hz j hj
            unfold fncode at hc
            split at hc
            · cases hc
            · rename_i q1
              split at hc
              · cases hc
              · rename_i q2
                split at hc
                · cases hc
                · rename_i q3
                  exact ⟨by omega, by simpa using q2, by simpa using q3, hc⟩
          unfold fvalidB at h4
          simp only [Bool.and_eq_true, Bool.or_eq_true, decide_eq_true_eq] at h4
          refine ⟨by omega, by omega, by omega, fun i hi => (hs i hi).1, fun i hi => (hs i hi).2.1, fun i hi a ha => ?_, fun i hi => (hs i hi).2.2.2, by omega, by omega⟩
          have := (hs i hi).2.2.1
          rw [List.all_eq_true] at this
          have := this a ha
          unfold argOk at this
          simpa using this
        · cases h
theorem FrOk.len {f : FM} (h : FrOk f) {i : Nat} (hi : i < f.nodes.length) : (f.nodes.getD i fn0).args.length ≤ 16 := by
  have := h.ari i hi
  generalize f.nodes.getD i fn0 = x at *
  unfold arityB at this
  split at this
  · have := of_decide_eq_true this; omega
  · split at this
    · have := of_decide_eq_true this; omega
    · rw [Bool.and_eq_true, decide_eq_true_eq, decide_eq_true_eq] at this; omega
theorem FrOk.at {f : FM} (h : FrOk f) {i j : Nat} (hi : i < f.nodes.length) (hj : j < (f.nodes.getD i fn0).args.length) : 0 ≤ (f.nodes.getD i fn0).args.getD j 0 ∧ (f.nodes.getD i fn0).args.getD j 0 < f.vars + i := by
  refine h.arg i hi _ ?_
  generalize (f.nodes.getD i fn0).args = l at *
  rw [List.getD_eq_getElem?_getD, List.getElem?_eq_getElem hj]
  exact List.getElem_mem hj
def markTo (az : List Int) (ms : List Bool) : Nat → List Bool
  | 0 => ms
  | j + 1 => (markTo az ms j).set (az.getD j 0).toNat true
theorem markTo_len (az : List Int) (ms : List Bool) : ∀ j, (markTo az ms j).length = ms.length
  | 0 => rfl
  | j + 1 => by rw [markTo, List.length_set, markTo_len az ms j]
theorem markTo_keep {az : List Int} {ms : List Bool} {q : Nat} (h : ms.getD q false = true) : ∀ j, (markTo az ms j).getD q false = true
  | 0 => h
  | j + 1 => by
    rw [markTo, List.getD_eq_getElem?_getD]
    have ih := markTo_keep (az := az) h j
    by_cases e : (az.getD j 0).toNat = q
    · subst e
      by_cases hl : (az.getD j 0).toNat < (markTo az ms j).length
      · rw [List.getElem?_set_self hl]; rfl
      · rw [List.getD_eq_getElem?_getD, List.getElem?_eq_none (by omega)] at ih; cases ih
    · rw [List.getElem?_set_ne e, ← List.getD_eq_getElem?_getD]; exact ih
theorem markTo_out {az : List Int} {ms : List Bool} {q : Nat} (h : ∀ j, j < az.length → (az.getD j 0).toNat ≠ q) : ∀ j, j ≤ az.length → (markTo az ms j).getD q false = ms.getD q false
  | 0, _ => rfl
  | j + 1, hj => by
    rw [markTo, List.getD_eq_getElem?_getD, List.getElem?_set_ne (h j (by omega)), ← List.getD_eq_getElem?_getD, markTo_out h j (by omega)]
theorem markTo_in {az : List Int} {ms : List Bool} : ∀ {j q : Nat}, q < j → (az.getD q 0).toNat < ms.length → (markTo az ms j).getD (az.getD q 0).toNat false = true
  | j + 1, q, h, hl => by
    by_cases e : q = j
    · subst e
      rw [markTo, List.getD_eq_getElem?_getD, List.getElem?_set_self (by rw [markTo_len]; exact hl)]; rfl
    · have ih := markTo_in (az := az) (ms := ms) (show q < j by omega) hl
      rw [markTo, List.getD_eq_getElem?_getD]
      by_cases e2 : (az.getD j 0).toNat = (az.getD q 0).toNat
      · rw [e2, List.getElem?_set_self (by rw [markTo_len]; exact hl)]; rfl
      · rw [List.getElem?_set_ne e2, ← List.getD_eq_getElem?_getD]; exact ih
def belTo (f : FM) : Nat → List Bool
  | 0 => (List.replicate (f.vars.toNat + f.nodes.length) false).set f.top.toNat true
  | j + 1 => if (belTo f j).getD (f.vars.toNat + (f.nodes.length - 1 - j)) false then markTo (f.nodes.getD (f.nodes.length - 1 - j) fn0).args (belTo f j) (f.nodes.getD (f.nodes.length - 1 - j) fn0).args.length else belTo f j
theorem belTo_len (f : FM) : ∀ j, (belTo f j).length = f.vars.toNat + f.nodes.length
  | 0 => by simp [belTo]
  | j + 1 => by
    rw [belTo]
    split
    · rw [markTo_len, belTo_len f j]
    · exact belTo_len f j
abbrev belL (f : FM) : List Bool := belTo f f.nodes.length
theorem belTo_keep {f : FM} {q j : Nat} (h : (belTo f j).getD q false = true) : (belTo f (j + 1)).getD q false = true := by
  rw [belTo]
  split
  · exact markTo_keep h _
  · exact h
theorem belTo_out {f : FM} (ok : FrOk f) {j i : Nat} (hj : j < f.nodes.length) (hi : f.nodes.length - 1 - j ≤ i) : (belTo f (j + 1)).getD (f.vars.toNat + i) false = (belTo f j).getD (f.vars.toNat + i) false := by
  rw [belTo]
  split
  · refine markTo_out (fun q hq => ?_) _ (Nat.le_refl _)
    have := ok.at (i := f.nodes.length - 1 - j) (by omega) hq
    have := ok.v0
    omega
  · rfl
theorem bel_closed {f : FM} (ok : FrOk f) : ∀ j, j ≤ f.nodes.length → ∀ i, f.nodes.length ≤ i + j → i < f.nodes.length → (belTo f j).getD (f.vars.toNat + i) false = true → ∀ q, q < (f.nodes.getD i fn0).args.length → (belTo f j).getD ((f.nodes.getD i fn0).args.getD q 0).toNat false = true
  | 0, _, i, h1, h2, _, _, _ => by omega
  | j + 1, hj, i, h1, h2, hm, q, hq => by
    rw [belTo_out ok (by omega) (by omega)] at hm
    by_cases e : f.nodes.length - 1 - j = i
    · rw [belTo, e, if_pos hm]
      refine markTo_in hq ?_
      have := ok.at h2 hq
      have := ok.v0
      rw [belTo_len]
      omega
    · exact belTo_keep (bel_closed ok j (by omega) i (by omega) h2 hm q hq)
theorem bel_top {f : FM} (ok : FrOk f) : ∀ j, (belTo f j).getD f.top.toNat false = true
  | 0 => by
    have := ok.t0
    have := ok.t1
    have := ok.v0
    rw [belTo, List.getD_eq_getElem?_getD, List.getElem?_set_self (by simp; omega)]; rfl
  | j + 1 => belTo_keep (bel_top ok j)
def szTo (f : FM) : Nat → Nat
  | 0 => 0
  | k + 1 => szTo f k + if (belL f).getD (f.vars.toNat + k) false then 1 else 0
def arTo (f : FM) : Nat → Nat
  | 0 => 0
  | k + 1 => arTo f k + if (belL f).getD (f.vars.toNat + k) false then (f.nodes.getD k fn0).args.length else 0
theorem szTo_le (f : FM) : ∀ k, szTo f k ≤ k
  | 0 => Nat.le_refl _
  | k + 1 => by have := szTo_le f k; rw [szTo]; split <;> omega
theorem arTo_le {f : FM} (ok : FrOk f) : ∀ k, k ≤ f.nodes.length → arTo f k ≤ 16 * k
  | 0, _ => Nat.le_refl _
  | k + 1, h => by
    have := arTo_le ok k (by omega)
    have := ok.len (i := k) (by omega)
    rw [arTo]
    split <;> omega
end Go.PN
namespace Go.Proofs.YtcoflhkcpnoaaaaGreat
open Go.AI Go.PN
attribute [local irreducible] aw Fa Fh DrK
set_option maxRecDepth 100000 in
set_option maxHeartbeats 3200000 in
theorem below_fa (f : FM) (ok : FrOk f) : Fa Tryz.prog 101 [.agg (fmc false f)] (.c (bs true (belL f))) := by
  have v0 := ok.v0
  have v24 := ok.v24
  have n128 := ok.n128
  have t0 := ok.t0
  have t1 := ok.t1
  refine fa_of_body Tryz.func101 rfl rfl (by simp [Tryz.ntmps101]) fun C hC => ?_
  simp only [initS, Nat.reduceAdd]
  refine xG ?_
  refine xB fun g1 hn_g1=>?_
  refine yG hn_g1 ?_
  refine aw_make (n := f.vars.toNat + f.nodes.length) (c := f.vars.toNat + f.nodes.length) (size := 1) (z := [.bool false]) rfl rfl rfl (zE hn_g1) (zE hn_g1) rfl (by omega) (zE hn_g1) (zE hn_g1) (by omega) (by omega) (by omega) (by omega) (by omega) fun g3 hn_g3 => ?_
  simp only [Nat.mul_one]
  rw [make_bs]
  replace hn_g3 := Heap.ne_of hn_g3
  dsimp only [Heap.ne] at hn_g3
  refine yS (oj hn_g1 hn_g3) ?_
  refine yG (oj hn_g1 hn_g3) ?_
  refine yW (oj hn_g1 hn_g3) ?_
  refine yS (oj hn_g1 hn_g3) ?_
  rw [updF_bs (i := f.top.toNat) (zs := List.replicate (f.vars.toNat + f.nodes.length) false) (v := true) (by rw [List.length_replicate]; omega)]
  refine yG (oj hn_g1 hn_g3) ?_
  have hN : ((f.vars.toNat + f.nodes.length : Nat) : Int) = f.vars + f.nodes.length := by omega
  refine aw_lp (fun j : Nat => [(1, .c (.optr g1 0)), (3, .c (.osl g3 1 0 (f.vars.toNat + f.nodes.length))), (4, .c (.int .i64 ((f.nodes.length : Int) - 1 - j)))]) (fun j => [(g3, .cells 4 (f.vars.toNat + f.nodes.length) (bsF (belTo f j))), (g1, .cells 50 3 (ofL (fmc false f)))]) (fun j => j ≤ f.nodes.length) (fun j => f.nodes.length - j) 0 (by refine yS (oj hn_g1 hn_g3) ?_; simp) zZ (Nat.zero_le _) ?_
  rintro j hj
  have hbl := belTo_len f j
  refine yG (oj hn_g1 hn_g3) ?_
  refine yF (oj hn_g1 hn_g3) (fun h1=>?_) fun h1=>?_
  · have h1' : j < f.nodes.length := by have := of_decide_eq_true h1; omega
    obtain ⟨i, hi⟩ : ∃ i : Nat, i = f.nodes.length - 1 - j := ⟨_, rfl⟩
    have hij : (f.nodes.length : Int) - 1 - (j : Int) = (i : Int) := by omega
    have hst : belTo f (j + 1) = if (belTo f j).getD (f.vars.toNat + i) false then markTo (f.nodes.getD i fn0).args (belTo f j) (f.nodes.getD i fn0).args.length else belTo f j := by rw [belTo, hi]
    have hil : i < f.nodes.length := by omega
    have hidx : (f.vars + (i : Int)).toNat = f.vars.toNat + i := by omega
    have hnx : (i : Int) - 1 = (f.nodes.length : Int) - 1 - ((j + 1 : Nat) : Int) := by omega
    have hln := ok.len hil
    have hat := fun q hq => ok.at (j := q) hil hq
    rw [hij]
    refine yG (oj hn_g1 (oj hn_g3 hidx)) ?_
    refine yF (oj hn_g1 (oj hn_g3 hidx)) (fun hm=>?_) fun hm=>?_
    · rw [if_pos hm] at hst
      generalize hx : f.nodes.getD i fn0 = x at *
      refine yG (oj hn_g1 (oj hn_g3 (oj hidx hx))) ?_
      refine aw_lp (fun q : Nat => [(1, .c (.optr g1 0)), (3, .c (.osl g3 1 0 (f.vars.toNat + f.nodes.length))), (4, .c (.int .i64 (i : Int))), (38, .c (is true x.args)), (39, .c (.int .i64 x.args.length)), (40, .c (.int .i64 q))]) (fun q => [(g3, .cells 4 (f.vars.toNat + f.nodes.length) (bsF (markTo x.args (belTo f j) q))), (g1, .cells 50 3 (ofL (fmc false f)))]) (fun q => q ≤ x.args.length) (fun q => x.args.length - q) 0 (zB (oj hn_g1 (oj hn_g3 (oj hidx hx)))) zZ (Nat.zero_le _) ?_
      rintro q hq
      have hml := markTo_len x.args (belTo f j) q
      refine yG (oj hn_g1 (oj hn_g3 (oj hidx hx))) ?_
      refine yF (oj hn_g1 (oj hn_g3 (oj hidx hx))) (fun h2=>?_) fun h2=>?_
      · have h2' : q < x.args.length := by have := of_decide_eq_true h2; omega
        obtain ⟨a0, a1⟩ := hat q h2'
        refine yG (oj hn_g1 (oj hn_g3 (oj hidx hx))) ?_
        refine yW (oj hn_g1 (oj hn_g3 (oj hidx hx))) ?_
        refine yS (oj hn_g1 (oj hn_g3 (oj hidx hx))) ?_
        rw [updF_bs (by omega)]
        refine yG (oj hn_g1 (oj hn_g3 (oj hidx hx))) ?_
        exact aw_stop ⟨q + 1, by omega, (zB (oj hn_g1 (oj hn_g3 (oj hidx hx)))), zZ, by omega⟩
      · have h2' : q = x.args.length := by have := of_decide_eq_false h2; omega
        subst h2'
        refine yG (oj hn_g1 (oj hn_g3 (oj hidx hx))) ?_
        rw [← hst]
        exact aw_stop ⟨j + 1, by omega, by rw [← hnx]; exact (zB (oj hn_g1 (oj hn_g3 (oj hidx hx)))), zZ, by omega⟩
    · have hm' : (belTo f j).getD (f.vars.toNat + i) false = false := hm
      rw [if_neg (by rw [hm']; simp)] at hst
      refine yG (oj hn_g1 (oj hn_g3 hidx)) ?_
      rw [← hst]
      exact aw_stop ⟨j + 1, by omega, by rw [← hnx]; exact (zB (oj hn_g1 (oj hn_g3 hidx))), zZ, by omega⟩
  · have h1' : j = f.nodes.length := by have := of_decide_eq_false h1; omega
    subst h1'
    refine yG (oj hn_g1 hn_g3) ?_
    refine yT hC (oj hn_g1 hn_g3) ?_
    exact .one (.c (ler_oslbs (zE (oj hn_g1 hn_g3)) hbl.symm))
end Go.Proofs.YtcoflhkcpnoaaaaGreat
