/- Texts of one proof, laid one behind the other by a program (merge.py): PRat, AiNew, AiEval2, TyA. -/
import Derived.Test.YtmkomfdiggcloaaGreatM06
import Derived.Test.YtmkomfdiggcloaaGreatM04
import Derived.Laws.StructEq
import Derived.Test.YtmkomfdiggcloaaGreatProg
import Derived.KernelRfl
set_option linter.unusedSimpArgs false
set_option linter.unusedVariables false
/- Fractions as the program holds them, and the rational numbers that they count as. No program in sight. -/
namespace Go.PN

/-- What a fraction holds. -/
structure RD where
  neg : Bool
  num : List Nat
  den : List Nat
def RD.wf (r : RD) (L : Nat) : Prop := (∀ x ∈ r.num, x < 4294967296) ∧ (∀ x ∈ r.den, x < 4294967296) ∧ r.num.length ≤ L ∧ r.den.length ≤ L
def plainB (xs : List Nat) : Bool := decide (0 < xs.length) && !decide (xs.getD (xs.length - 1) 0 = 0)
def RD.valid (r : RD) : Bool := if r.num.length = 0 ∧ r.den.length = 0 then !r.neg else plainB r.num && plainB r.den && decide (Nat.gcd (val r.num) (val r.den) = 1)
/-- Does it count as itself, and not as 0? -/
def RD.some (r : RD) : Bool := r.valid && decide (r.num.length ≠ 0)
def RD.pn (r : RD) : Nat := if r.some then val r.num else 0
def RD.pd (r : RD) : Nat := if r.some then val r.den else 1
def RD.ps (r : RD) : Bool := if r.some then r.neg else false
def sgn (neg : Bool) (n : Nat) : Int := if neg then -(n : Int) else n
def sq (neg : Bool) (n d : Nat) : Rat := mkRat (sgn neg n) d
/-- The rational number. -/
def RD.q (r : RD) : Rat := sq r.ps r.pn r.pd
/-- The valid form. -/
def rd (q : Rat) : RD := ⟨decide (q.num < 0), words q.num.natAbs, if q.num = 0 then [] else words q.den⟩

theorem sgn_abs (b : Bool) (n : Nat) : (sgn b n).natAbs = n := by unfold sgn; cases b <;> simp
theorem sgn_neg (b : Bool) (n : Nat) : sgn (!b) n = - sgn b n := by unfold sgn; cases b <;> simp
theorem sgn_mul (a b : Bool) (n m : Nat) : sgn (a != b) (n * m) = sgn a n * sgn b m := by unfold sgn; cases a <;> cases b <;> simp [Int.natCast_mul, Int.neg_mul, Int.mul_neg]
theorem mkRat_nd {n : Int} {d : Nat} (hd : d ≠ 0) : (mkRat n d).num = n / (n.natAbs.gcd d : Nat) ∧ (mkRat n d).den = d / n.natAbs.gcd d := by
  rw [← Rat.normalize_eq_mkRat hd, Rat.normalize_eq]
  exact ⟨rfl, rfl⟩
theorem plain_words {xs : List Nat} (hx : ∀ x ∈ xs, x < 4294967296) (hp : plainB xs = true) : words (val xs) = xs ∧ val xs ≠ 0 := by
  simp only [plainB, Bool.and_eq_true, decide_eq_true_eq, Bool.not_eq_true', decide_eq_false_iff_not] at hp
  have h := words_val hx (.inr hp.2)
  refine ⟨h, fun e => ?_⟩
  rw [e, words_zero] at h
  rw [← h] at hp
  simp at hp
theorem RD.some_spec {r : RD} {L : Nat} (hw : r.wf L) (hs : r.some = true) : words (val r.num) = r.num ∧ words (val r.den) = r.den ∧ val r.num ≠ 0 ∧ val r.den ≠ 0 ∧ Nat.gcd (val r.num) (val r.den) = 1 := by
  simp only [RD.some, Bool.and_eq_true, decide_eq_true_eq] at hs
  obtain ⟨hv, hn⟩ := hs
  unfold RD.valid at hv
  rw [if_neg (fun h => hn h.1)] at hv
  simp only [Bool.and_eq_true, decide_eq_true_eq] at hv
  obtain ⟨⟨h1, h2⟩, h3⟩ := hv
  have p1 := plain_words hw.1 h1
  have p2 := plain_words hw.2.1 h2
  exact ⟨p1.1, p2.1, p1.2, p2.2, h3⟩
theorem RD.pd_ne {r : RD} {L : Nat} (hw : r.wf L) : r.pd ≠ 0 := by
  unfold RD.pd
  split
  · rename_i h; exact (RD.some_spec hw h).2.2.2.1
  · simp
theorem words_one : words 1 = [1] := by rw [words_cons (by omega)]; simp [words_zero]
theorem RD.pn_words {r : RD} {L : Nat} (hw : r.wf L) (hs : r.some = true) : words r.pn = r.num ∧ words r.pd = r.den ∧ r.ps = r.neg := by
  obtain ⟨h1, h2, _⟩ := RD.some_spec hw hs
  unfold RD.pn RD.pd RD.ps
  simp only [hs, if_true]
  exact ⟨h1, h2, trivial⟩
theorem RD.pn_none {r : RD} (hs : r.some = false) : words r.pn = [] ∧ words r.pd = [1] ∧ r.ps = false := by
  unfold RD.pn RD.pd RD.ps
  simp [hs, words_zero, words_one]
theorem RD.p_len {r : RD} {L : Nat} (hw : r.wf L) (hL : 1 ≤ L) : (words r.pn).length ≤ L ∧ (words r.pd).length ≤ L := by
  cases hs : r.some with
  | true => obtain ⟨h1, h2, _⟩ := RD.pn_words hw hs; rw [h1, h2]; exact ⟨hw.2.2.1, hw.2.2.2⟩
  | false => obtain ⟨h1, h2, _⟩ := RD.pn_none hs; rw [h1, h2]; exact ⟨by simp, by simpa using hL⟩

theorem rd_sq {neg : Bool} {n d : Nat} (hn : n ≠ 0) (hd : d ≠ 0) : rd (sq neg n d) = ⟨neg, words (n / Nat.gcd n d), words (d / Nat.gcd n d)⟩ := by
  obtain ⟨h1, h2⟩ := mkRat_nd (n := sgn neg n) hd
  rw [sgn_abs] at h1 h2
  have hg : 0 < Nat.gcd n d := Nat.gcd_pos_of_pos_left _ (Nat.pos_of_ne_zero hn)
  have hdv : Nat.gcd n d ∣ n := Nat.gcd_dvd_left n d
  have hq : 0 < n / Nat.gcd n d := Nat.div_pos (Nat.le_of_dvd (Nat.pos_of_ne_zero hn) hdv) hg
  have hnum : (sq neg n d).num = sgn neg (n / Nat.gcd n d) := by
    unfold sq
    rw [h1]
    unfold sgn
    cases neg with
    | false => simp
    | true =>
      simp only [if_true]
      rw [Int.neg_ediv_of_dvd (Int.ofNat_dvd.2 hdv)]
      simp
  unfold rd
  rw [hnum]
  have h0 : sgn neg (n / Nat.gcd n d) ≠ 0 := fun e => by
    have := congrArg Int.natAbs e
    rw [sgn_abs] at this
    rw [this] at hq
    simp at hq
  rw [if_neg h0, sgn_abs]
  have e2 : (sq neg n d).den = d / Nat.gcd n d := h2
  rw [e2]
  congr 1
  generalize n / Nat.gcd n d = m at hq
  unfold sgn
  cases neg with
  | false => simp
  | true => simp; omega
theorem rd_zero : rd 0 = ⟨false, [], []⟩ := by simp [rd, words_zero]
theorem sq_zero (neg : Bool) (d : Nat) : sq neg 0 d = 0 := by unfold sq sgn; cases neg <;> simp [Rat.zero_mkRat]

theorem plainB_words {n : Nat} (h : n ≠ 0) : plainB (words n) = true := by
  have hp := (words_plain n).resolve_left (fun e => h (words_eq_nil.1 e))
  have hl : (words n).length ≠ 0 := fun e => h (words_eq_nil.1 (List.length_eq_zero_iff.1 e))
  simp only [plainB, Bool.and_eq_true, decide_eq_true_eq, Bool.not_eq_true', decide_eq_false_iff_not]
  exact ⟨by omega, hp⟩
theorem rd_some {q : Rat} (h : q ≠ 0) : (rd q).some = true ∧ (rd q).valid = true := by
  have hn : q.num ≠ 0 := fun e => h (Rat.num_eq_zero.1 e)
  have hl : (words q.num.natAbs).length ≠ 0 := fun e => hn (by have := words_eq_nil.1 (List.length_eq_zero_iff.1 e); omega)
  have hv : (rd q).valid = true := by
    unfold RD.valid rd
    simp only [hn, if_false]
    rw [if_neg (fun x => hl x.1), plainB_words (by omega), plainB_words q.den_nz, val_words, val_words]
    have := q.reduced
    simp only [Bool.and_self, Bool.true_and, decide_eq_true_eq]
    exact this
  refine ⟨?_, hv⟩
  unfold RD.some
  rw [hv]
  simp only [Bool.true_and, decide_eq_true_eq]
  exact hl
theorem rd_q (q : Rat) : (rd q).q = q := by
  by_cases h : q = 0
  · subst h
    rw [rd_zero]
    rfl
  · obtain ⟨h1, _⟩ := rd_some h
    have hn : q.num ≠ 0 := fun e => h (Rat.num_eq_zero.1 e)
    have e : (rd q).q = sq (decide (q.num < 0)) q.num.natAbs q.den := by
      unfold RD.q RD.ps RD.pn RD.pd
      rw [h1]
      simp only [if_true]
      unfold rd
      simp only [hn, if_false, val_words]
    rw [e]
    unfold sq
    have : sgn (decide (q.num < 0)) q.num.natAbs = q.num := by
      unfold sgn
      split
      · rename_i hlt; simp only [decide_eq_true_eq] at hlt; omega
      · rename_i hlt; simp only [decide_eq_true_eq] at hlt; omega
    rw [this]
    exact Rat.mkRat_self q
theorem rd_valid (q : Rat) : (rd q).valid = true := by
  by_cases h : q = 0
  · subst h; rw [rd_zero]; rfl
  · exact (rd_some h).2

/-- Numerator and denominator take at most L words. -/
def fits (q : Rat) (L : Nat) : Prop := q.num.natAbs < 4294967296 ^ L ∧ q.den < 4294967296 ^ L
theorem fits_mono {q : Rat} {L M : Nat} (h : fits q L) (hm : L ≤ M) : fits q M :=
  ⟨Nat.lt_of_lt_of_le h.1 (Nat.pow_le_pow_right (by omega) hm), Nat.lt_of_lt_of_le h.2 (Nat.pow_le_pow_right (by omega) hm)⟩
theorem rd_wf {q : Rat} {L : Nat} (h : fits q L) : (rd q).wf L := by
  refine ⟨words_lt _, ?_, words_len_le h.1, ?_⟩
  · unfold rd
    simp only
    split
    · simp
    · exact words_lt _
  · unfold rd
    simp only
    split
    · simp
    · exact words_len_le h.2
theorem fits_sq {neg : Bool} {n d L : Nat} (hd : d ≠ 0) (h1 : n < 4294967296 ^ L) (h2 : d < 4294967296 ^ L) : fits (sq neg n d) L := by
  obtain ⟨e1, e2⟩ := mkRat_nd (n := sgn neg n) hd
  rw [sgn_abs] at e1 e2
  unfold fits sq
  rw [e1, e2]
  refine ⟨Nat.lt_of_le_of_lt ?_ h1, Nat.lt_of_le_of_lt (Nat.div_le_self _ _) h2⟩
  have := Int.natAbs_ediv_le_natAbs (sgn neg n) ((Nat.gcd n d : Nat) : Int)
  rw [sgn_abs] at this
  exact this
theorem RD.fits {r : RD} {L : Nat} (hw : r.wf L) (hL : 1 ≤ L) : fits r.q L := by
  obtain ⟨h1, h2⟩ := RD.p_len hw hL
  have hp := RD.pd_ne hw
  exact fits_sq hp (Nat.lt_of_lt_of_le (words_pow_lt _) (Nat.pow_le_pow_right (by omega) h1)) (Nat.lt_of_lt_of_le (words_pow_lt _) (Nat.pow_le_pow_right (by omega) h2))
theorem norm_le {n : Int} {d L : Nat} (hd : d ≠ 0) (h1 : n.natAbs < 4294967296 ^ L) (h2 : d < 4294967296 ^ L) : PN.fits (mkRat n d) L := by
  obtain ⟨e1, e2⟩ := mkRat_nd (n := n) hd
  unfold PN.fits
  rw [e1, e2]
  exact ⟨Nat.lt_of_le_of_lt (Int.natAbs_ediv_le_natAbs _ _) h1, Nat.lt_of_le_of_lt (Nat.div_le_self _ _) h2⟩
theorem pow_mul_lt {a b L M : Nat} (h1 : a < 4294967296 ^ L) (h2 : b < 4294967296 ^ M) : a * b < 4294967296 ^ (L + M) := by
  rw [Nat.pow_add]
  exact Nat.mul_lt_mul'' h1 h2
theorem fits_add {a b : Rat} {L M : Nat} (ha : PN.fits a L) (hb : PN.fits b M) : PN.fits (a + b) (L + M + 1) := by
  rw [Rat.add_def, Rat.normalize_eq_mkRat]
  have h3 := pow_mul_lt ha.1 hb.2
  have h4 := pow_mul_lt hb.1 ha.2
  rw [Nat.add_comm M L] at h4
  refine norm_le (Nat.mul_ne_zero a.den_nz b.den_nz) ?_ ?_
  · refine Nat.lt_of_le_of_lt (Int.natAbs_add_le _ _) ?_
    rw [Int.natAbs_mul, Int.natAbs_mul, Int.natAbs_natCast, Int.natAbs_natCast, Nat.pow_succ]
    omega
  · have := pow_mul_lt ha.2 hb.2
    rw [Nat.pow_succ]
    omega
theorem fits_mul {a b : Rat} {L M : Nat} (ha : PN.fits a L) (hb : PN.fits b M) : PN.fits (a * b) (L + M) := by
  rw [Rat.mul_def, Rat.normalize_eq_mkRat]
  refine norm_le (Nat.mul_ne_zero a.den_nz b.den_nz) ?_ (pow_mul_lt ha.2 hb.2)
  rw [Int.natAbs_mul]
  exact pow_mul_lt ha.1 hb.1
theorem fits_neg {a : Rat} {L : Nat} (ha : PN.fits a L) : PN.fits (-a) L := by
  unfold PN.fits
  rw [Rat.neg_num, Rat.neg_den, Int.natAbs_neg]
  exact ha
theorem fits_sub {a b : Rat} {L M : Nat} (ha : PN.fits a L) (hb : PN.fits b M) : PN.fits (a - b) (L + M + 1) := by
  rw [Rat.sub_eq_add_neg]; exact fits_add ha (fits_neg hb)

/-- Sums and products of signed fractions. -/
theorem sq_add_same (x : Bool) {n m d e : Nat} (hd : d ≠ 0) (he : e ≠ 0) : sq x (n * e + m * d) (d * e) = sq x n d + sq x m e := by
  unfold sq
  rw [Rat.mkRat_add_mkRat _ _ hd he]
  congr 1
  unfold sgn
  cases x <;> simp [Int.natCast_mul, Int.neg_add, Int.neg_mul]
theorem sq_add_ge (x : Bool) {n m d e : Nat} (hd : d ≠ 0) (he : e ≠ 0) (h : m * d ≤ n * e) : sq x (n * e - m * d) (d * e) = sq x n d + sq (!x) m e := by
  unfold sq
  rw [Rat.mkRat_add_mkRat _ _ hd he, sgn_neg]
  congr 1
  unfold sgn
  cases x
  · simp only [Bool.false_eq_true, if_false]
    rw [Int.ofNat_sub h, Int.natCast_mul, Int.natCast_mul, Int.neg_mul]; omega
  · simp only [if_true]
    rw [Int.ofNat_sub h, Int.natCast_mul, Int.natCast_mul, Int.neg_neg, Int.neg_mul]; omega
theorem sq_add_lt (x : Bool) {n m d e : Nat} (hd : d ≠ 0) (he : e ≠ 0) (h : n * e ≤ m * d) : sq (!x) (m * d - n * e) (d * e) = sq x n d + sq (!x) m e := by
  have := sq_add_ge (!x) (n := m) (m := n) (d := e) (e := d) he hd h
  rw [Bool.not_not, Nat.mul_comm e d] at this
  rw [this]
  exact Rat.add_comm _ _
theorem sq_mul (x y : Bool) (n m d e : Nat) : sq (x != y) (n * m) (d * e) = sq x n d * sq y m e := by
  unfold sq
  rw [Rat.mkRat_mul_mkRat, sgn_mul]
theorem sq_neg (x : Bool) (n d : Nat) : sq (!x) n d = - sq x n d := by
  unfold sq
  rw [Rat.neg_mkRat, sgn_neg]
def signQ (q : Rat) : Int := if q = 0 then 0 else if q < 0 then -1 else 1
theorem sq_ne {neg : Bool} {n d : Nat} (hn : n ≠ 0) (hd : d ≠ 0) : sq neg n d ≠ 0 := by
  unfold sq
  rw [Ne, Rat.mkRat_eq_zero hd]
  intro e
  have := congrArg Int.natAbs e
  rw [sgn_abs] at this
  simp at this
  exact hn this
theorem sq_lt {neg : Bool} {n d : Nat} (hn : n ≠ 0) (hd : d ≠ 0) : sq neg n d < 0 ↔ neg = true := by
  have h := rd_sq (neg := neg) hn hd
  have h1 : decide ((sq neg n d).num < 0) = neg := congrArg RD.neg h
  have h2 : sq neg n d < 0 ↔ (sq neg n d).num < 0 := by rw [Rat.lt_iff]; simp
  rw [h2]
  constructor
  · intro h3; rw [← h1]; simpa using h3
  · intro h3; rw [h3] at h1; rw [h3]; simpa using h1
end Go.PN

/- Names of blocks kept apart; a truth value that decides what follows; branches that are decided. -/
namespace Go.AI

/-- g is none of the blocks of h. -/
def Heap.ne (g : Nat) : Heap → Prop
  | [] => True
  | (g', _) :: h => (¬ g = g' ∧ ¬ g' = g) ∧ Heap.ne g h
theorem Heap.ne_of {g : Nat} : ∀ {h : Heap}, g ∉ h.keys → Heap.ne g h
  | [], _ => trivial
  | (g', _) :: h, hg => by
    simp only [Heap.keys, List.map_cons, List.mem_cons, not_or] at hg
    exact ⟨⟨hg.1, fun e => hg.1 e.symm⟩, Heap.ne_of hg.2⟩

theorem Sl.set_same : ∀ {σ : Sl} {t : Nat} {v : AV}, σ.get t = v → v ≠ .c .any → σ.set t v = σ
  | [], t, v, h, hn => by simp [Sl.get] at h; exact absurd h.symm hn
  | (s, x) :: σ, t, v, h, hn => by
    by_cases e : s = t
    · subst e; simp [Sl.get] at h; subst h; simp [Sl.set]
    · simp only [Sl.get, e, if_false] at h
      simp only [Sl.set, e, if_false, Sl.set_same h hn]

section
variable {E : Env} {K : List It} {σ σ' : Sl} {h : Heap} {all rest : List Oper} {o : Oper}

/-- The slot's truth value is looked at. -/
theorem aw_split (t : Nat) {b : Bool} (hb : σ.get t = .c (.bool b)) (k1 : b = true → aw E K (σ.set t (.c (.bool true))) h) (k2 : b = false → aw E K (σ.set t (.c (.bool false))) h) : aw E K σ h := by
  cases b with
  | true => have := k1 rfl; rwa [Sl.set_same hb (fun e => by cases e)] at this
  | false => have := k2 rfl; rwa [Sl.set_same hb (fun e => by cases e)] at this
theorem drk_split (t : Nat) {b : Bool} {l : List Oper} {n : Nat} (hb : σ.get t = .c (.bool b)) (k1 : b = true → DrK E h l K n rest (σ.set t (.c (.bool true)))) (k2 : b = false → DrK E h l K n rest (σ.set t (.c (.bool false)))) : DrK E h l K n rest σ := by
  cases b with
  | true => have := k1 rfl; rwa [Sl.set_same hb (fun e => by cases e)] at this
  | false => have := k2 rfl; rwa [Sl.set_same hb (fun e => by cases e)] at this
theorem aw_condT {t : Nat} {x y : Code} (hb : σ.get t = .c (.bool true)) (k : aw E (.code x :: K) σ h) : aw E (.code (.cond (.tmp t) x y) :: K) σ h :=
  aw_cond hb (fun _ => k) (fun e => by cases e)
theorem aw_condF {t : Nat} {x y : Code} (hb : σ.get t = .c (.bool false)) (k : aw E (.code y :: K) σ h) : aw E (.code (.cond (.tmp t) x y) :: K) σ h :=
  aw_cond hb (fun e => by cases e) (fun _ => k)
/-- Only some slots and blocks are looked at from here on. -/
theorem aw_keep (σ' : Sl) (h' : Heap) (hs : Sl.sub σ' σ) (hh : h'.Sublist h) (k : aw E K σ' h') : aw E K σ h := aw_weak (Sl.sub_le hs) hh k
end
theorem le_any_row {h : Heap} {t t' : Bool} {s n : Nat} {f : Nat → CV} (ht : t' = true → t = true) : LeC h (.row t s n f) (.row t' s n f) := .row ht fun _ _ => .refl _
end Go.AI

/- More operations that leave memory alone: struct literals, type assertions, equality of structs, slices against nil. -/
namespace Go.AI

def okPart : AV → Bool
  | .tup _ => false
  | .c x => x.solid
  | .agg xs => xs.all CV.solid
theorem okPart_spec {x : AV} (h : okPart x = true) : (∀ xs, x ≠ .tup xs) ∧ x.cells.all CV.solid = true := by
  cases x with
  | tup xs => cases h
  | c x => exact ⟨(fun _ e => by cases e), by simpa [okPart, AV.cells] using h⟩
  | agg xs => exact ⟨(fun _ e => by cases e), by simpa [okPart, AV.cells] using h⟩

def okParts (ρ : Operand → AV) : List (Nat × Operand) → Bool
  | [] => true
  | p :: ps => okPart (ρ p.2) && okParts ρ ps
theorem okParts_spec {ρ : Operand → AV} : ∀ {ps : List (Nat × Operand)}, okParts ρ ps = true → ∀ p ∈ ps, (∀ xs, ρ p.2 ≠ .tup xs) ∧ (ρ p.2).cells.all CV.solid = true
  | [], _, p, hp => by simp at hp
  | q :: ps, h, p, hp => by
    simp only [okParts, Bool.and_eq_true] at h
    rcases List.mem_cons.1 hp with e | hp
    · subst e; exact okPart_spec h.1
    · exact okParts_spec h.2 p hp

section
variable {P : Program} {h : Heap} {ρ : Operand → AV}

def mapCells (ρ : Operand → AV) : List (Nat × Operand) → List (Nat × List CV)
  | [] => []
  | p :: ps => (p.1, (ρ p.2).cells) :: mapCells ρ ps
theorem mapCells_eq (ρ : Operand → AV) : ∀ ps : List (Nat × Operand), mapCells ρ ps = ps.map fun p => (p.1, (ρ p.2).cells)
  | [] => rfl
  | p :: ps => by simp [mapCells, mapCells_eq ρ ps]
def build2 (P : Program) (ρ : Operand → AV) (t : TypeId) (ps : List (Nat × Operand)) : Option (Prop × AV) :=
  match tFlds P t, tZero P t with
  | some fl, some z => match fillC fl z (mapCells ρ ps) with
    | some out => some (okParts ρ ps = true, .agg out)
    | none => none
  | _, _ => none
theorem build2_ok {t : TypeId} {ps : List (Nat × Operand)} {req : Prop} {r : AV} (hb : build2 P ρ t ps = some (req, r)) (hreq : req) : POk P h ρ (.build t ps.toArray) r := by
  unfold build2 at hb
  split at hb
  · rename_i fl z hfl hz
    split at hb
    · rename_i out hout
      simp only [Option.some.injEq, Prod.mk.injEq] at hb
      obtain ⟨rfl, rfl⟩ := hb
      refine buildAV_ok (req := ∀ p ∈ ps, (∀ xs, ρ p.2 ≠ .tup xs) ∧ (ρ p.2).cells.all CV.solid = true) ?_ (okParts_spec hreq)
      unfold buildAV
      rw [hfl, hz]
      simp only
      rw [← mapCells_eq, hout]
    · cases hb
  · cases hb

def isStr (P : Program) (t : TypeId) : Bool := match P.underlying t with
  | some (.struct _) => true
  | _ => false
theorem isStr_spec {t : TypeId} (h : isStr P t = true) : P.underlying t = some (.struct (P.fieldsOf t)) := by
  unfold isStr at h
  unfold Program.fieldsOf
  split at h
  · rename_i fs hfs; rw [hfs]
  · cases h
/-- A struct of ints alone that can be compared. -/
def tEqS (P : Program) (t : TypeId) : Option Nat :=
  if !P.stoodInHeld t && !P.eqGuardType P.depth t && (P.fieldsOf t).toList.zipIdx.all (fun p => p.1.name != "_" && p.1.offset == p.2 && (tInt P p.1.type).isSome) && isStr P t then some (P.fieldsOf t).size else none

def intsC : List CV → Option (List Int)
  | [] => some []
  | .int .i64 n :: l => match intsC l with
    | some ns => some (n :: ns)
    | none => none
  | _ => none
theorem intsC_rep {S : Bool → Nat → Prop} {w : World} : ∀ {cs : List CV} {ns : List Int} {us : List Value}, intsC cs = some ns → RepL S w cs us → us = ns.map (Value.int .i64)
  | [], ns, us, h1, h2 => by
    simp [intsC] at h1; subst h1
    cases us with
    | nil => rfl
    | cons u us => exact h2.elim
  | c :: cs, ns, us, h1, h2 => by
    cases us with
    | nil => exact h2.elim
    | cons u us =>
      unfold intsC at h1
      split at h1
      · rename_i heq; cases heq
      · rename_i n l heq
        cases heq
        split at h1
        · rename_i ns' hns
          injection h1 with h1
          subst h1
          have hu : u = .int .i64 n := h2.1
          rw [hu, List.map_cons, intsC_rep hns h2.2]
        · cases h1
      · cases h1
def eqZ : List Int → List Int → Bool
  | [], [] => true
  | a :: iu, b :: bs => a == b && eqZ iu bs
  | _, _ => false
theorem eqZ_eq : ∀ {iu bs : List Int}, eqZ iu bs = decide (iu = bs)
  | [], [] => by simp [eqZ]
  | a :: iu, b :: bs => by
    simp only [eqZ, eqZ_eq (iu := iu) (bs := bs), List.cons.injEq, Bool.decide_and]
    rfl
  | [], b :: bs => by simp [eqZ]
  | a :: iu, [] => by simp [eqZ]

theorem run_eqFields_ints {P : Program} (w : World) (xs ys : Array Value) (iu bs : List Int) (hx : xs = (iu.map (Value.int .i64)).toArray) (hy : ys = (bs.map (Value.int .i64)).toArray) (hl : iu.length = bs.length) :
    ∀ (fs : List Field) (k : Nat), (fs.zipIdx k).all (fun p => p.1.name != "_" && p.1.offset == p.2 && (tInt P p.1.type).isSome) = true → k + fs.length = iu.length → (Op.eqFields 9999 xs ys fs).run P w = .ok (eqZ (iu.drop k) (bs.drop k)) w
  | [], k, _, hk => by
    rw [List.drop_of_length_le (by simp at hk; omega), List.drop_of_length_le (by simp at hk; omega)]
    simp [Op.eqFields, eqZ]
  | f :: fs, k, hf, hk => by
    simp only [List.zipIdx_cons, List.all_cons, Bool.and_eq_true, bne_iff_ne, ne_eq, beq_iff_eq] at hf
    obtain ⟨⟨⟨hn, ho⟩, hi⟩, hr⟩ := hf
    simp only [List.length_cons] at hk
    have hka : k < iu.length := by omega
    have hkb : k < bs.length := by omega
    obtain ⟨kk, hkk⟩ := Option.isSome_iff_exists.1 hi
    have hu := tInt_spec hkk
    have hag : (isAgg f.type).run P w = .ok false w := by simp [isAgg, run_underlying hu]
    have e1 : xs[k]? = some (Value.int .i64 (iu[k])) := by rw [hx]; simp [hka]
    have e2 : ys[k]? = some (Value.int .i64 (bs[k])) := by rw [hy]; simp [hkb]
    have p1 : (part f.type xs f.offset).run P w = .ok (.int .i64 (iu[k])) w := by
      unfold part
      simp only [Sem.run_bind, hag, Result.andThen_ok, Bool.false_eq_true, if_false, ho, e1, Sem.run_pure]
    have p2 : (part f.type ys f.offset).run P w = .ok (.int .i64 (bs[k])) w := by
      unfold part
      simp only [Sem.run_bind, hag, Result.andThen_ok, Bool.false_eq_true, if_false, ho, e2, Sem.run_pure]
    have p3 : (Op.equalIn 9999 f.type (.int .i64 (iu[k])) (.int .i64 (bs[k]))).run P w = .ok (iu[k] == bs[k]) w := run_equalIn_int w 9998 f.type .i64 kk _ _ hu
    have ih := run_eqFields_ints w xs ys iu bs hx hy hl fs (k + 1) (by simpa using hr) (by omega)
    rw [List.drop_eq_getElem_cons hka, List.drop_eq_getElem_cons hkb]
    simp only [Op.eqFields, hn, not_false_eq_true, if_true, Sem.run_bind, p1, p2, p3, Result.andThen_ok, eqZ, ne_eq]
    cases hab : (iu[k] == bs[k]) with
    | true => simpa using ih
    | false => simp
theorem intsC_len : ∀ {cs : List CV} {ns : List Int}, intsC cs = some ns → ns.length = cs.length
  | [], ns, h => by simp [intsC] at h; subst h; rfl
  | c :: cs, ns, h => by
    unfold intsC at h
    split at h
    · rename_i heq; cases heq
    · rename_i n l heq
      cases heq
      split at h
      · rename_i ns' hns
        injection h with h
        subst h
        simp [intsC_len hns]
      · cases h
    · cases h
theorem tEqS_run {t n : Nat} (ht : tEqS P t = some n) {iu bs : List Int} (ha : iu.length = n) (hb : bs.length = n) (w : World) : (Op.equalIn 10000 t (.agg (iu.map (Value.int .i64)).toArray) (.agg (bs.map (Value.int .i64)).toArray)).run P w = .ok (eqZ iu bs) w ∧ P.eqGuardType P.depth t = false := by
  unfold tEqS at ht
  split at ht
  · rename_i hc
    simp only [Bool.and_eq_true, Bool.not_eq_true'] at hc
    obtain ⟨⟨⟨h1, h2⟩, h3⟩, h4⟩ := hc
    injection ht with ht
    refine ⟨?_, h2⟩
    have hu := isStr_spec h4
    rw [show (10000 : Nat) = 9999 + 1 from rfl, run_equalIn_agg w 9999 t _ _ hu h1]
    have := run_eqFields_ints (P := P) w _ _ iu bs rfl rfl (by omega) (P.fieldsOf t).toList 0 h3 (by simp; omega)
    simpa using this
  · cases ht

/-- Comparison of structs of ints. -/
def eqAgg (P : Program) (op : BinOp) (t : TypeId) (xs ys : List CV) : Option (Prop × AV) :=
  match tEqS P t, intsC xs, intsC ys, op with
  | some n, some iu, some bs, .eql => some (xs.length = n ∧ ys.length = n, .c (.bool (eqZ iu bs)))
  | some n, some iu, some bs, .neq => some (xs.length = n ∧ ys.length = n, .c (.bool (!eqZ iu bs)))
  | _, _, _, _ => none
theorem POk.eqAgg {op : BinOp} {t t' : TypeId} {x y : Operand} {xs ys : List CV} {req : Prop} {r : AV} (hx : ρ x = .agg xs) (hy : ρ y = .agg ys) (hr : AI.eqAgg P op t xs ys = some (req, r)) (hreq : req) : POk P h ρ (.binOp op t x y t') r := fun S w e _ ho _ => by
  have h1 := ho x (by simp [Op.operands])
  have h2 := ho y (by simp [Op.operands])
  rw [hx] at h1
  rw [hy] at h2
  obtain ⟨us, hu, hru⟩ := h1
  obtain ⟨vs, hv, hrv⟩ := h2
  unfold AI.eqAgg at hr
  split at hr
  · rename_i n iu bs ht ha hb
    simp only [Option.some.injEq, Prod.mk.injEq] at hr
    obtain ⟨rfl, rfl⟩ := hr
    obtain ⟨r1, r2⟩ := tEqS_run ht (iu := iu) (bs := bs) (by rw [intsC_len ha]; exact hreq.1) (by rw [intsC_len hb]; exact hreq.2) w
    have e1 := intsC_rep ha hru
    have e2 := intsC_rep hb hrv
    refine ⟨.bool (eqZ iu bs), fun o hop => exec_bin hop ?_ ?_, rfl⟩
    · rw [hu, hv]; exact run_eqGuard_agg w _ _ _ _ _ _ r2
    · rw [hu, hv, run_eql_struct, e1, e2, r1]; rfl
  · rename_i n iu bs ht ha hb
    simp only [Option.some.injEq, Prod.mk.injEq] at hr
    obtain ⟨rfl, rfl⟩ := hr
    obtain ⟨r1, r2⟩ := tEqS_run ht (iu := iu) (bs := bs) (by rw [intsC_len ha]; exact hreq.1) (by rw [intsC_len hb]; exact hreq.2) w
    have e1 := intsC_rep ha hru
    have e2 := intsC_rep hb hrv
    refine ⟨.bool (!eqZ iu bs), fun o hop => exec_bin hop ?_ ?_, rfl⟩
    · rw [hu, hv]; exact run_eqGuard_agg w _ _ _ _ _ _ r2
    · rw [hu, hv, run_neq_struct, e1, e2, r1]; rfl
  · cases hr

/-- The zero of an int type. -/
def tZI (P : Program) (t : TypeId) : Option (IntKind × Int) := match (P.info? t).bind (·.zero) with
  | some (.int k n) => some (k, n)
  | _ => none
theorem tZI_run {t : TypeId} {k : IntKind} {n : Int} (h : tZI P t = some (k, n)) (w : World) : (zeroValue t).run P w = .ok (.int k n) w := by
  unfold tZI at h
  split at h
  · rename_i k' n' he
    simp only [Option.some.injEq, Prod.mk.injEq] at h
    obtain ⟨rfl, rfl⟩ := h
    cases hi : P.info? t with
    | none => rw [hi] at he; cases he
    | some i =>
      rw [hi] at he
      have hz : i.zero = some (.int k' n') := he
      simp [zeroValue, typeInfo, hi, hz]
  · cases h
/-- What an error is asserted to be. -/
def assertAV (P : Program) (t : TypeId) : AV → Option (Prop × AV)
  | .c (.ifc u c) => match tInt P t with
    | some _ => if u = t then some (True, .tup [.c c, .c (.bool true)]) else none
    | none => none
  | .c .nilI => match tInt P t, tZI P t with
    | some _, some (k, z) => some (True, .tup [.c (.int k z), .c (.bool false)])
    | _, _ => none
  | _ => none
theorem POk.assertA {x : Operand} {xt t : TypeId} {req : Prop} {r : AV} (hr : assertAV P t (ρ x) = some (req, r)) (hreq : req) : POk P h ρ (.typeAssert x xt t true) r := fun S w e _ ho _ => by
  have h1 := ho x (by simp [Op.operands])
  unfold assertAV at hr
  split at hr
  · rename_i u c hx
    rw [hx] at h1
    obtain ⟨v, hv, hc⟩ := h1
    split at hr
    · rename_i k hk
      split at hr
      · rename_i e1
        subst e1
        simp only [Option.some.injEq, Prod.mk.injEq] at hr
        obtain ⟨rfl, rfl⟩ := hr
        refine ⟨.tuple #[v, .bool true], fun o hop => ?_, [v, .bool true], rfl, hc, rfl, trivial⟩
        simp [execOp, hop, hv, Instr.typeAssert, run_underlying (tInt_spec hk)]
      · cases hr
    · cases hr
  · rename_i hx
    rw [hx] at h1
    have hv : e x = .nilIface := h1
    split at hr
    · rename_i k0 k z hk hz
      simp only [Option.some.injEq, Prod.mk.injEq] at hr
      obtain ⟨rfl, rfl⟩ := hr
      refine ⟨.tuple #[.int k z, .bool false], fun o hop => ?_, [.int k z, .bool false], rfl, rfl, rfl, trivial⟩
      simp [execOp, hop, hv, Instr.typeAssert, run_underlying (tInt_spec hk), tZI_run hz]
    · cases hr
  · cases hr

theorem POk.nilCheckR {x : Operand} {n : Nat} {f : Nat → CV} (hx : ρ x = .c (.rptr n f)) : POk P h ρ (.nilCheck x) (.c (.rptr n f)) := fun S w e _ ho _ => by
  have h1 := ho x (by simp [Op.operands])
  rw [hx] at h1
  have h1' := h1
  obtain ⟨ad, hv, _⟩ := h1
  exact ⟨e x, fun o hop => by simp only [execOp, hop, hv]; rfl, h1'⟩

/-- All operations that leave memory alone. -/
noncomputable def pureOp2 (P : Program) (nw : Bool) (h : Heap) (ρ : Operand → AV) : Op → Option (Prop × AV)
  | .build t ⟨ps⟩ => build2 P ρ t ps
  | .typeAssert x _ t true => assertAV P t (ρ x)
  | .binOp op t x y t' => match ρ x, ρ y with
    | .agg xs, .agg ys => eqAgg P op t xs ys
    | a, b => binAV P nw op t y a b
  | .nilCheck x => match ρ x with
    | .c (.rptr n f) => some (True, .c (.rptr n f))
    | .c (.optr g off) => some (True, .c (.optr g off))
    | _ => none
  | op => pureOp P nw h ρ op
theorem pureOp2_ok {nw : Bool} {op : Op} {req : Prop} {r : AV} (hk : ∀ v, ρ (.const v) = cst v) (hb : pureOp2 P nw h ρ op = some (req, r)) (hreq : req) : POk P h ρ op r := by
  unfold pureOp2 at hb
  split at hb
  · exact build2_ok hb hreq
  · exact POk.assertA hb hreq
  · split at hb
    · rename_i hx hy; exact POk.eqAgg hx hy hb hreq
    · exact binAV_ok hk hb hreq
  · split at hb
    · rename_i hx
      simp only [Option.some.injEq, Prod.mk.injEq] at hb; obtain ⟨rfl, rfl⟩ := hb; exact POk.nilCheckR hx
    · rename_i hx
      simp only [Option.some.injEq, Prod.mk.injEq] at hb; obtain ⟨rfl, rfl⟩ := hb; exact POk.nilCheckO hx
    · cases hb
  · exact pureOp_ok hk hb hreq

/-- One operation. -/
noncomputable def runOp2 (P : Program) (nw : Bool) (h : Heap) (all : List Oper) (o : Oper) (σ : Sl) : Option (Prop × Sl) :=
  match wantA all σ o with
  | some true => match pureOp2 P nw h (ev σ) o.op with
    | some (q, r) => some (q, σ.setO o.dst r)
    | none => none
  | some false => some (True, σ.setO o.dst (.c .any))
  | none => none
end
section
variable {E : Env} {K : List It} {σ σ' : Sl} {h : Heap} {all rest : List Oper} {o : Oper}
theorem aw_2q (nw : Bool) (hd : dstOk E.N o.dst = true) (k : ∀ R : Option (Prop × Sl) → Prop, (∀ q σ', q → aw E (.ops all rest :: K) σ' h → R (some (q, σ'))) → R (runOp2 E.P nw h all o σ)) : aw E (.ops all (o :: rest) :: K) σ h := by
  have := k (fun x => x = runOp2 E.P nw h all o σ → aw E (.ops all (o :: rest) :: K) σ h) (fun q σ' hq ha e => by
    unfold runOp2 at e
    split at e
    · rename_i hw
      split at e
      · rename_i q1 r hp
        simp only [Option.some.injEq, Prod.mk.injEq] at e
        obtain ⟨rfl, rfl⟩ := e
        exact aw_pure hw (pureOp2_ok (fun _ => rfl) hp hq) hd rfl ha
      · cases e
    · rename_i hw
      simp only [Option.some.injEq, Prod.mk.injEq] at e
      obtain ⟨rfl, rfl⟩ := e
      exact aw_skipped hw hd rfl ha
    · cases e)
  exact this rfl
theorem Calm.pure2 {l : List Oper} {nw : Bool} {q : Prop} {r : AV} (hw : wantA l σ o = some true) (hb : pureOp2 E.P nw h (ev σ) o.op = some (q, r)) (hq : q) (hd : dstOk E.N o.dst = true) : Calm E h l σ o r := by
  refine ⟨hd, fun σ' a w Q hs s => ?_⟩
  rw [if_pos (s.wanted ((want_same hs).trans hw))]
  obtain ⟨v, hrun, hr⟩ := pureOp2_ok (fun _ => rfl) hb hq (Stab E.C h w) w a.eval Stab.mono' (fun x hx => by rw [← ev_same hx hs]; exact ev_rep s x) s.heap
  unfold Oper.wp
  rw [hrun o rfl]
  exact s.put hd hr
theorem drk_2q {l rest : List Oper} {n : Nat} (nw : Bool) (hd : dstOk E.N o.dst = true) (k : ∀ R : Option (Prop × Sl) → Prop, (∀ q σ', q → DrK E h l K n rest σ' → R (some (q, σ'))) → R (runOp2 E.P nw h l o σ)) : DrK E h l K (n + 1) (o :: rest) σ := by
  have := k (fun x => x = runOp2 E.P nw h l o σ → DrK E h l K (n + 1) (o :: rest) σ) (fun q σ' hq ha e => by
    unfold runOp2 at e
    split at e
    · rename_i hw
      split at e
      · rename_i q1 r hp
        simp only [Option.some.injEq, Prod.mk.injEq] at e
        obtain ⟨rfl, rfl⟩ := e
        exact drk_cons (Calm.pure2 hw hp hq hd) ha
      · cases e
    · rename_i hw
      simp only [Option.some.injEq, Prod.mk.injEq] at e
      obtain ⟨rfl, rfl⟩ := e
      exact drk_cons (Calm.skip hw hd) ha
    · cases e)
  exact this rfl
end
attribute [go_sem] pureOp2 runOp2 build2 okPart okParts mapCells fillC putC CV.solid eqAgg intsC eqZ assertAV List.set_cons_zero List.set_cons_succ Bool.and_true Bool.true_and Bool.and_self and_true true_and and_self List.all_cons List.all_nil
section
variable {E : Env} {K : List It} {σ : Sl} {h : Heap} {all l rest : List Oper} {o : Oper}
theorem wb1 (hd : dstOk E.N o.dst = true) (k : ∀ R : Option (Prop × Sl) → Prop, (∀ q σ', aw E (.ops all rest :: K) σ' h → (hq : q := by (try simp only [inRange]) <;> and_intros <;> first | exact True.intro | omega | trivial) → R (some (q, σ'))) → R (runOp2 E.P true h all o σ)) : aw E (.ops all (o :: rest) :: K) σ h :=
  aw_2q true hd fun R r => k R fun q σ' ha hq => r q σ' hq ha
theorem wd1 {n : Nat} (hd : dstOk E.N o.dst = true) (k : ∀ R : Option (Prop × Sl) → Prop, (∀ q σ', DrK E h l K n rest σ' → (hq : q := by (try simp only [inRange]) <;> and_intros <;> first | exact True.intro | omega | trivial) → R (some (q, σ'))) → R (runOp2 E.P true h l o σ)) : DrK E h l K (n + 1) (o :: rest) σ :=
  drk_2q true hd fun R r => k R fun q σ' ha hq => r q σ' hq ha
end
end Go.AI

/- The types of the program, as the evaluator asks for them; printed by a program (gen_ty.py). -/
namespace Go.Proofs.YtmkomfdiggcloaaGreat
open Go.AI
@[go_sem] theorem tya_s_2 : tSz Tryz.prog 2 = some (false, 1) := by kernel_rfl
@[go_sem] theorem tya_zi_2 : tZI Tryz.prog 2 = some (.i64, 0) := by kernel_rfl
@[go_sem] theorem tya_i_2 : tInt Tryz.prog 2 = some .i64 := by kernel_rfl
@[go_sem] theorem tya_z_2 : tZero Tryz.prog 2 = some [.int .i64 0] := by kernel_rfl
@[go_sem] theorem tya_s_3 : tSz Tryz.prog 3 = some (false, 1) := by kernel_rfl
@[go_sem] theorem tya_zi_3 : tZI Tryz.prog 3 = some (.i64, 0) := by kernel_rfl
@[go_sem] theorem tya_i_3 : tInt Tryz.prog 3 = some .i64 := by kernel_rfl
@[go_sem] theorem tya_z_3 : tZero Tryz.prog 3 = some [.int .i64 0] := by kernel_rfl
@[go_sem] theorem tya_s_4 : tSz Tryz.prog 4 = some (false, 1) := by kernel_rfl
@[go_sem] theorem tya_b_4 : tBool Tryz.prog 4 = true := by kernel_rfl
@[go_sem] theorem tya_z_4 : tZero Tryz.prog 4 = some [.bool false] := by kernel_rfl
@[go_sem] theorem tya_s_5 : tSz Tryz.prog 5 = some (false, 1) := by kernel_rfl
@[go_sem] theorem tya_zi_5 : tZI Tryz.prog 5 = some (.u8, 0) := by kernel_rfl
@[go_sem] theorem tya_i_5 : tInt Tryz.prog 5 = some .u8 := by kernel_rfl
@[go_sem] theorem tya_z_5 : tZero Tryz.prog 5 = some [.int .u8 0] := by kernel_rfl
@[go_sem] theorem tya_s_6 : tSz Tryz.prog 6 = some (false, 1) := by kernel_rfl
@[go_sem] theorem tya_zi_6 : tZI Tryz.prog 6 = some (.u8, 0) := by kernel_rfl
@[go_sem] theorem tya_i_6 : tInt Tryz.prog 6 = some .u8 := by kernel_rfl
@[go_sem] theorem tya_z_6 : tZero Tryz.prog 6 = some [.int .u8 0] := by kernel_rfl
@[go_sem] theorem tya_s_7 : tSz Tryz.prog 7 = some (true, 4) := by kernel_rfl
@[go_sem] theorem tya_fl_7 : tFlds Tryz.prog 7 = some [(0, 1), (1, 1), (2, 1), (3, 1)] := by kernel_rfl
@[go_sem] theorem tya_f0_7 : tFld Tryz.prog 7 0 = some 0 := by kernel_rfl
@[go_sem] theorem tya_f1_7 : tFld Tryz.prog 7 1 = some 1 := by kernel_rfl
@[go_sem] theorem tya_f2_7 : tFld Tryz.prog 7 2 = some 2 := by kernel_rfl
@[go_sem] theorem tya_f3_7 : tFld Tryz.prog 7 3 = some 3 := by kernel_rfl
@[go_sem] theorem tya_z_7 : tZero Tryz.prog 7 = some [.int .i64 0, .int .i64 0, .bool false, .int .u8 0] := by kernel_rfl
@[go_sem] theorem tya_s_8 : tSz Tryz.prog 8 = some (true, 4) := by kernel_rfl
@[go_sem] theorem tya_fl_8 : tFlds Tryz.prog 8 = some [(0, 1), (1, 1), (2, 1), (3, 1)] := by kernel_rfl
@[go_sem] theorem tya_f0_8 : tFld Tryz.prog 8 0 = some 0 := by kernel_rfl
@[go_sem] theorem tya_f1_8 : tFld Tryz.prog 8 1 = some 1 := by kernel_rfl
@[go_sem] theorem tya_f2_8 : tFld Tryz.prog 8 2 = some 2 := by kernel_rfl
@[go_sem] theorem tya_f3_8 : tFld Tryz.prog 8 3 = some 3 := by kernel_rfl
@[go_sem] theorem tya_z_8 : tZero Tryz.prog 8 = some [.int .i64 0, .int .i64 0, .bool false, .int .u8 0] := by kernel_rfl
@[go_sem] theorem tya_s_9 : tSz Tryz.prog 9 = some (false, 1) := by kernel_rfl
@[go_sem] theorem tya_z_9 : tZero Tryz.prog 9 = some [.str ⟨#[]⟩] := by kernel_rfl
@[go_sem] theorem tya_s_10 : tSz Tryz.prog 10 = some (false, 1) := by kernel_rfl
@[go_sem] theorem tya_z_10 : tZero Tryz.prog 10 = some [.str ⟨#[]⟩] := by kernel_rfl
@[go_sem] theorem tya_s_11 : tSz Tryz.prog 11 = some (false, 1) := by kernel_rfl
@[go_sem] theorem tya_z_11 : tZero Tryz.prog 11 = some [.str ⟨#[]⟩] := by kernel_rfl
@[go_sem] theorem tya_s_12 : tSz Tryz.prog 12 = some (false, 1) := by kernel_rfl
@[go_sem] theorem tya_zi_12 : tZI Tryz.prog 12 = some (.u64, 0) := by kernel_rfl
@[go_sem] theorem tya_i_12 : tInt Tryz.prog 12 = some .u64 := by kernel_rfl
@[go_sem] theorem tya_z_12 : tZero Tryz.prog 12 = some [.int .u64 0] := by kernel_rfl
@[go_sem] theorem tya_s_13 : tSz Tryz.prog 13 = some (true, 2) := by kernel_rfl
@[go_sem] theorem tya_fl_13 : tFlds Tryz.prog 13 = some [(0, 1), (1, 1)] := by kernel_rfl
@[go_sem] theorem tya_f0_13 : tFld Tryz.prog 13 0 = some 0 := by kernel_rfl
@[go_sem] theorem tya_f1_13 : tFld Tryz.prog 13 1 = some 1 := by kernel_rfl
@[go_sem] theorem tya_z_13 : tZero Tryz.prog 13 = some [.str ⟨#[]⟩, .int .u64 0] := by kernel_rfl
@[go_sem] theorem tya_s_14 : tSz Tryz.prog 14 = some (true, 2) := by kernel_rfl
@[go_sem] theorem tya_fl_14 : tFlds Tryz.prog 14 = some [(0, 1), (1, 1)] := by kernel_rfl
@[go_sem] theorem tya_f0_14 : tFld Tryz.prog 14 0 = some 0 := by kernel_rfl
@[go_sem] theorem tya_f1_14 : tFld Tryz.prog 14 1 = some 1 := by kernel_rfl
@[go_sem] theorem tya_z_14 : tZero Tryz.prog 14 = some [.str ⟨#[]⟩, .int .u64 0] := by kernel_rfl
@[go_sem] theorem tya_s_15 : tSz Tryz.prog 15 = some (false, 1) := by kernel_rfl
@[go_sem] theorem tya_z_15 : tZero Tryz.prog 15 = some [.raw (.pointer none)] := by kernel_rfl
@[go_sem] theorem tya_s_16 : tSz Tryz.prog 16 = some (false, 1) := by kernel_rfl
@[go_sem] theorem tya_z_16 : tZero Tryz.prog 16 = some [.raw (.pointer none)] := by kernel_rfl
@[go_sem] theorem tya_s_17 : tSz Tryz.prog 17 = some (false, 1) := by kernel_rfl
@[go_sem] theorem tya_z_17 : tZero Tryz.prog 17 = some [.raw (.pointer none)] := by kernel_rfl
@[go_sem] theorem tya_s_18 : tSz Tryz.prog 18 = some (true, 1) := by kernel_rfl
@[go_sem] theorem tya_fl_18 : tFlds Tryz.prog 18 = some [(0, 1)] := by kernel_rfl
@[go_sem] theorem tya_f0_18 : tFld Tryz.prog 18 0 = some 0 := by kernel_rfl
@[go_sem] theorem tya_z_18 : tZero Tryz.prog 18 = some [.raw (.pointer none)] := by kernel_rfl
@[go_sem] theorem tya_s_19 : tSz Tryz.prog 19 = some (true, 1) := by kernel_rfl
@[go_sem] theorem tya_fl_19 : tFlds Tryz.prog 19 = some [(0, 1)] := by kernel_rfl
@[go_sem] theorem tya_f0_19 : tFld Tryz.prog 19 0 = some 0 := by kernel_rfl
@[go_sem] theorem tya_z_19 : tZero Tryz.prog 19 = some [.raw (.pointer none)] := by kernel_rfl
@[go_sem] theorem tya_s_20 : tSz Tryz.prog 20 = some (false, 1) := by kernel_rfl
@[go_sem] theorem tya_c_20 : tIfc Tryz.prog 20 = true := by kernel_rfl
@[go_sem] theorem tya_z_20 : tZero Tryz.prog 20 = some [.nilI] := by kernel_rfl
@[go_sem] theorem tya_s_21 : tSz Tryz.prog 21 = some (false, 1) := by kernel_rfl
@[go_sem] theorem tya_zi_21 : tZI Tryz.prog 21 = some (.i32, 0) := by kernel_rfl
@[go_sem] theorem tya_i_21 : tInt Tryz.prog 21 = some .i32 := by kernel_rfl
@[go_sem] theorem tya_z_21 : tZero Tryz.prog 21 = some [.int .i32 0] := by kernel_rfl
@[go_sem] theorem tya_e_22 : tElem Tryz.prog 22 = some (3, 1, 8) := by kernel_rfl
@[go_sem] theorem tya_s_22 : tSz Tryz.prog 22 = some (false, 1) := by kernel_rfl
@[go_sem] theorem tya_z_22 : tZero Tryz.prog 22 = some [.nils] := by kernel_rfl
@[go_sem] theorem tya_e_23 : tElem Tryz.prog 23 = some (103, 3, 24) := by kernel_rfl
@[go_sem] theorem tya_s_23 : tSz Tryz.prog 23 = some (false, 1) := by kernel_rfl
@[go_sem] theorem tya_z_23 : tZero Tryz.prog 23 = some [.nils] := by kernel_rfl
@[go_sem] theorem tya_s_24 : tSz Tryz.prog 24 = some (true, 3) := by kernel_rfl
@[go_sem] theorem tya_fl_24 : tFlds Tryz.prog 24 = some [(0, 1), (1, 1), (2, 1)] := by kernel_rfl
@[go_sem] theorem tya_f0_24 : tFld Tryz.prog 24 0 = some 0 := by kernel_rfl
@[go_sem] theorem tya_f1_24 : tFld Tryz.prog 24 1 = some 1 := by kernel_rfl
@[go_sem] theorem tya_f2_24 : tFld Tryz.prog 24 2 = some 2 := by kernel_rfl
@[go_sem] theorem tya_z_24 : tZero Tryz.prog 24 = some [.nils, .nils, .int .i64 0] := by kernel_rfl
@[go_sem] theorem tya_s_25 : tSz Tryz.prog 25 = some (true, 3) := by kernel_rfl
@[go_sem] theorem tya_fl_25 : tFlds Tryz.prog 25 = some [(0, 1), (1, 1), (2, 1)] := by kernel_rfl
@[go_sem] theorem tya_f0_25 : tFld Tryz.prog 25 0 = some 0 := by kernel_rfl
@[go_sem] theorem tya_f1_25 : tFld Tryz.prog 25 1 = some 1 := by kernel_rfl
@[go_sem] theorem tya_f2_25 : tFld Tryz.prog 25 2 = some 2 := by kernel_rfl
@[go_sem] theorem tya_z_25 : tZero Tryz.prog 25 = some [.nils, .nils, .int .i64 0] := by kernel_rfl
@[go_sem] theorem tya_e_26 : tElem Tryz.prog 26 = some (33, 3, 56) := by kernel_rfl
@[go_sem] theorem tya_s_26 : tSz Tryz.prog 26 = some (false, 1) := by kernel_rfl
@[go_sem] theorem tya_z_26 : tZero Tryz.prog 26 = some [.nils] := by kernel_rfl
@[go_sem] theorem tya_s_27 : tSz Tryz.prog 27 = some (true, 2) := by kernel_rfl
@[go_sem] theorem tya_fl_27 : tFlds Tryz.prog 27 = some [(0, 1), (1, 1)] := by kernel_rfl
@[go_sem] theorem tya_f0_27 : tFld Tryz.prog 27 0 = some 0 := by kernel_rfl
@[go_sem] theorem tya_f1_27 : tFld Tryz.prog 27 1 = some 1 := by kernel_rfl
@[go_sem] theorem tya_q_27 : tEqS Tryz.prog 27 = some 2 := by kernel_rfl
@[go_sem] theorem tya_z_27 : tZero Tryz.prog 27 = some [.int .i64 0, .int .i64 0] := by kernel_rfl
@[go_sem] theorem tya_s_28 : tSz Tryz.prog 28 = some (true, 2) := by kernel_rfl
@[go_sem] theorem tya_fl_28 : tFlds Tryz.prog 28 = some [(0, 1), (1, 1)] := by kernel_rfl
@[go_sem] theorem tya_f0_28 : tFld Tryz.prog 28 0 = some 0 := by kernel_rfl
@[go_sem] theorem tya_f1_28 : tFld Tryz.prog 28 1 = some 1 := by kernel_rfl
@[go_sem] theorem tya_q_28 : tEqS Tryz.prog 28 = some 2 := by kernel_rfl
@[go_sem] theorem tya_z_28 : tZero Tryz.prog 28 = some [.int .i64 0, .int .i64 0] := by kernel_rfl
@[go_sem] theorem tya_e_31 : tElem Tryz.prog 31 = some (146, 1, 4) := by kernel_rfl
@[go_sem] theorem tya_s_31 : tSz Tryz.prog 31 = some (false, 1) := by kernel_rfl
@[go_sem] theorem tya_z_31 : tZero Tryz.prog 31 = some [.nils] := by kernel_rfl
@[go_sem] theorem tya_s_32 : tSz Tryz.prog 32 = some (true, 3) := by kernel_rfl
@[go_sem] theorem tya_fl_32 : tFlds Tryz.prog 32 = some [(0, 1), (1, 1), (2, 1)] := by kernel_rfl
@[go_sem] theorem tya_f0_32 : tFld Tryz.prog 32 0 = some 0 := by kernel_rfl
@[go_sem] theorem tya_f1_32 : tFld Tryz.prog 32 1 = some 1 := by kernel_rfl
@[go_sem] theorem tya_f2_32 : tFld Tryz.prog 32 2 = some 2 := by kernel_rfl
@[go_sem] theorem tya_z_32 : tZero Tryz.prog 32 = some [.bool false, .nils, .nils] := by kernel_rfl
@[go_sem] theorem tya_s_33 : tSz Tryz.prog 33 = some (true, 3) := by kernel_rfl
@[go_sem] theorem tya_fl_33 : tFlds Tryz.prog 33 = some [(0, 1), (1, 1), (2, 1)] := by kernel_rfl
@[go_sem] theorem tya_f0_33 : tFld Tryz.prog 33 0 = some 0 := by kernel_rfl
@[go_sem] theorem tya_f1_33 : tFld Tryz.prog 33 1 = some 1 := by kernel_rfl
@[go_sem] theorem tya_f2_33 : tFld Tryz.prog 33 2 = some 2 := by kernel_rfl
@[go_sem] theorem tya_z_33 : tZero Tryz.prog 33 = some [.bool false, .nils, .nils] := by kernel_rfl
@[go_sem] theorem tya_s_34 : tSz Tryz.prog 34 = some (false, 1) := by kernel_rfl
@[go_sem] theorem tya_c_34 : tIfc Tryz.prog 34 = true := by kernel_rfl
@[go_sem] theorem tya_z_34 : tZero Tryz.prog 34 = some [.nilI] := by kernel_rfl
@[go_sem] theorem tya_s_35 : tSz Tryz.prog 35 = some (false, 1) := by kernel_rfl
@[go_sem] theorem tya_c_35 : tIfc Tryz.prog 35 = true := by kernel_rfl
@[go_sem] theorem tya_z_35 : tZero Tryz.prog 35 = some [.nilI] := by kernel_rfl
@[go_sem] theorem tya_s_56 : tSz Tryz.prog 56 = some (true, 2) := by kernel_rfl
@[go_sem] theorem tya_fl_56 : tFlds Tryz.prog 56 = some [(0, 1), (1, 1)] := by kernel_rfl
@[go_sem] theorem tya_f0_56 : tFld Tryz.prog 56 0 = some 0 := by kernel_rfl
@[go_sem] theorem tya_f1_56 : tFld Tryz.prog 56 1 = some 1 := by kernel_rfl
@[go_sem] theorem tya_q_56 : tEqS Tryz.prog 56 = some 2 := by kernel_rfl
@[go_sem] theorem tya_z_56 : tZero Tryz.prog 56 = some [.int .i64 0, .int .i64 0] := by kernel_rfl
@[go_sem] theorem tya_s_57 : tSz Tryz.prog 57 = some (true, 2) := by kernel_rfl
@[go_sem] theorem tya_fl_57 : tFlds Tryz.prog 57 = some [(0, 1), (1, 1)] := by kernel_rfl
@[go_sem] theorem tya_f0_57 : tFld Tryz.prog 57 0 = some 0 := by kernel_rfl
@[go_sem] theorem tya_f1_57 : tFld Tryz.prog 57 1 = some 1 := by kernel_rfl
@[go_sem] theorem tya_q_57 : tEqS Tryz.prog 57 = some 2 := by kernel_rfl
@[go_sem] theorem tya_z_57 : tZero Tryz.prog 57 = some [.int .i64 0, .int .i64 0] := by kernel_rfl
@[go_sem] theorem tya_s_69 : tSz Tryz.prog 69 = some (true, 4) := by kernel_rfl
@[go_sem] theorem tya_fl_69 : tFlds Tryz.prog 69 = some [(0, 1), (1, 3)] := by kernel_rfl
@[go_sem] theorem tya_f0_69 : tFld Tryz.prog 69 0 = some 0 := by kernel_rfl
@[go_sem] theorem tya_f1_69 : tFld Tryz.prog 69 1 = some 1 := by kernel_rfl
@[go_sem] theorem tya_z_69 : tZero Tryz.prog 69 = some [.int .i64 0, .bool false, .nils, .nils] := by kernel_rfl
@[go_sem] theorem tya_s_70 : tSz Tryz.prog 70 = some (true, 4) := by kernel_rfl
@[go_sem] theorem tya_fl_70 : tFlds Tryz.prog 70 = some [(0, 1), (1, 3)] := by kernel_rfl
@[go_sem] theorem tya_f0_70 : tFld Tryz.prog 70 0 = some 0 := by kernel_rfl
@[go_sem] theorem tya_f1_70 : tFld Tryz.prog 70 1 = some 1 := by kernel_rfl
@[go_sem] theorem tya_z_70 : tZero Tryz.prog 70 = some [.int .i64 0, .bool false, .nils, .nils] := by kernel_rfl
@[go_sem] theorem tya_s_90 : tSz Tryz.prog 90 = some (false, 1) := by kernel_rfl
@[go_sem] theorem tya_zi_90 : tZI Tryz.prog 90 = some (.i64, 0) := by kernel_rfl
@[go_sem] theorem tya_i_90 : tInt Tryz.prog 90 = some .i64 := by kernel_rfl
@[go_sem] theorem tya_z_90 : tZero Tryz.prog 90 = some [.int .i64 0] := by kernel_rfl
@[go_sem] theorem tya_e_99 : tElem Tryz.prog 99 = some (4, 1, 1) := by kernel_rfl
@[go_sem] theorem tya_s_99 : tSz Tryz.prog 99 = some (false, 1) := by kernel_rfl
@[go_sem] theorem tya_z_99 : tZero Tryz.prog 99 = some [.nils] := by kernel_rfl
@[go_sem] theorem tya_s_102 : tSz Tryz.prog 102 = some (true, 3) := by kernel_rfl
@[go_sem] theorem tya_fl_102 : tFlds Tryz.prog 102 = some [(0, 1), (1, 1), (2, 1)] := by kernel_rfl
@[go_sem] theorem tya_f0_102 : tFld Tryz.prog 102 0 = some 0 := by kernel_rfl
@[go_sem] theorem tya_f1_102 : tFld Tryz.prog 102 1 = some 1 := by kernel_rfl
@[go_sem] theorem tya_f2_102 : tFld Tryz.prog 102 2 = some 2 := by kernel_rfl
@[go_sem] theorem tya_q_102 : tEqS Tryz.prog 102 = some 3 := by kernel_rfl
@[go_sem] theorem tya_z_102 : tZero Tryz.prog 102 = some [.int .i64 0, .int .i64 0, .int .i64 0] := by kernel_rfl
@[go_sem] theorem tya_s_103 : tSz Tryz.prog 103 = some (true, 3) := by kernel_rfl
@[go_sem] theorem tya_fl_103 : tFlds Tryz.prog 103 = some [(0, 1), (1, 1), (2, 1)] := by kernel_rfl
@[go_sem] theorem tya_f0_103 : tFld Tryz.prog 103 0 = some 0 := by kernel_rfl
@[go_sem] theorem tya_f1_103 : tFld Tryz.prog 103 1 = some 1 := by kernel_rfl
@[go_sem] theorem tya_f2_103 : tFld Tryz.prog 103 2 = some 2 := by kernel_rfl
@[go_sem] theorem tya_q_103 : tEqS Tryz.prog 103 = some 3 := by kernel_rfl
@[go_sem] theorem tya_z_103 : tZero Tryz.prog 103 = some [.int .i64 0, .int .i64 0, .int .i64 0] := by kernel_rfl
@[go_sem] theorem tya_s_105 : tSz Tryz.prog 105 = some (true, 3) := by kernel_rfl
@[go_sem] theorem tya_fl_105 : tFlds Tryz.prog 105 = some [(0, 1), (1, 1), (2, 1)] := by kernel_rfl
@[go_sem] theorem tya_f0_105 : tFld Tryz.prog 105 0 = some 0 := by kernel_rfl
@[go_sem] theorem tya_f1_105 : tFld Tryz.prog 105 1 = some 1 := by kernel_rfl
@[go_sem] theorem tya_f2_105 : tFld Tryz.prog 105 2 = some 2 := by kernel_rfl
@[go_sem] theorem tya_z_105 : tZero Tryz.prog 105 = some [.int .i64 0, .int .i64 0, .nils] := by kernel_rfl
@[go_sem] theorem tya_s_106 : tSz Tryz.prog 106 = some (true, 3) := by kernel_rfl
@[go_sem] theorem tya_fl_106 : tFlds Tryz.prog 106 = some [(0, 1), (1, 1), (2, 1)] := by kernel_rfl
@[go_sem] theorem tya_f0_106 : tFld Tryz.prog 106 0 = some 0 := by kernel_rfl
@[go_sem] theorem tya_f1_106 : tFld Tryz.prog 106 1 = some 1 := by kernel_rfl
@[go_sem] theorem tya_f2_106 : tFld Tryz.prog 106 2 = some 2 := by kernel_rfl
@[go_sem] theorem tya_z_106 : tZero Tryz.prog 106 = some [.int .i64 0, .int .i64 0, .nils] := by kernel_rfl
@[go_sem] theorem tya_e_107 : tElem Tryz.prog 107 = some (106, 3, 40) := by kernel_rfl
@[go_sem] theorem tya_s_107 : tSz Tryz.prog 107 = some (false, 1) := by kernel_rfl
@[go_sem] theorem tya_z_107 : tZero Tryz.prog 107 = some [.nils] := by kernel_rfl
@[go_sem] theorem tya_s_108 : tSz Tryz.prog 108 = some (true, 3) := by kernel_rfl
@[go_sem] theorem tya_fl_108 : tFlds Tryz.prog 108 = some [(0, 1), (1, 1), (2, 1)] := by kernel_rfl
@[go_sem] theorem tya_f0_108 : tFld Tryz.prog 108 0 = some 0 := by kernel_rfl
@[go_sem] theorem tya_f1_108 : tFld Tryz.prog 108 1 = some 1 := by kernel_rfl
@[go_sem] theorem tya_f2_108 : tFld Tryz.prog 108 2 = some 2 := by kernel_rfl
@[go_sem] theorem tya_z_108 : tZero Tryz.prog 108 = some [.int .i64 0, .nils, .int .i64 0] := by kernel_rfl
@[go_sem] theorem tya_s_109 : tSz Tryz.prog 109 = some (true, 3) := by kernel_rfl
@[go_sem] theorem tya_fl_109 : tFlds Tryz.prog 109 = some [(0, 1), (1, 1), (2, 1)] := by kernel_rfl
@[go_sem] theorem tya_f0_109 : tFld Tryz.prog 109 0 = some 0 := by kernel_rfl
@[go_sem] theorem tya_f1_109 : tFld Tryz.prog 109 1 = some 1 := by kernel_rfl
@[go_sem] theorem tya_f2_109 : tFld Tryz.prog 109 2 = some 2 := by kernel_rfl
@[go_sem] theorem tya_z_109 : tZero Tryz.prog 109 = some [.int .i64 0, .nils, .int .i64 0] := by kernel_rfl
@[go_sem] theorem tya_s_114 : tSz Tryz.prog 114 = some (false, 1) := by kernel_rfl
@[go_sem] theorem tya_z_114 : tZero Tryz.prog 114 = some [.raw (.pointer none)] := by kernel_rfl
@[go_sem] theorem tya_e_132 : tElem Tryz.prog 132 = some (25, 3, 56) := by kernel_rfl
@[go_sem] theorem tya_s_132 : tSz Tryz.prog 132 = some (false, 1) := by kernel_rfl
@[go_sem] theorem tya_z_132 : tZero Tryz.prog 132 = some [.nils] := by kernel_rfl
@[go_sem] theorem tya_s_146 : tSz Tryz.prog 146 = some (false, 1) := by kernel_rfl
@[go_sem] theorem tya_zi_146 : tZI Tryz.prog 146 = some (.u32, 0) := by kernel_rfl
@[go_sem] theorem tya_i_146 : tInt Tryz.prog 146 = some .u32 := by kernel_rfl
@[go_sem] theorem tya_z_146 : tZero Tryz.prog 146 = some [.int .u32 0] := by kernel_rfl
@[go_sem] theorem tya_s_153 : tSz Tryz.prog 153 = some (false, 1) := by kernel_rfl
@[go_sem] theorem tya_z_153 : tZero Tryz.prog 153 = some [.raw (.map none)] := by kernel_rfl
@[go_sem] theorem tya_s_156 : tSz Tryz.prog 156 = some (false, 1) := by kernel_rfl
@[go_sem] theorem tya_z_156 : tZero Tryz.prog 156 = some [.raw (.map none)] := by kernel_rfl
@[go_sem] theorem tya_s_157 : tSz Tryz.prog 157 = some (false, 1) := by kernel_rfl
@[go_sem] theorem tya_z_157 : tZero Tryz.prog 157 = some [.raw (.map none)] := by kernel_rfl
@[go_sem] theorem tya_s_158 : tSz Tryz.prog 158 = some (true, 5) := by kernel_rfl
@[go_sem] theorem tya_fl_158 : tFlds Tryz.prog 158 = some [(0, 1), (1, 1), (2, 1), (3, 1), (4, 1)] := by kernel_rfl
@[go_sem] theorem tya_f0_158 : tFld Tryz.prog 158 0 = some 0 := by kernel_rfl
@[go_sem] theorem tya_f1_158 : tFld Tryz.prog 158 1 = some 1 := by kernel_rfl
@[go_sem] theorem tya_f2_158 : tFld Tryz.prog 158 2 = some 2 := by kernel_rfl
@[go_sem] theorem tya_f3_158 : tFld Tryz.prog 158 3 = some 3 := by kernel_rfl
@[go_sem] theorem tya_f4_158 : tFld Tryz.prog 158 4 = some 4 := by kernel_rfl
@[go_sem] theorem tya_z_158 : tZero Tryz.prog 158 = some [.nils, .nils, .nils, .raw (.map none), .raw (.map none)] := by kernel_rfl
@[go_sem] theorem tya_s_159 : tSz Tryz.prog 159 = some (true, 5) := by kernel_rfl
@[go_sem] theorem tya_fl_159 : tFlds Tryz.prog 159 = some [(0, 1), (1, 1), (2, 1), (3, 1), (4, 1)] := by kernel_rfl
@[go_sem] theorem tya_f0_159 : tFld Tryz.prog 159 0 = some 0 := by kernel_rfl
@[go_sem] theorem tya_f1_159 : tFld Tryz.prog 159 1 = some 1 := by kernel_rfl
@[go_sem] theorem tya_f2_159 : tFld Tryz.prog 159 2 = some 2 := by kernel_rfl
@[go_sem] theorem tya_f3_159 : tFld Tryz.prog 159 3 = some 3 := by kernel_rfl
@[go_sem] theorem tya_f4_159 : tFld Tryz.prog 159 4 = some 4 := by kernel_rfl
@[go_sem] theorem tya_z_159 : tZero Tryz.prog 159 = some [.nils, .nils, .nils, .raw (.map none), .raw (.map none)] := by kernel_rfl
@[go_sem] theorem tya_s_161 : tSz Tryz.prog 161 = some (false, 1) := by kernel_rfl
@[go_sem] theorem tya_z_161 : tZero Tryz.prog 161 = some [.raw (.map none)] := by kernel_rfl
@[go_sem] theorem tya_s_165 : tSz Tryz.prog 165 = some (false, 1) := by kernel_rfl
@[go_sem] theorem tya_zi_165 : tZI Tryz.prog 165 = some (.u64, 0) := by kernel_rfl
@[go_sem] theorem tya_i_165 : tInt Tryz.prog 165 = some .u64 := by kernel_rfl
@[go_sem] theorem tya_z_165 : tZero Tryz.prog 165 = some [.int .u64 0] := by kernel_rfl
@[go_sem] theorem tya_s_167 : tSz Tryz.prog 167 = some (false, 1) := by kernel_rfl
@[go_sem] theorem tya_zi_167 : tZI Tryz.prog 167 = some (.u64, 0) := by kernel_rfl
@[go_sem] theorem tya_i_167 : tInt Tryz.prog 167 = some .u64 := by kernel_rfl
@[go_sem] theorem tya_z_167 : tZero Tryz.prog 167 = some [.int .u64 0] := by kernel_rfl
@[go_sem] theorem tya_s_185 : tSz Tryz.prog 185 = some (true, 3) := by kernel_rfl
@[go_sem] theorem tya_z_185 : tZero Tryz.prog 185 = some [.int .i64 0, .int .i64 0, .int .i64 0] := by kernel_rfl
@[go_sem] theorem tya_s_193 : tSz Tryz.prog 193 = some (false, 1) := by kernel_rfl
@[go_sem] theorem tya_z_193 : tZero Tryz.prog 193 = some [.raw (.map none)] := by kernel_rfl
@[go_sem] theorem tya_s_202 : tSz Tryz.prog 202 = some (true, 4) := by kernel_rfl
@[go_sem] theorem tya_fl_202 : tFlds Tryz.prog 202 = some [(0, 1), (1, 1), (2, 1), (3, 1)] := by kernel_rfl
@[go_sem] theorem tya_f0_202 : tFld Tryz.prog 202 0 = some 0 := by kernel_rfl
@[go_sem] theorem tya_f1_202 : tFld Tryz.prog 202 1 = some 1 := by kernel_rfl
@[go_sem] theorem tya_f2_202 : tFld Tryz.prog 202 2 = some 2 := by kernel_rfl
@[go_sem] theorem tya_f3_202 : tFld Tryz.prog 202 3 = some 3 := by kernel_rfl
@[go_sem] theorem tya_z_202 : tZero Tryz.prog 202 = some [.raw (.pointer none), .raw (.pointer none), .raw (.pointer none), .str ⟨#[]⟩] := by kernel_rfl
@[go_sem] theorem tya_s_203 : tSz Tryz.prog 203 = some (true, 4) := by kernel_rfl
@[go_sem] theorem tya_fl_203 : tFlds Tryz.prog 203 = some [(0, 1), (1, 1), (2, 1), (3, 1)] := by kernel_rfl
@[go_sem] theorem tya_f0_203 : tFld Tryz.prog 203 0 = some 0 := by kernel_rfl
@[go_sem] theorem tya_f1_203 : tFld Tryz.prog 203 1 = some 1 := by kernel_rfl
@[go_sem] theorem tya_f2_203 : tFld Tryz.prog 203 2 = some 2 := by kernel_rfl
@[go_sem] theorem tya_f3_203 : tFld Tryz.prog 203 3 = some 3 := by kernel_rfl
@[go_sem] theorem tya_z_203 : tZero Tryz.prog 203 = some [.raw (.pointer none), .raw (.pointer none), .raw (.pointer none), .str ⟨#[]⟩] := by kernel_rfl
@[go_sem] theorem tya_s_208 : tSz Tryz.prog 208 = some (false, 1) := by kernel_rfl
@[go_sem] theorem tya_zi_208 : tZI Tryz.prog 208 = some (.u8, 0) := by kernel_rfl
@[go_sem] theorem tya_i_208 : tInt Tryz.prog 208 = some .u8 := by kernel_rfl
@[go_sem] theorem tya_z_208 : tZero Tryz.prog 208 = some [.int .u8 0] := by kernel_rfl
@[go_sem] theorem tya_s_209 : tSz Tryz.prog 209 = some (false, 1) := by kernel_rfl
@[go_sem] theorem tya_zi_209 : tZI Tryz.prog 209 = some (.u8, 0) := by kernel_rfl
@[go_sem] theorem tya_i_209 : tInt Tryz.prog 209 = some .u8 := by kernel_rfl
@[go_sem] theorem tya_z_209 : tZero Tryz.prog 209 = some [.int .u8 0] := by kernel_rfl
@[go_sem] theorem tya_s_211 : tSz Tryz.prog 211 = some (false, 1) := by kernel_rfl
@[go_sem] theorem tya_z_211 : tZero Tryz.prog 211 = some [.raw (.pointer none)] := by kernel_rfl
@[go_sem] theorem tya_s_212 : tSz Tryz.prog 212 = some (false, 1) := by kernel_rfl
@[go_sem] theorem tya_zi_212 : tZI Tryz.prog 212 = some (.i32, 0) := by kernel_rfl
@[go_sem] theorem tya_i_212 : tInt Tryz.prog 212 = some .i32 := by kernel_rfl
@[go_sem] theorem tya_z_212 : tZero Tryz.prog 212 = some [.int .i32 0] := by kernel_rfl
@[go_sem] theorem tya_s_213 : tSz Tryz.prog 213 = some (false, 1) := by kernel_rfl
@[go_sem] theorem tya_zi_213 : tZI Tryz.prog 213 = some (.i32, 0) := by kernel_rfl
@[go_sem] theorem tya_i_213 : tInt Tryz.prog 213 = some .i32 := by kernel_rfl
@[go_sem] theorem tya_z_213 : tZero Tryz.prog 213 = some [.int .i32 0] := by kernel_rfl
@[go_sem] theorem tya_s_214 : tSz Tryz.prog 214 = some (true, 11) := by kernel_rfl
@[go_sem] theorem tya_fl_214 : tFlds Tryz.prog 214 = some [(0, 1), (1, 1), (2, 1), (3, 1), (4, 1), (5, 1), (6, 1), (7, 1), (8, 1), (9, 1), (10, 1)] := by kernel_rfl
@[go_sem] theorem tya_f0_214 : tFld Tryz.prog 214 0 = some 0 := by kernel_rfl
@[go_sem] theorem tya_f1_214 : tFld Tryz.prog 214 1 = some 1 := by kernel_rfl
@[go_sem] theorem tya_f2_214 : tFld Tryz.prog 214 2 = some 2 := by kernel_rfl
@[go_sem] theorem tya_f3_214 : tFld Tryz.prog 214 3 = some 3 := by kernel_rfl
@[go_sem] theorem tya_f4_214 : tFld Tryz.prog 214 4 = some 4 := by kernel_rfl
@[go_sem] theorem tya_f5_214 : tFld Tryz.prog 214 5 = some 5 := by kernel_rfl
@[go_sem] theorem tya_f6_214 : tFld Tryz.prog 214 6 = some 6 := by kernel_rfl
@[go_sem] theorem tya_f7_214 : tFld Tryz.prog 214 7 = some 7 := by kernel_rfl
@[go_sem] theorem tya_f8_214 : tFld Tryz.prog 214 8 = some 8 := by kernel_rfl
@[go_sem] theorem tya_f9_214 : tFld Tryz.prog 214 9 = some 9 := by kernel_rfl
@[go_sem] theorem tya_f10_214 : tFld Tryz.prog 214 10 = some 10 := by kernel_rfl
@[go_sem] theorem tya_z_214 : tZero Tryz.prog 214 = some [.int .u64 0, .int .u64 0, .int .u32 0, .int .u8 0, .int .u8 0, .int .u8 0, .int .u8 0, .raw .nilFunc, .raw (.pointer none), .int .i32 0, .int .i32 0] := by kernel_rfl
@[go_sem] theorem tya_s_215 : tSz Tryz.prog 215 = some (true, 11) := by kernel_rfl
@[go_sem] theorem tya_fl_215 : tFlds Tryz.prog 215 = some [(0, 1), (1, 1), (2, 1), (3, 1), (4, 1), (5, 1), (6, 1), (7, 1), (8, 1), (9, 1), (10, 1)] := by kernel_rfl
@[go_sem] theorem tya_f0_215 : tFld Tryz.prog 215 0 = some 0 := by kernel_rfl
@[go_sem] theorem tya_f1_215 : tFld Tryz.prog 215 1 = some 1 := by kernel_rfl
@[go_sem] theorem tya_f2_215 : tFld Tryz.prog 215 2 = some 2 := by kernel_rfl
@[go_sem] theorem tya_f3_215 : tFld Tryz.prog 215 3 = some 3 := by kernel_rfl
@[go_sem] theorem tya_f4_215 : tFld Tryz.prog 215 4 = some 4 := by kernel_rfl
@[go_sem] theorem tya_f5_215 : tFld Tryz.prog 215 5 = some 5 := by kernel_rfl
@[go_sem] theorem tya_f6_215 : tFld Tryz.prog 215 6 = some 6 := by kernel_rfl
@[go_sem] theorem tya_f7_215 : tFld Tryz.prog 215 7 = some 7 := by kernel_rfl
@[go_sem] theorem tya_f8_215 : tFld Tryz.prog 215 8 = some 8 := by kernel_rfl
@[go_sem] theorem tya_f9_215 : tFld Tryz.prog 215 9 = some 9 := by kernel_rfl
@[go_sem] theorem tya_f10_215 : tFld Tryz.prog 215 10 = some 10 := by kernel_rfl
@[go_sem] theorem tya_z_215 : tZero Tryz.prog 215 = some [.int .u64 0, .int .u64 0, .int .u32 0, .int .u8 0, .int .u8 0, .int .u8 0, .int .u8 0, .raw .nilFunc, .raw (.pointer none), .int .i32 0, .int .i32 0] := by kernel_rfl
@[go_sem] theorem tya_s_216 : tSz Tryz.prog 216 = some (false, 1) := by kernel_rfl
@[go_sem] theorem tya_z_216 : tZero Tryz.prog 216 = some [.raw (.pointer none)] := by kernel_rfl
end Go.Proofs.YtmkomfdiggcloaaGreat
