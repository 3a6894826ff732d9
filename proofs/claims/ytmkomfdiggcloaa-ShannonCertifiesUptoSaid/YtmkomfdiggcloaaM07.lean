/- Texts of one proof, laid one behind the other by a program (merge.py): PRat, AiNew, AiEval2, TyA, Rat1. -/
import Derived.Test.YtmkomfdiggcloaaM06
import Derived.Test.YtmkomfdiggcloaaM04
import Derived.Laws.StructEq
import Derived.Test.YtmkomfdiggcloaaProg
import Derived.KernelRfl
set_option linter.unusedSimpArgs false
set_option linter.unusedVariables false
/- Fractions as the program holds them, and the rational numbers that they count as. No program in sight. -/
namespace Go.PN

/-- What a fraction holds. -/
structure RD where
  neg : Bool
  num : List Nat
  den : List Nat
def RD.wf (r : RD) (L : Nat) : Prop := (∀ x ∈ r.num, x < 4294967296) ∧ (∀ x ∈ r.den, x < 4294967296) ∧ r.num.length ≤ L ∧ r.den.length ≤ L
def plainB (xs : List Nat) : Bool := decide (0 < xs.length) && !decide (xs.getD (xs.length - 1) 0 = 0)
def RD.valid (r : RD) : Bool := if r.num.length = 0 ∧ r.den.length = 0 then !r.neg else plainB r.num && plainB r.den && decide (Nat.gcd (val r.num) (val r.den) = 1)
/-- Does it count as itself, and not as 0? -/
def RD.some (r : RD) : Bool := r.valid && decide (r.num.length ≠ 0)
def RD.pn (r : RD) : Nat := if r.some then val r.num else 0
def RD.pd (r : RD) : Nat := if r.some then val r.den else 1
def RD.ps (r : RD) : Bool := if r.some then r.neg else false
def sgn (neg : Bool) (n : Nat) : Int := if neg then -(n : Int) else n
def sq (neg : Bool) (n d : Nat) : Rat := mkRat (sgn neg n) d
/-- The rational number. -/
def RD.q (r : RD) : Rat := sq r.ps r.pn r.pd
/-- The valid form. -/
def rd (q : Rat) : RD := ⟨decide (q.num < 0), words q.num.natAbs, if q.num = 0 then [] else words q.den⟩

theorem sgn_abs (b : Bool) (n : Nat) : (sgn b n).natAbs = n := by unfold sgn; cases b <;> simp
theorem sgn_neg (b : Bool) (n : Nat) : sgn (!b) n = - sgn b n := by unfold sgn; cases b <;> simp
theorem sgn_mul (a b : Bool) (n m : Nat) : sgn (a != b) (n * m) = sgn a n * sgn b m := by unfold sgn; cases a <;> cases b <;> simp [Int.natCast_mul, Int.neg_mul, Int.mul_neg]
theorem mkRat_nd {n : Int} {d : Nat} (hd : d ≠ 0) : (mkRat n d).num = n / (n.natAbs.gcd d : Nat) ∧ (mkRat n d).den = d / n.natAbs.gcd d := by
  rw [← Rat.normalize_eq_mkRat hd, Rat.normalize_eq]
  exact ⟨rfl, rfl⟩
theorem plain_words {xs : List Nat} (hx : ∀ x ∈ xs, x < 4294967296) (hp : plainB xs = true) : words (val xs) = xs ∧ val xs ≠ 0 := by
  simp only [plainB, Bool.and_eq_true, decide_eq_true_eq, Bool.not_eq_true', decide_eq_false_iff_not] at hp
  have h := words_val hx (.inr hp.2)
  refine ⟨h, fun e => ?_⟩
  rw [e, words_zero] at h
  rw [← h] at hp
  simp at hp
theorem RD.some_spec {r : RD} {L : Nat} (hw : r.wf L) (hs : r.some = true) : words (val r.num) = r.num ∧ words (val r.den) = r.den ∧ val r.num ≠ 0 ∧ val r.den ≠ 0 ∧ Nat.gcd (val r.num) (val r.den) = 1 := by
  simp only [RD.some, Bool.and_eq_true, decide_eq_true_eq] at hs
  obtain ⟨hv, hn⟩ := hs
  unfold RD.valid at hv
  rw [if_neg (fun h => hn h.1)] at hv
  simp only [Bool.and_eq_true, decide_eq_true_eq] at hv
  obtain ⟨⟨h1, h2⟩, h3⟩ := hv
  have p1 := plain_words hw.1 h1
  have p2 := plain_words hw.2.1 h2
  exact ⟨p1.1, p2.1, p1.2, p2.2, h3⟩
theorem RD.pd_ne {r : RD} {L : Nat} (hw : r.wf L) : r.pd ≠ 0 := by
  unfold RD.pd
  split
  · rename_i h; exact (RD.some_spec hw h).2.2.2.1
  · simp
theorem words_one : words 1 = [1] := by rw [words_cons (by omega)]; simp [words_zero]
theorem RD.pn_words {r : RD} {L : Nat} (hw : r.wf L) (hs : r.some = true) : words r.pn = r.num ∧ words r.pd = r.den ∧ r.ps = r.neg := by
  obtain ⟨h1, h2, _⟩ := RD.some_spec hw hs
  unfold RD.pn RD.pd RD.ps
  simp only [hs, if_true]
  exact ⟨h1, h2, trivial⟩
theorem RD.pn_none {r : RD} (hs : r.some = false) : words r.pn = [] ∧ words r.pd = [1] ∧ r.ps = false := by
  unfold RD.pn RD.pd RD.ps
  simp [hs, words_zero, words_one]
theorem RD.p_len {r : RD} {L : Nat} (hw : r.wf L) (hL : 1 ≤ L) : (words r.pn).length ≤ L ∧ (words r.pd).length ≤ L := by
  cases hs : r.some with
  | true => obtain ⟨h1, h2, _⟩ := RD.pn_words hw hs; rw [h1, h2]; exact ⟨hw.2.2.1, hw.2.2.2⟩
  | false => obtain ⟨h1, h2, _⟩ := RD.pn_none hs; rw [h1, h2]; exact ⟨by simp, by simpa using hL⟩

theorem rd_sq {neg : Bool} {n d : Nat} (hn : n ≠ 0) (hd : d ≠ 0) : rd (sq neg n d) = ⟨neg, words (n / Nat.gcd n d), words (d / Nat.gcd n d)⟩ := by
  obtain ⟨h1, h2⟩ := mkRat_nd (n := sgn neg n) hd
  rw [sgn_abs] at h1 h2
  have hg : 0 < Nat.gcd n d := Nat.gcd_pos_of_pos_left _ (Nat.pos_of_ne_zero hn)
  have hdv : Nat.gcd n d ∣ n := Nat.gcd_dvd_left n d
  have hq : 0 < n / Nat.gcd n d := Nat.div_pos (Nat.le_of_dvd (Nat.pos_of_ne_zero hn) hdv) hg
  have hnum : (sq neg n d).num = sgn neg (n / Nat.gcd n d) := by
    unfold sq
    rw [h1]
    unfold sgn
    cases neg with
    | false => simp
    | true =>
      simp only [if_true]
      rw [Int.neg_ediv_of_dvd (Int.ofNat_dvd.2 hdv)]
      simp
  unfold rd
  rw [hnum]
  have h0 : sgn neg (n / Nat.gcd n d) ≠ 0 := fun e => by
    have := congrArg Int.natAbs e
    rw [sgn_abs] at this
    rw [this] at hq
    simp at hq
  rw [if_neg h0, sgn_abs]
  have e2 : (sq neg n d).den = d / Nat.gcd n d := h2
  rw [e2]
  congr 1
  generalize n / Nat.gcd n d = m at hq
  unfold sgn
  cases neg with
  | false => simp
  | true => simp; omega
theorem rd_zero : rd 0 = ⟨false, [], []⟩ := by simp [rd, words_zero]
theorem sq_zero (neg : Bool) (d : Nat) : sq neg 0 d = 0 := by unfold sq sgn; cases neg <;> simp [Rat.zero_mkRat]

theorem plainB_words {n : Nat} (h : n ≠ 0) : plainB (words n) = true := by
  have hp := (words_plain n).resolve_left (fun e => h (words_eq_nil.1 e))
  have hl : (words n).length ≠ 0 := fun e => h (words_eq_nil.1 (List.length_eq_zero_iff.1 e))
  simp only [plainB, Bool.and_eq_true, decide_eq_true_eq, Bool.not_eq_true', decide_eq_false_iff_not]
  exact ⟨by omega, hp⟩
theorem rd_some {q : Rat} (h : q ≠ 0) : (rd q).some = true ∧ (rd q).valid = true := by
  have hn : q.num ≠ 0 := fun e => h (Rat.num_eq_zero.1 e)
  have hl : (words q.num.natAbs).length ≠ 0 := fun e => hn (by have := words_eq_nil.1 (List.length_eq_zero_iff.1 e); omega)
  have hv : (rd q).valid = true := by
    unfold RD.valid rd
    simp only [hn, if_false]
    rw [if_neg (fun x => hl x.1), plainB_words (by omega), plainB_words q.den_nz, val_words, val_words]
    have := q.reduced
    simp only [Bool.and_self, Bool.true_and, decide_eq_true_eq]
    exact this
  refine ⟨?_, hv⟩
  unfold RD.some
  rw [hv]
  simp only [Bool.true_and, decide_eq_true_eq]
  exact hl
theorem rd_q (q : Rat) : (rd q).q = q := by
  by_cases h : q = 0
  · subst h
    rw [rd_zero]
    rfl
  · obtain ⟨h1, _⟩ := rd_some h
    have hn : q.num ≠ 0 := fun e => h (Rat.num_eq_zero.1 e)
    have e : (rd q).q = sq (decide (q.num < 0)) q.num.natAbs q.den := by
      unfold RD.q RD.ps RD.pn RD.pd
      rw [h1]
      simp only [if_true]
      unfold rd
      simp only [hn, if_false, val_words]
    rw [e]
    unfold sq
    have : sgn (decide (q.num < 0)) q.num.natAbs = q.num := by
      unfold sgn
      split
      · rename_i hlt; simp only [decide_eq_true_eq] at hlt; omega
      · rename_i hlt; simp only [decide_eq_true_eq] at hlt; omega
    rw [this]
    exact Rat.mkRat_self q
theorem rd_valid (q : Rat) : (rd q).valid = true := by
  by_cases h : q = 0
  · subst h; rw [rd_zero]; rfl
  · exact (rd_some h).2

/-- Numerator and denominator take at most L words. -/
def fits (q : Rat) (L : Nat) : Prop := q.num.natAbs < 4294967296 ^ L ∧ q.den < 4294967296 ^ L
theorem fits_mono {q : Rat} {L M : Nat} (h : fits q L) (hm : L ≤ M) : fits q M :=
  ⟨Nat.lt_of_lt_of_le h.1 (Nat.pow_le_pow_right (by omega) hm), Nat.lt_of_lt_of_le h.2 (Nat.pow_le_pow_right (by omega) hm)⟩
theorem rd_wf {q : Rat} {L : Nat} (h : fits q L) : (rd q).wf L := by
  refine ⟨words_lt _, ?_, words_len_le h.1, ?_⟩
  · unfold rd
    simp only
    split
    · simp
    · exact words_lt _
  · unfold rd
    simp only
    split
    · simp
    · exact words_len_le h.2
theorem fits_sq {neg : Bool} {n d L : Nat} (hd : d ≠ 0) (h1 : n < 4294967296 ^ L) (h2 : d < 4294967296 ^ L) : fits (sq neg n d) L := by
  obtain ⟨e1, e2⟩ := mkRat_nd (n := sgn neg n) hd
  rw [sgn_abs] at e1 e2
  unfold fits sq
  rw [e1, e2]
  refine ⟨Nat.lt_of_le_of_lt ?_ h1, Nat.lt_of_le_of_lt (Nat.div_le_self _ _) h2⟩
  have := Int.natAbs_ediv_le_natAbs (sgn neg n) ((Nat.gcd n d : Nat) : Int)
  rw [sgn_abs] at this
  exact this
theorem RD.fits {r : RD} {L : Nat} (hw : r.wf L) (hL : 1 ≤ L) : fits r.q L := by
  obtain ⟨h1, h2⟩ := RD.p_len hw hL
  have hp := RD.pd_ne hw
  exact fits_sq hp (Nat.lt_of_lt_of_le (words_pow_lt _) (Nat.pow_le_pow_right (by omega) h1)) (Nat.lt_of_lt_of_le (words_pow_lt _) (Nat.pow_le_pow_right (by omega) h2))
theorem norm_le {n : Int} {d L : Nat} (hd : d ≠ 0) (h1 : n.natAbs < 4294967296 ^ L) (h2 : d < 4294967296 ^ L) : PN.fits (mkRat n d) L := by
  obtain ⟨e1, e2⟩ := mkRat_nd (n := n) hd
  unfold PN.fits
  rw [e1, e2]
  exact ⟨Nat.lt_of_le_of_lt (Int.natAbs_ediv_le_natAbs _ _) h1, Nat.lt_of_le_of_lt (Nat.div_le_self _ _) h2⟩
theorem pow_mul_lt {a b L M : Nat} (h1 : a < 4294967296 ^ L) (h2 : b < 4294967296 ^ M) : a * b < 4294967296 ^ (L + M) := by
  rw [Nat.pow_add]
  exact Nat.mul_lt_mul'' h1 h2
theorem fits_add {a b : Rat} {L M : Nat} (ha : PN.fits a L) (hb : PN.fits b M) : PN.fits (a + b) (L + M + 1) := by
  rw [Rat.add_def, Rat.normalize_eq_mkRat]
  have h3 := pow_mul_lt ha.1 hb.2
  have h4 := pow_mul_lt hb.1 ha.2
  rw [Nat.add_comm M L] at h4
  refine norm_le (Nat.mul_ne_zero a.den_nz b.den_nz) ?_ ?_
  · refine Nat.lt_of_le_of_lt (Int.natAbs_add_le _ _) ?_
    rw [Int.natAbs_mul, Int.natAbs_mul, Int.natAbs_natCast, Int.natAbs_natCast, Nat.pow_succ]
    omega
  · have := pow_mul_lt ha.2 hb.2
    rw [Nat.pow_succ]
    omega
theorem fits_mul {a b : Rat} {L M : Nat} (ha : PN.fits a L) (hb : PN.fits b M) : PN.fits (a * b) (L + M) := by
  rw [Rat.mul_def, Rat.normalize_eq_mkRat]
  refine norm_le (Nat.mul_ne_zero a.den_nz b.den_nz) ?_ (pow_mul_lt ha.2 hb.2)
  rw [Int.natAbs_mul]
  exact pow_mul_lt ha.1 hb.1
theorem fits_neg {a : Rat} {L : Nat} (ha : PN.fits a L) : PN.fits (-a) L := by
  unfold PN.fits
  rw [Rat.neg_num, Rat.neg_den, Int.natAbs_neg]
  exact ha
theorem fits_sub {a b : Rat} {L M : Nat} (ha : PN.fits a L) (hb : PN.fits b M) : PN.fits (a - b) (L + M + 1) := by
  rw [Rat.sub_eq_add_neg]; exact fits_add ha (fits_neg hb)

/-- Sums and products of signed fractions. -/
theorem sq_add_same (x : Bool) {n m d e : Nat} (hd : d ≠ 0) (he : e ≠ 0) : sq x (n * e + m * d) (d * e) = sq x n d + sq x m e := by
  unfold sq
  rw [Rat.mkRat_add_mkRat _ _ hd he]
  congr 1
  unfold sgn
  cases x <;> simp [Int.natCast_mul, Int.neg_add, Int.neg_mul]
theorem sq_add_ge (x : Bool) {n m d e : Nat} (hd : d ≠ 0) (he : e ≠ 0) (h : m * d ≤ n * e) : sq x (n * e - m * d) (d * e) = sq x n d + sq (!x) m e := by
  unfold sq
  rw [Rat.mkRat_add_mkRat _ _ hd he, sgn_neg]
  congr 1
  unfold sgn
  cases x
  · simp only [Bool.false_eq_true, if_false]
    rw [Int.ofNat_sub h, Int.natCast_mul, Int.natCast_mul, Int.neg_mul]; omega
  · simp only [if_true]
    rw [Int.ofNat_sub h, Int.natCast_mul, Int.natCast_mul, Int.neg_neg, Int.neg_mul]; omega
theorem sq_add_lt (x : Bool) {n m d e : Nat} (hd : d ≠ 0) (he : e ≠ 0) (h : n * e ≤ m * d) : sq (!x) (m * d - n * e) (d * e) = sq x n d + sq (!x) m e := by
  have := sq_add_ge (!x) (n := m) (m := n) (d := e) (e := d) he hd h
  rw [Bool.not_not, Nat.mul_comm e d] at this
  rw [this]
  exact Rat.add_comm _ _
theorem sq_mul (x y : Bool) (n m d e : Nat) : sq (x != y) (n * m) (d * e) = sq x n d * sq y m e := by
  unfold sq
  rw [Rat.mkRat_mul_mkRat, sgn_mul]
theorem sq_neg (x : Bool) (n d : Nat) : sq (!x) n d = - sq x n d := by
  unfold sq
  rw [Rat.neg_mkRat, sgn_neg]
def signQ (q : Rat) : Int := if q = 0 then 0 else if q < 0 then -1 else 1
theorem sq_ne {neg : Bool} {n d : Nat} (hn : n ≠ 0) (hd : d ≠ 0) : sq neg n d ≠ 0 := by
  unfold sq
  rw [Ne, Rat.mkRat_eq_zero hd]
  intro e
  have := congrArg Int.natAbs e
  rw [sgn_abs] at this
  simp at this
  exact hn this
theorem sq_lt {neg : Bool} {n d : Nat} (hn : n ≠ 0) (hd : d ≠ 0) : sq neg n d < 0 ↔ neg = true := by
  have h := rd_sq (neg := neg) hn hd
  have h1 : decide ((sq neg n d).num < 0) = neg := congrArg RD.neg h
  have h2 : sq neg n d < 0 ↔ (sq neg n d).num < 0 := by rw [Rat.lt_iff]; simp
  rw [h2]
  constructor
  · intro h3; rw [← h1]; simpa using h3
  · intro h3; rw [h3] at h1; rw [h3]; simpa using h1
end Go.PN

/- Names of blocks kept apart; a truth value that decides what follows; branches that are decided. -/
namespace Go.AI

/-- g is none of the blocks of h. -/
def Heap.ne (g : Nat) : Heap → Prop
  | [] => True
  | (g', _) :: h => (¬ g = g' ∧ ¬ g' = g) ∧ Heap.ne g h
theorem Heap.ne_of {g : Nat} : ∀ {h : Heap}, g ∉ h.keys → Heap.ne g h
  | [], _ => trivial
  | (g', _) :: h, hg => by
    simp only [Heap.keys, List.map_cons, List.mem_cons, not_or] at hg
    exact ⟨⟨hg.1, fun e => hg.1 e.symm⟩, Heap.ne_of hg.2⟩

theorem Sl.set_same : ∀ {σ : Sl} {t : Nat} {v : AV}, σ.get t = v → v ≠ .c .any → σ.set t v = σ
  | [], t, v, h, hn => by simp [Sl.get] at h; exact absurd h.symm hn
  | (s, x) :: σ, t, v, h, hn => by
    by_cases e : s = t
    · subst e; simp [Sl.get] at h; subst h; simp [Sl.set]
    · simp only [Sl.get, e, if_false] at h
      simp only [Sl.set, e, if_false, Sl.set_same h hn]

section
variable {E : Env} {K : List It} {σ σ' : Sl} {h : Heap} {all rest : List Oper} {o : Oper}

/-- The slot's truth value is looked at. -/
theorem aw_split (t : Nat) {b : Bool} (hb : σ.get t = .c (.bool b)) (k1 : b = true → aw E K (σ.set t (.c (.bool true))) h) (k2 : b = false → aw E K (σ.set t (.c (.bool false))) h) : aw E K σ h := by
  cases b with
  | true => have := k1 rfl; rwa [Sl.set_same hb (fun e => by cases e)] at this
  | false => have := k2 rfl; rwa [Sl.set_same hb (fun e => by cases e)] at this
theorem drk_split (t : Nat) {b : Bool} {l : List Oper} {n : Nat} (hb : σ.get t = .c (.bool b)) (k1 : b = true → DrK E h l K n rest (σ.set t (.c (.bool true)))) (k2 : b = false → DrK E h l K n rest (σ.set t (.c (.bool false)))) : DrK E h l K n rest σ := by
  cases b with
  | true => have := k1 rfl; rwa [Sl.set_same hb (fun e => by cases e)] at this
  | false => have := k2 rfl; rwa [Sl.set_same hb (fun e => by cases e)] at this
theorem aw_condT {t : Nat} {x y : Code} (hb : σ.get t = .c (.bool true)) (k : aw E (.code x :: K) σ h) : aw E (.code (.cond (.tmp t) x y) :: K) σ h :=
  aw_cond hb (fun _ => k) (fun e => by cases e)
theorem aw_condF {t : Nat} {x y : Code} (hb : σ.get t = .c (.bool false)) (k : aw E (.code y :: K) σ h) : aw E (.code (.cond (.tmp t) x y) :: K) σ h :=
  aw_cond hb (fun e => by cases e) (fun _ => k)
/-- Only some slots and blocks are looked at from here on. -/
theorem aw_keep (σ' : Sl) (h' : Heap) (hs : Sl.sub σ' σ) (hh : h'.Sublist h) (k : aw E K σ' h') : aw E K σ h := aw_weak (Sl.sub_le hs) hh k
end
theorem le_any_row {h : Heap} {t t' : Bool} {s n : Nat} {f : Nat → CV} (ht : t' = true → t = true) : LeC h (.row t s n f) (.row t' s n f) := .row ht fun _ _ => .refl _
end Go.AI

/- More operations that leave memory alone: struct literals, type assertions, equality of structs, slices against nil. -/
namespace Go.AI

def okPart : AV → Bool
  | .tup _ => false
  | .c x => x.solid
  | .agg xs => xs.all CV.solid
theorem okPart_spec {x : AV} (h : okPart x = true) : (∀ xs, x ≠ .tup xs) ∧ x.cells.all CV.solid = true := by
  cases x with
  | tup xs => cases h
  | c x => exact ⟨(fun _ e => by cases e), by simpa [okPart, AV.cells] using h⟩
  | agg xs => exact ⟨(fun _ e => by cases e), by simpa [okPart, AV.cells] using h⟩

def okParts (ρ : Operand → AV) : List (Nat × Operand) → Bool
  | [] => true
  | p :: ps => okPart (ρ p.2) && okParts ρ ps
theorem okParts_spec {ρ : Operand → AV} : ∀ {ps : List (Nat × Operand)}, okParts ρ ps = true → ∀ p ∈ ps, (∀ xs, ρ p.2 ≠ .tup xs) ∧ (ρ p.2).cells.all CV.solid = true
  | [], _, p, hp => by simp at hp
  | q :: ps, h, p, hp => by
    simp only [okParts, Bool.and_eq_true] at h
    rcases List.mem_cons.1 hp with e | hp
    · subst e; exact okPart_spec h.1
    · exact okParts_spec h.2 p hp

section
variable {P : Program} {h : Heap} {ρ : Operand → AV}

def mapCells (ρ : Operand → AV) : List (Nat × Operand) → List (Nat × List CV)
  | [] => []
  | p :: ps => (p.1, (ρ p.2).cells) :: mapCells ρ ps
theorem mapCells_eq (ρ : Operand → AV) : ∀ ps : List (Nat × Operand), mapCells ρ ps = ps.map fun p => (p.1, (ρ p.2).cells)
  | [] => rfl
  | p :: ps => by simp [mapCells, mapCells_eq ρ ps]
def build2 (P : Program) (ρ : Operand → AV) (t : TypeId) (ps : List (Nat × Operand)) : Option (Prop × AV) :=
  match tFlds P t, tZero P t with
  | some fl, some z => match fillC fl z (mapCells ρ ps) with
    | some out => some (okParts ρ ps = true, .agg out)
    | none => none
  | _, _ => none
theorem build2_ok {t : TypeId} {ps : List (Nat × Operand)} {req : Prop} {r : AV} (hb : build2 P ρ t ps = some (req, r)) (hreq : req) : POk P h ρ (.build t ps.toArray) r := by
  unfold build2 at hb
  split at hb
  · rename_i fl z hfl hz
    split at hb
    · rename_i out hout
      simp only [Option.some.injEq, Prod.mk.injEq] at hb
      obtain ⟨rfl, rfl⟩ := hb
      refine buildAV_ok (req := ∀ p ∈ ps, (∀ xs, ρ p.2 ≠ .tup xs) ∧ (ρ p.2).cells.all CV.solid = true) ?_ (okParts_spec hreq)
      unfold buildAV
      rw [hfl, hz]
      simp only
      rw [← mapCells_eq, hout]
    · cases hb
  · cases hb

def isStr (P : Program) (t : TypeId) : Bool := match P.underlying t with
  | some (.struct _) => true
  | _ => false
theorem isStr_spec {t : TypeId} (h : isStr P t = true) : P.underlying t = some (.struct (P.fieldsOf t)) := by
  unfold isStr at h
  unfold Program.fieldsOf
  split at h
  · rename_i fs hfs; rw [hfs]
  · cases h
/-- A struct of ints alone that can be compared. -/
def tEqS (P : Program) (t : TypeId) : Option Nat :=
  if !P.stoodInHeld t && !P.eqGuardType P.depth t && (P.fieldsOf t).toList.zipIdx.all (fun p => p.1.name != "_" && p.1.offset == p.2 && (tInt P p.1.type).isSome) && isStr P t then some (P.fieldsOf t).size else none

def intsC : List CV → Option (List Int)
  | [] => some []
  | .int .i64 n :: l => match intsC l with
    | some ns => some (n :: ns)
    | none => none
  | _ => none
theorem intsC_rep {S : Bool → Nat → Prop} {w : World} : ∀ {cs : List CV} {ns : List Int} {us : List Value}, intsC cs = some ns → RepL S w cs us → us = ns.map (Value.int .i64)
  | [], ns, us, h1, h2 => by
    simp [intsC] at h1; subst h1
    cases us with
    | nil => rfl
    | cons u us => exact h2.elim
  | c :: cs, ns, us, h1, h2 => by
    cases us with
    | nil => exact h2.elim
    | cons u us =>
      unfold intsC at h1
      split at h1
      · rename_i heq; cases heq
      · rename_i n l heq
        cases heq
        split at h1
        · rename_i ns' hns
          injection h1 with h1
          subst h1
          have hu : u = .int .i64 n := h2.1
          rw [hu, List.map_cons, intsC_rep hns h2.2]
        · cases h1
      · cases h1
def eqZ : List Int → List Int → Bool
  | [], [] => true
  | a :: iu, b :: bs => a == b && eqZ iu bs
  | _, _ => false
theorem eqZ_eq : ∀ {iu bs : List Int}, eqZ iu bs = decide (iu = bs)
  | [], [] => by simp [eqZ]
  | a :: iu, b :: bs => by
    simp only [eqZ, eqZ_eq (iu := iu) (bs := bs), List.cons.injEq, Bool.decide_and]
    rfl
  | [], b :: bs => by simp [eqZ]
  | a :: iu, [] => by simp [eqZ]

theorem run_eqFields_ints {P : Program} (w : World) (xs ys : Array Value) (iu bs : List Int) (hx : xs = (iu.map (Value.int .i64)).toArray) (hy : ys = (bs.map (Value.int .i64)).toArray) (hl : iu.length = bs.length) :
    ∀ (fs : List Field) (k : Nat), (fs.zipIdx k).all (fun p => p.1.name != "_" && p.1.offset == p.2 && (tInt P p.1.type).isSome) = true → k + fs.length = iu.length → (Op.eqFields 9999 xs ys fs).run P w = .ok (eqZ (iu.drop k) (bs.drop k)) w
  | [], k, _, hk => by
    rw [List.drop_of_length_le (by simp at hk; omega), List.drop_of_length_le (by simp at hk; omega)]
    simp [Op.eqFields, eqZ]
  | f :: fs, k, hf, hk => by
    simp only [List.zipIdx_cons, List.all_cons, Bool.and_eq_true, bne_iff_ne, ne_eq, beq_iff_eq] at hf
    obtain ⟨⟨⟨hn, ho⟩, hi⟩, hr⟩ := hf
    simp only [List.length_cons] at hk
    have hka : k < iu.length := by omega
    have hkb : k < bs.length := by omega
    obtain ⟨kk, hkk⟩ := Option.isSome_iff_exists.1 hi
    have hu := tInt_spec hkk
    have hag : (isAgg f.type).run P w = .ok false w := by simp [isAgg, run_underlying hu]
    have e1 : xs[k]? = some (Value.int .i64 (iu[k])) := by rw [hx]; simp [hka]
    have e2 : ys[k]? = some (Value.int .i64 (bs[k])) := by rw [hy]; simp [hkb]
    have p1 : (part f.type xs f.offset).run P w = .ok (.int .i64 (iu[k])) w := by
      unfold part
      simp only [Sem.run_bind, hag, Result.andThen_ok, Bool.false_eq_true, if_false, ho, e1, Sem.run_pure]
    have p2 : (part f.type ys f.offset).run P w = .ok (.int .i64 (bs[k])) w := by
      unfold part
      simp only [Sem.run_bind, hag, Result.andThen_ok, Bool.false_eq_true, if_false, ho, e2, Sem.run_pure]
    have p3 : (Op.equalIn 9999 f.type (.int .i64 (iu[k])) (.int .i64 (bs[k]))).run P w = .ok (iu[k] == bs[k]) w := run_equalIn_int w 9998 f.type .i64 kk _ _ hu
    have ih := run_eqFields_ints w xs ys iu bs hx hy hl fs (k + 1) (by simpa using hr) (by omega)
    rw [List.drop_eq_getElem_cons hka, List.drop_eq_getElem_cons hkb]
    simp only [Op.eqFields, hn, not_false_eq_true, if_true, Sem.run_bind, p1, p2, p3, Result.andThen_ok, eqZ, ne_eq]
    cases hab : (iu[k] == bs[k]) with
    | true => simpa using ih
    | false => simp
theorem intsC_len : ∀ {cs : List CV} {ns : List Int}, intsC cs = some ns → ns.length = cs.length
  | [], ns, h => by simp [intsC] at h; subst h; rfl
  | c :: cs, ns, h => by
    unfold intsC at h
    split at h
    · rename_i heq; cases heq
    · rename_i n l heq
      cases heq
      split at h
      · rename_i ns' hns
        injection h with h
        subst h
        simp [intsC_len hns]
      · cases h
    · cases h
theorem tEqS_run {t n : Nat} (ht : tEqS P t = some n) {iu bs : List Int} (ha : iu.length = n) (hb : bs.length = n) (w : World) : (Op.equalIn 10000 t (.agg (iu.map (Value.int .i64)).toArray) (.agg (bs.map (Value.int .i64)).toArray)).run P w = .ok (eqZ iu bs) w ∧ P.eqGuardType P.depth t = false := by
  unfold tEqS at ht
  split at ht
  · rename_i hc
    simp only [Bool.and_eq_true, Bool.not_eq_true'] at hc
    obtain ⟨⟨⟨h1, h2⟩, h3⟩, h4⟩ := hc
    injection ht with ht
    refine ⟨?_, h2⟩
    have hu := isStr_spec h4
    rw [show (10000 : Nat) = 9999 + 1 from rfl, run_equalIn_agg w 9999 t _ _ hu h1]
    have := run_eqFields_ints (P := P) w _ _ iu bs rfl rfl (by omega) (P.fieldsOf t).toList 0 h3 (by simp; omega)
    simpa using this
  · cases ht

/-- Comparison of structs of ints. -/
def eqAgg (P : Program) (op : BinOp) (t : TypeId) (xs ys : List CV) : Option (Prop × AV) :=
  match tEqS P t, intsC xs, intsC ys, op with
  | some n, some iu, some bs, .eql => some (xs.length = n ∧ ys.length = n, .c (.bool (eqZ iu bs)))
  | some n, some iu, some bs, .neq => some (xs.length = n ∧ ys.length = n, .c (.bool (!eqZ iu bs)))
  | _, _, _, _ => none
theorem POk.eqAgg {op : BinOp} {t t' : TypeId} {x y : Operand} {xs ys : List CV} {req : Prop} {r : AV} (hx : ρ x = .agg xs) (hy : ρ y = .agg ys) (hr : AI.eqAgg P op t xs ys = some (req, r)) (hreq : req) : POk P h ρ (.binOp op t x y t') r := fun S w e _ ho _ => by
  have h1 := ho x (by simp [Op.operands])
  have h2 := ho y (by simp [Op.operands])
  rw [hx] at h1
  rw [hy] at h2
  obtain ⟨us, hu, hru⟩ := h1
  obtain ⟨vs, hv, hrv⟩ := h2
  unfold AI.eqAgg at hr
  split at hr
  · rename_i n iu bs ht ha hb
    simp only [Option.some.injEq, Prod.mk.injEq] at hr
    obtain ⟨rfl, rfl⟩ := hr
    obtain ⟨r1, r2⟩ := tEqS_run ht (iu := iu) (bs := bs) (by rw [intsC_len ha]; exact hreq.1) (by rw [intsC_len hb]; exact hreq.2) w
    have e1 := intsC_rep ha hru
    have e2 := intsC_rep hb hrv
    refine ⟨.bool (eqZ iu bs), fun o hop => exec_bin hop ?_ ?_, rfl⟩
    · rw [hu, hv]; exact run_eqGuard_agg w _ _ _ _ _ _ r2
    · rw [hu, hv, run_eql_struct, e1, e2, r1]; rfl
  · rename_i n iu bs ht ha hb
    simp only [Option.some.injEq, Prod.mk.injEq] at hr
    obtain ⟨rfl, rfl⟩ := hr
    obtain ⟨r1, r2⟩ := tEqS_run ht (iu := iu) (bs := bs) (by rw [intsC_len ha]; exact hreq.1) (by rw [intsC_len hb]; exact hreq.2) w
    have e1 := intsC_rep ha hru
    have e2 := intsC_rep hb hrv
    refine ⟨.bool (!eqZ iu bs), fun o hop => exec_bin hop ?_ ?_, rfl⟩
    · rw [hu, hv]; exact run_eqGuard_agg w _ _ _ _ _ _ r2
    · rw [hu, hv, run_neq_struct, e1, e2, r1]; rfl
  · cases hr

/-- The zero of an int type. -/
def tZI (P : Program) (t : TypeId) : Option (IntKind × Int) := match (P.info? t).bind (·.zero) with
  | some (.int k n) => some (k, n)
  | _ => none
theorem tZI_run {t : TypeId} {k : IntKind} {n : Int} (h : tZI P t = some (k, n)) (w : World) : (zeroValue t).run P w = .ok (.int k n) w := by
  unfold tZI at h
  split at h
  · rename_i k' n' he
    simp only [Option.some.injEq, Prod.mk.injEq] at h
    obtain ⟨rfl, rfl⟩ := h
    cases hi : P.info? t with
    | none => rw [hi] at he; cases he
    | some i =>
      rw [hi] at he
      have hz : i.zero = some (.int k' n') := he
      simp [zeroValue, typeInfo, hi, hz]
  · cases h
/-- What an error is asserted to be. -/
def assertAV (P : Program) (t : TypeId) : AV → Option (Prop × AV)
  | .c (.ifc u c) => match tInt P t with
    | some _ => if u = t then some (True, .tup [.c c, .c (.bool true)]) else none
    | none => none
  | .c .nilI => match tInt P t, tZI P t with
    | some _, some (k, z) => some (True, .tup [.c (.int k z), .c (.bool false)])
    | _, _ => none
  | _ => none
theorem POk.assertA {x : Operand} {xt t : TypeId} {req : Prop} {r : AV} (hr : assertAV P t (ρ x) = some (req, r)) (hreq : req) : POk P h ρ (.typeAssert x xt t true) r := fun S w e _ ho _ => by
  have h1 := ho x (by simp [Op.operands])
  unfold assertAV at hr
  split at hr
  · rename_i u c hx
    rw [hx] at h1
    obtain ⟨v, hv, hc⟩ := h1
    split at hr
    · rename_i k hk
      split at hr
      · rename_i e1
        subst e1
        simp only [Option.some.injEq, Prod.mk.injEq] at hr
        obtain ⟨rfl, rfl⟩ := hr
        refine ⟨.tuple #[v, .bool true], fun o hop => ?_, [v, .bool true], rfl, hc, rfl, trivial⟩
        simp [execOp, hop, hv, Instr.typeAssert, run_underlying (tInt_spec hk)]
      · cases hr
    · cases hr
  · rename_i hx
    rw [hx] at h1
    have hv : e x = .nilIface := h1
    split at hr
    · rename_i k0 k z hk hz
      simp only [Option.some.injEq, Prod.mk.injEq] at hr
      obtain ⟨rfl, rfl⟩ := hr
      refine ⟨.tuple #[.int k z, .bool false], fun o hop => ?_, [.int k z, .bool false], rfl, rfl, rfl, trivial⟩
      simp [execOp, hop, hv, Instr.typeAssert, run_underlying (tInt_spec hk), tZI_run hz]
    · cases hr
  · cases hr

theorem POk.nilCheckR {x : Operand} {n : Nat} {f : Nat → CV} (hx : ρ x = .c (.rptr n f)) : POk P h ρ (.nilCheck x) (.c (.rptr n f)) := fun S w e _ ho _ => by
  have h1 := ho x (by simp [Op.operands])
  rw [hx] at h1
  have h1' := h1
  obtain ⟨ad, hv, _⟩ := h1
  exact ⟨e x, fun o hop => by simp only [execOp, hop, hv]; rfl, h1'⟩

/-- All operations that leave memory alone. -/
noncomputable def pureOp2 (P : Program) (nw : Bool) (h : Heap) (ρ : Operand → AV) : Op → Option (Prop × AV)
  | .build t ⟨ps⟩ => build2 P ρ t ps
  | .typeAssert x _ t true => assertAV P t (ρ x)
  | .binOp op t x y t' => match ρ x, ρ y with
    | .agg xs, .agg ys => eqAgg P op t xs ys
    | a, b => binAV P nw op t y a b
  | .nilCheck x => match ρ x with
    | .c (.rptr n f) => some (True, .c (.rptr n f))
    | .c (.optr g off) => some (True, .c (.optr g off))
    | _ => none
  | op => pureOp P nw h ρ op
theorem pureOp2_ok {nw : Bool} {op : Op} {req : Prop} {r : AV} (hk : ∀ v, ρ (.const v) = cst v) (hb : pureOp2 P nw h ρ op = some (req, r)) (hreq : req) : POk P h ρ op r := by
  unfold pureOp2 at hb
  split at hb
  · exact build2_ok hb hreq
  · exact POk.assertA hb hreq
  · split at hb
    · rename_i hx hy; exact POk.eqAgg hx hy hb hreq
    · exact binAV_ok hk hb hreq
  · split at hb
    · rename_i hx
      simp only [Option.some.injEq, Prod.mk.injEq] at hb; obtain ⟨rfl, rfl⟩ := hb; exact POk.nilCheckR hx
    · rename_i hx
      simp only [Option.some.injEq, Prod.mk.injEq] at hb; obtain ⟨rfl, rfl⟩ := hb; exact POk.nilCheckO hx
    · cases hb
  · exact pureOp_ok hk hb hreq

/-- One operation. -/
noncomputable def runOp2 (P : Program) (nw : Bool) (h : Heap) (all : List Oper) (o : Oper) (σ : Sl) : Option (Prop × Sl) :=
  match wantA all σ o with
  | some true => match pureOp2 P nw h (ev σ) o.op with
    | some (q, r) => some (q, σ.setO o.dst r)
    | none => none
  | some false => some (True, σ.setO o.dst (.c .any))
  | none => none
end
section
variable {E : Env} {K : List It} {σ σ' : Sl} {h : Heap} {all rest : List Oper} {o : Oper}
theorem aw_2q (nw : Bool) (hd : dstOk E.N o.dst = true) (k : ∀ R : Option (Prop × Sl) → Prop, (∀ q σ', q → aw E (.ops all rest :: K) σ' h → R (some (q, σ'))) → R (runOp2 E.P nw h all o σ)) : aw E (.ops all (o :: rest) :: K) σ h := by
  have := k (fun x => x = runOp2 E.P nw h all o σ → aw E (.ops all (o :: rest) :: K) σ h) (fun q σ' hq ha e => by
    unfold runOp2 at e
    split at e
    · rename_i hw
      split at e
      · rename_i q1 r hp
        simp only [Option.some.injEq, Prod.mk.injEq] at e
        obtain ⟨rfl, rfl⟩ := e
        exact aw_pure hw (pureOp2_ok (fun _ => rfl) hp hq) hd rfl ha
      · cases e
    · rename_i hw
      simp only [Option.some.injEq, Prod.mk.injEq] at e
      obtain ⟨rfl, rfl⟩ := e
      exact aw_skipped hw hd rfl ha
    · cases e)
  exact this rfl
theorem Calm.pure2 {l : List Oper} {nw : Bool} {q : Prop} {r : AV} (hw : wantA l σ o = some true) (hb : pureOp2 E.P nw h (ev σ) o.op = some (q, r)) (hq : q) (hd : dstOk E.N o.dst = true) : Calm E h l σ o r := by
  refine ⟨hd, fun σ' a w Q hs s => ?_⟩
  rw [if_pos (s.wanted ((want_same hs).trans hw))]
  obtain ⟨v, hrun, hr⟩ := pureOp2_ok (fun _ => rfl) hb hq (Stab E.C h w) w a.eval Stab.mono' (fun x hx => by rw [← ev_same hx hs]; exact ev_rep s x) s.heap
  unfold Oper.wp
  rw [hrun o rfl]
  exact s.put hd hr
theorem drk_2q {l rest : List Oper} {n : Nat} (nw : Bool) (hd : dstOk E.N o.dst = true) (k : ∀ R : Option (Prop × Sl) → Prop, (∀ q σ', q → DrK E h l K n rest σ' → R (some (q, σ'))) → R (runOp2 E.P nw h l o σ)) : DrK E h l K (n + 1) (o :: rest) σ := by
  have := k (fun x => x = runOp2 E.P nw h l o σ → DrK E h l K (n + 1) (o :: rest) σ) (fun q σ' hq ha e => by
    unfold runOp2 at e
    split at e
    · rename_i hw
      split at e
      · rename_i q1 r hp
        simp only [Option.some.injEq, Prod.mk.injEq] at e
        obtain ⟨rfl, rfl⟩ := e
        exact drk_cons (Calm.pure2 hw hp hq hd) ha
      · cases e
    · rename_i hw
      simp only [Option.some.injEq, Prod.mk.injEq] at e
      obtain ⟨rfl, rfl⟩ := e
      exact drk_cons (Calm.skip hw hd) ha
    · cases e)
  exact this rfl
end
attribute [go_sem] pureOp2 runOp2 build2 okPart okParts mapCells fillC putC CV.solid eqAgg intsC eqZ assertAV List.set_cons_zero List.set_cons_succ Bool.and_true Bool.true_and Bool.and_self and_true true_and and_self List.all_cons List.all_nil
section
variable {E : Env} {K : List It} {σ : Sl} {h : Heap} {all l rest : List Oper} {o : Oper}
theorem wb1 (hd : dstOk E.N o.dst = true) (k : ∀ R : Option (Prop × Sl) → Prop, (∀ q σ', aw E (.ops all rest :: K) σ' h → (hq : q := by (try simp only [inRange]) <;> and_intros <;> first | exact True.intro | omega | trivial) → R (some (q, σ'))) → R (runOp2 E.P true h all o σ)) : aw E (.ops all (o :: rest) :: K) σ h :=
  aw_2q true hd fun R r => k R fun q σ' ha hq => r q σ' hq ha
theorem wd1 {n : Nat} (hd : dstOk E.N o.dst = true) (k : ∀ R : Option (Prop × Sl) → Prop, (∀ q σ', DrK E h l K n rest σ' → (hq : q := by (try simp only [inRange]) <;> and_intros <;> first | exact True.intro | omega | trivial) → R (some (q, σ'))) → R (runOp2 E.P true h l o σ)) : DrK E h l K (n + 1) (o :: rest) σ :=
  drk_2q true hd fun R r => k R fun q σ' ha hq => r q σ' hq ha
end
end Go.AI

/- The types of the program, as the evaluator asks for them; printed by a program (gen_ty.py). -/
namespace Go.Proofs.Ytmkomfdiggcloaa
open Go.AI
@[go_sem] theorem tya_s_2 : tSz Try.prog 2 = some (false, 1) := by kernel_rfl
@[go_sem] theorem tya_zi_2 : tZI Try.prog 2 = some (.i64, 0) := by kernel_rfl
@[go_sem] theorem tya_i_2 : tInt Try.prog 2 = some .i64 := by kernel_rfl
@[go_sem] theorem tya_z_2 : tZero Try.prog 2 = some [.int .i64 0] := by kernel_rfl
@[go_sem] theorem tya_s_3 : tSz Try.prog 3 = some (false, 1) := by kernel_rfl
@[go_sem] theorem tya_zi_3 : tZI Try.prog 3 = some (.i64, 0) := by kernel_rfl
@[go_sem] theorem tya_i_3 : tInt Try.prog 3 = some .i64 := by kernel_rfl
@[go_sem] theorem tya_z_3 : tZero Try.prog 3 = some [.int .i64 0] := by kernel_rfl
@[go_sem] theorem tya_s_4 : tSz Try.prog 4 = some (false, 1) := by kernel_rfl
@[go_sem] theorem tya_b_4 : tBool Try.prog 4 = true := by kernel_rfl
@[go_sem] theorem tya_z_4 : tZero Try.prog 4 = some [.bool false] := by kernel_rfl
@[go_sem] theorem tya_s_5 : tSz Try.prog 5 = some (false, 1) := by kernel_rfl
@[go_sem] theorem tya_zi_5 : tZI Try.prog 5 = some (.u8, 0) := by kernel_rfl
@[go_sem] theorem tya_i_5 : tInt Try.prog 5 = some .u8 := by kernel_rfl
@[go_sem] theorem tya_z_5 : tZero Try.prog 5 = some [.int .u8 0] := by kernel_rfl
@[go_sem] theorem tya_s_6 : tSz Try.prog 6 = some (false, 1) := by kernel_rfl
@[go_sem] theorem tya_zi_6 : tZI Try.prog 6 = some (.u8, 0) := by kernel_rfl
@[go_sem] theorem tya_i_6 : tInt Try.prog 6 = some .u8 := by kernel_rfl
@[go_sem] theorem tya_z_6 : tZero Try.prog 6 = some [.int .u8 0] := by kernel_rfl
@[go_sem] theorem tya_s_7 : tSz Try.prog 7 = some (true, 4) := by kernel_rfl
@[go_sem] theorem tya_fl_7 : tFlds Try.prog 7 = some [(0, 1), (1, 1), (2, 1), (3, 1)] := by kernel_rfl
@[go_sem] theorem tya_f0_7 : tFld Try.prog 7 0 = some 0 := by kernel_rfl
@[go_sem] theorem tya_f1_7 : tFld Try.prog 7 1 = some 1 := by kernel_rfl
@[go_sem] theorem tya_f2_7 : tFld Try.prog 7 2 = some 2 := by kernel_rfl
@[go_sem] theorem tya_f3_7 : tFld Try.prog 7 3 = some 3 := by kernel_rfl
@[go_sem] theorem tya_z_7 : tZero Try.prog 7 = some [.int .i64 0, .int .i64 0, .bool false, .int .u8 0] := by kernel_rfl
@[go_sem] theorem tya_s_8 : tSz Try.prog 8 = some (true, 4) := by kernel_rfl
@[go_sem] theorem tya_fl_8 : tFlds Try.prog 8 = some [(0, 1), (1, 1), (2, 1), (3, 1)] := by kernel_rfl
@[go_sem] theorem tya_f0_8 : tFld Try.prog 8 0 = some 0 := by kernel_rfl
@[go_sem] theorem tya_f1_8 : tFld Try.prog 8 1 = some 1 := by kernel_rfl
@[go_sem] theorem tya_f2_8 : tFld Try.prog 8 2 = some 2 := by kernel_rfl
@[go_sem] theorem tya_f3_8 : tFld Try.prog 8 3 = some 3 := by kernel_rfl
@[go_sem] theorem tya_z_8 : tZero Try.prog 8 = some [.int .i64 0, .int .i64 0, .bool false, .int .u8 0] := by kernel_rfl
@[go_sem] theorem tya_s_9 : tSz Try.prog 9 = some (false, 1) := by kernel_rfl
@[go_sem] theorem tya_z_9 : tZero Try.prog 9 = some [.str ⟨#[]⟩] := by kernel_rfl
@[go_sem] theorem tya_s_10 : tSz Try.prog 10 = some (false, 1) := by kernel_rfl
@[go_sem] theorem tya_z_10 : tZero Try.prog 10 = some [.str ⟨#[]⟩] := by kernel_rfl
@[go_sem] theorem tya_s_11 : tSz Try.prog 11 = some (false, 1) := by kernel_rfl
@[go_sem] theorem tya_z_11 : tZero Try.prog 11 = some [.str ⟨#[]⟩] := by kernel_rfl
@[go_sem] theorem tya_s_12 : tSz Try.prog 12 = some (false, 1) := by kernel_rfl
@[go_sem] theorem tya_zi_12 : tZI Try.prog 12 = some (.u64, 0) := by kernel_rfl
@[go_sem] theorem tya_i_12 : tInt Try.prog 12 = some .u64 := by kernel_rfl
@[go_sem] theorem tya_z_12 : tZero Try.prog 12 = some [.int .u64 0] := by kernel_rfl
@[go_sem] theorem tya_s_13 : tSz Try.prog 13 = some (true, 2) := by kernel_rfl
@[go_sem] theorem tya_fl_13 : tFlds Try.prog 13 = some [(0, 1), (1, 1)] := by kernel_rfl
@[go_sem] theorem tya_f0_13 : tFld Try.prog 13 0 = some 0 := by kernel_rfl
@[go_sem] theorem tya_f1_13 : tFld Try.prog 13 1 = some 1 := by kernel_rfl
@[go_sem] theorem tya_z_13 : tZero Try.prog 13 = some [.str ⟨#[]⟩, .int .u64 0] := by kernel_rfl
@[go_sem] theorem tya_s_14 : tSz Try.prog 14 = some (true, 2) := by kernel_rfl
@[go_sem] theorem tya_fl_14 : tFlds Try.prog 14 = some [(0, 1), (1, 1)] := by kernel_rfl
@[go_sem] theorem tya_f0_14 : tFld Try.prog 14 0 = some 0 := by kernel_rfl
@[go_sem] theorem tya_f1_14 : tFld Try.prog 14 1 = some 1 := by kernel_rfl
@[go_sem] theorem tya_z_14 : tZero Try.prog 14 = some [.str ⟨#[]⟩, .int .u64 0] := by kernel_rfl
@[go_sem] theorem tya_s_15 : tSz Try.prog 15 = some (false, 1) := by kernel_rfl
@[go_sem] theorem tya_z_15 : tZero Try.prog 15 = some [.raw (.pointer none)] := by kernel_rfl
@[go_sem] theorem tya_s_16 : tSz Try.prog 16 = some (false, 1) := by kernel_rfl
@[go_sem] theorem tya_z_16 : tZero Try.prog 16 = some [.raw (.pointer none)] := by kernel_rfl
@[go_sem] theorem tya_s_17 : tSz Try.prog 17 = some (false, 1) := by kernel_rfl
@[go_sem] theorem tya_z_17 : tZero Try.prog 17 = some [.raw (.pointer none)] := by kernel_rfl
@[go_sem] theorem tya_s_18 : tSz Try.prog 18 = some (true, 1) := by kernel_rfl
@[go_sem] theorem tya_fl_18 : tFlds Try.prog 18 = some [(0, 1)] := by kernel_rfl
@[go_sem] theorem tya_f0_18 : tFld Try.prog 18 0 = some 0 := by kernel_rfl
@[go_sem] theorem tya_z_18 : tZero Try.prog 18 = some [.raw (.pointer none)] := by kernel_rfl
@[go_sem] theorem tya_s_19 : tSz Try.prog 19 = some (true, 1) := by kernel_rfl
@[go_sem] theorem tya_fl_19 : tFlds Try.prog 19 = some [(0, 1)] := by kernel_rfl
@[go_sem] theorem tya_f0_19 : tFld Try.prog 19 0 = some 0 := by kernel_rfl
@[go_sem] theorem tya_z_19 : tZero Try.prog 19 = some [.raw (.pointer none)] := by kernel_rfl
@[go_sem] theorem tya_s_20 : tSz Try.prog 20 = some (false, 1) := by kernel_rfl
@[go_sem] theorem tya_c_20 : tIfc Try.prog 20 = true := by kernel_rfl
@[go_sem] theorem tya_z_20 : tZero Try.prog 20 = some [.nilI] := by kernel_rfl
@[go_sem] theorem tya_s_21 : tSz Try.prog 21 = some (false, 1) := by kernel_rfl
@[go_sem] theorem tya_zi_21 : tZI Try.prog 21 = some (.i32, 0) := by kernel_rfl
@[go_sem] theorem tya_i_21 : tInt Try.prog 21 = some .i32 := by kernel_rfl
@[go_sem] theorem tya_z_21 : tZero Try.prog 21 = some [.int .i32 0] := by kernel_rfl
@[go_sem] theorem tya_e_22 : tElem Try.prog 22 = some (3, 1, 8) := by kernel_rfl
@[go_sem] theorem tya_s_22 : tSz Try.prog 22 = some (false, 1) := by kernel_rfl
@[go_sem] theorem tya_z_22 : tZero Try.prog 22 = some [.nils] := by kernel_rfl
@[go_sem] theorem tya_e_23 : tElem Try.prog 23 = some (72, 3, 24) := by kernel_rfl
@[go_sem] theorem tya_s_23 : tSz Try.prog 23 = some (false, 1) := by kernel_rfl
@[go_sem] theorem tya_z_23 : tZero Try.prog 23 = some [.nils] := by kernel_rfl
@[go_sem] theorem tya_s_24 : tSz Try.prog 24 = some (true, 3) := by kernel_rfl
@[go_sem] theorem tya_fl_24 : tFlds Try.prog 24 = some [(0, 1), (1, 1), (2, 1)] := by kernel_rfl
@[go_sem] theorem tya_f0_24 : tFld Try.prog 24 0 = some 0 := by kernel_rfl
@[go_sem] theorem tya_f1_24 : tFld Try.prog 24 1 = some 1 := by kernel_rfl
@[go_sem] theorem tya_f2_24 : tFld Try.prog 24 2 = some 2 := by kernel_rfl
@[go_sem] theorem tya_z_24 : tZero Try.prog 24 = some [.nils, .nils, .int .i64 0] := by kernel_rfl
@[go_sem] theorem tya_s_25 : tSz Try.prog 25 = some (true, 3) := by kernel_rfl
@[go_sem] theorem tya_fl_25 : tFlds Try.prog 25 = some [(0, 1), (1, 1), (2, 1)] := by kernel_rfl
@[go_sem] theorem tya_f0_25 : tFld Try.prog 25 0 = some 0 := by kernel_rfl
@[go_sem] theorem tya_f1_25 : tFld Try.prog 25 1 = some 1 := by kernel_rfl
@[go_sem] theorem tya_f2_25 : tFld Try.prog 25 2 = some 2 := by kernel_rfl
@[go_sem] theorem tya_z_25 : tZero Try.prog 25 = some [.nils, .nils, .int .i64 0] := by kernel_rfl
@[go_sem] theorem tya_e_26 : tElem Try.prog 26 = some (31, 3, 56) := by kernel_rfl
@[go_sem] theorem tya_s_26 : tSz Try.prog 26 = some (false, 1) := by kernel_rfl
@[go_sem] theorem tya_z_26 : tZero Try.prog 26 = some [.nils] := by kernel_rfl
@[go_sem] theorem tya_e_29 : tElem Try.prog 29 = some (85, 1, 4) := by kernel_rfl
@[go_sem] theorem tya_s_29 : tSz Try.prog 29 = some (false, 1) := by kernel_rfl
@[go_sem] theorem tya_z_29 : tZero Try.prog 29 = some [.nils] := by kernel_rfl
@[go_sem] theorem tya_s_30 : tSz Try.prog 30 = some (true, 3) := by kernel_rfl
@[go_sem] theorem tya_fl_30 : tFlds Try.prog 30 = some [(0, 1), (1, 1), (2, 1)] := by kernel_rfl
@[go_sem] theorem tya_f0_30 : tFld Try.prog 30 0 = some 0 := by kernel_rfl
@[go_sem] theorem tya_f1_30 : tFld Try.prog 30 1 = some 1 := by kernel_rfl
@[go_sem] theorem tya_f2_30 : tFld Try.prog 30 2 = some 2 := by kernel_rfl
@[go_sem] theorem tya_z_30 : tZero Try.prog 30 = some [.bool false, .nils, .nils] := by kernel_rfl
@[go_sem] theorem tya_s_31 : tSz Try.prog 31 = some (true, 3) := by kernel_rfl
@[go_sem] theorem tya_fl_31 : tFlds Try.prog 31 = some [(0, 1), (1, 1), (2, 1)] := by kernel_rfl
@[go_sem] theorem tya_f0_31 : tFld Try.prog 31 0 = some 0 := by kernel_rfl
@[go_sem] theorem tya_f1_31 : tFld Try.prog 31 1 = some 1 := by kernel_rfl
@[go_sem] theorem tya_f2_31 : tFld Try.prog 31 2 = some 2 := by kernel_rfl
@[go_sem] theorem tya_z_31 : tZero Try.prog 31 = some [.bool false, .nils, .nils] := by kernel_rfl
@[go_sem] theorem tya_s_35 : tSz Try.prog 35 = some (false, 1) := by kernel_rfl
@[go_sem] theorem tya_c_35 : tIfc Try.prog 35 = true := by kernel_rfl
@[go_sem] theorem tya_z_35 : tZero Try.prog 35 = some [.nilI] := by kernel_rfl
@[go_sem] theorem tya_s_36 : tSz Try.prog 36 = some (false, 1) := by kernel_rfl
@[go_sem] theorem tya_c_36 : tIfc Try.prog 36 = true := by kernel_rfl
@[go_sem] theorem tya_z_36 : tZero Try.prog 36 = some [.nilI] := by kernel_rfl
@[go_sem] theorem tya_s_40 : tSz Try.prog 40 = some (true, 2) := by kernel_rfl
@[go_sem] theorem tya_fl_40 : tFlds Try.prog 40 = some [(0, 1), (1, 1)] := by kernel_rfl
@[go_sem] theorem tya_f0_40 : tFld Try.prog 40 0 = some 0 := by kernel_rfl
@[go_sem] theorem tya_f1_40 : tFld Try.prog 40 1 = some 1 := by kernel_rfl
@[go_sem] theorem tya_q_40 : tEqS Try.prog 40 = some 2 := by kernel_rfl
@[go_sem] theorem tya_z_40 : tZero Try.prog 40 = some [.int .i64 0, .int .i64 0] := by kernel_rfl
@[go_sem] theorem tya_s_41 : tSz Try.prog 41 = some (true, 2) := by kernel_rfl
@[go_sem] theorem tya_fl_41 : tFlds Try.prog 41 = some [(0, 1), (1, 1)] := by kernel_rfl
@[go_sem] theorem tya_f0_41 : tFld Try.prog 41 0 = some 0 := by kernel_rfl
@[go_sem] theorem tya_f1_41 : tFld Try.prog 41 1 = some 1 := by kernel_rfl
@[go_sem] theorem tya_q_41 : tEqS Try.prog 41 = some 2 := by kernel_rfl
@[go_sem] theorem tya_z_41 : tZero Try.prog 41 = some [.int .i64 0, .int .i64 0] := by kernel_rfl
@[go_sem] theorem tya_s_64 : tSz Try.prog 64 = some (false, 1) := by kernel_rfl
@[go_sem] theorem tya_zi_64 : tZI Try.prog 64 = some (.i64, 0) := by kernel_rfl
@[go_sem] theorem tya_i_64 : tInt Try.prog 64 = some .i64 := by kernel_rfl
@[go_sem] theorem tya_z_64 : tZero Try.prog 64 = some [.int .i64 0] := by kernel_rfl
@[go_sem] theorem tya_s_71 : tSz Try.prog 71 = some (true, 3) := by kernel_rfl
@[go_sem] theorem tya_fl_71 : tFlds Try.prog 71 = some [(0, 1), (1, 1), (2, 1)] := by kernel_rfl
@[go_sem] theorem tya_f0_71 : tFld Try.prog 71 0 = some 0 := by kernel_rfl
@[go_sem] theorem tya_f1_71 : tFld Try.prog 71 1 = some 1 := by kernel_rfl
@[go_sem] theorem tya_f2_71 : tFld Try.prog 71 2 = some 2 := by kernel_rfl
@[go_sem] theorem tya_q_71 : tEqS Try.prog 71 = some 3 := by kernel_rfl
@[go_sem] theorem tya_z_71 : tZero Try.prog 71 = some [.int .i64 0, .int .i64 0, .int .i64 0] := by kernel_rfl
@[go_sem] theorem tya_s_72 : tSz Try.prog 72 = some (true, 3) := by kernel_rfl
@[go_sem] theorem tya_fl_72 : tFlds Try.prog 72 = some [(0, 1), (1, 1), (2, 1)] := by kernel_rfl
@[go_sem] theorem tya_f0_72 : tFld Try.prog 72 0 = some 0 := by kernel_rfl
@[go_sem] theorem tya_f1_72 : tFld Try.prog 72 1 = some 1 := by kernel_rfl
@[go_sem] theorem tya_f2_72 : tFld Try.prog 72 2 = some 2 := by kernel_rfl
@[go_sem] theorem tya_q_72 : tEqS Try.prog 72 = some 3 := by kernel_rfl
@[go_sem] theorem tya_z_72 : tZero Try.prog 72 = some [.int .i64 0, .int .i64 0, .int .i64 0] := by kernel_rfl
@[go_sem] theorem tya_s_74 : tSz Try.prog 74 = some (true, 3) := by kernel_rfl
@[go_sem] theorem tya_fl_74 : tFlds Try.prog 74 = some [(0, 1), (1, 1), (2, 1)] := by kernel_rfl
@[go_sem] theorem tya_f0_74 : tFld Try.prog 74 0 = some 0 := by kernel_rfl
@[go_sem] theorem tya_f1_74 : tFld Try.prog 74 1 = some 1 := by kernel_rfl
@[go_sem] theorem tya_f2_74 : tFld Try.prog 74 2 = some 2 := by kernel_rfl
@[go_sem] theorem tya_z_74 : tZero Try.prog 74 = some [.int .i64 0, .int .i64 0, .nils] := by kernel_rfl
@[go_sem] theorem tya_s_75 : tSz Try.prog 75 = some (true, 3) := by kernel_rfl
@[go_sem] theorem tya_fl_75 : tFlds Try.prog 75 = some [(0, 1), (1, 1), (2, 1)] := by kernel_rfl
@[go_sem] theorem tya_f0_75 : tFld Try.prog 75 0 = some 0 := by kernel_rfl
@[go_sem] theorem tya_f1_75 : tFld Try.prog 75 1 = some 1 := by kernel_rfl
@[go_sem] theorem tya_f2_75 : tFld Try.prog 75 2 = some 2 := by kernel_rfl
@[go_sem] theorem tya_z_75 : tZero Try.prog 75 = some [.int .i64 0, .int .i64 0, .nils] := by kernel_rfl
@[go_sem] theorem tya_e_76 : tElem Try.prog 76 = some (75, 3, 40) := by kernel_rfl
@[go_sem] theorem tya_s_76 : tSz Try.prog 76 = some (false, 1) := by kernel_rfl
@[go_sem] theorem tya_z_76 : tZero Try.prog 76 = some [.nils] := by kernel_rfl
@[go_sem] theorem tya_s_77 : tSz Try.prog 77 = some (true, 3) := by kernel_rfl
@[go_sem] theorem tya_fl_77 : tFlds Try.prog 77 = some [(0, 1), (1, 1), (2, 1)] := by kernel_rfl
@[go_sem] theorem tya_f0_77 : tFld Try.prog 77 0 = some 0 := by kernel_rfl
@[go_sem] theorem tya_f1_77 : tFld Try.prog 77 1 = some 1 := by kernel_rfl
@[go_sem] theorem tya_f2_77 : tFld Try.prog 77 2 = some 2 := by kernel_rfl
@[go_sem] theorem tya_z_77 : tZero Try.prog 77 = some [.int .i64 0, .nils, .int .i64 0] := by kernel_rfl
@[go_sem] theorem tya_s_78 : tSz Try.prog 78 = some (true, 3) := by kernel_rfl
@[go_sem] theorem tya_fl_78 : tFlds Try.prog 78 = some [(0, 1), (1, 1), (2, 1)] := by kernel_rfl
@[go_sem] theorem tya_f0_78 : tFld Try.prog 78 0 = some 0 := by kernel_rfl
@[go_sem] theorem tya_f1_78 : tFld Try.prog 78 1 = some 1 := by kernel_rfl
@[go_sem] theorem tya_f2_78 : tFld Try.prog 78 2 = some 2 := by kernel_rfl
@[go_sem] theorem tya_z_78 : tZero Try.prog 78 = some [.int .i64 0, .nils, .int .i64 0] := by kernel_rfl
@[go_sem] theorem tya_s_85 : tSz Try.prog 85 = some (false, 1) := by kernel_rfl
@[go_sem] theorem tya_zi_85 : tZI Try.prog 85 = some (.u32, 0) := by kernel_rfl
@[go_sem] theorem tya_i_85 : tInt Try.prog 85 = some .u32 := by kernel_rfl
@[go_sem] theorem tya_z_85 : tZero Try.prog 85 = some [.int .u32 0] := by kernel_rfl
@[go_sem] theorem tya_s_91 : tSz Try.prog 91 = some (false, 1) := by kernel_rfl
@[go_sem] theorem tya_zi_91 : tZI Try.prog 91 = some (.u64, 0) := by kernel_rfl
@[go_sem] theorem tya_i_91 : tInt Try.prog 91 = some .u64 := by kernel_rfl
@[go_sem] theorem tya_z_91 : tZero Try.prog 91 = some [.int .u64 0] := by kernel_rfl
@[go_sem] theorem tya_s_93 : tSz Try.prog 93 = some (false, 1) := by kernel_rfl
@[go_sem] theorem tya_zi_93 : tZI Try.prog 93 = some (.u64, 0) := by kernel_rfl
@[go_sem] theorem tya_i_93 : tInt Try.prog 93 = some .u64 := by kernel_rfl
@[go_sem] theorem tya_z_93 : tZero Try.prog 93 = some [.int .u64 0] := by kernel_rfl
@[go_sem] theorem tya_e_99 : tElem Try.prog 99 = some (4, 1, 1) := by kernel_rfl
@[go_sem] theorem tya_s_99 : tSz Try.prog 99 = some (false, 1) := by kernel_rfl
@[go_sem] theorem tya_z_99 : tZero Try.prog 99 = some [.nils] := by kernel_rfl
@[go_sem] theorem tya_s_106 : tSz Try.prog 106 = some (false, 1) := by kernel_rfl
@[go_sem] theorem tya_z_106 : tZero Try.prog 106 = some [.raw (.map none)] := by kernel_rfl
@[go_sem] theorem tya_s_132 : tSz Try.prog 132 = some (true, 4) := by kernel_rfl
@[go_sem] theorem tya_fl_132 : tFlds Try.prog 132 = some [(0, 1), (1, 1), (2, 1), (3, 1)] := by kernel_rfl
@[go_sem] theorem tya_f0_132 : tFld Try.prog 132 0 = some 0 := by kernel_rfl
@[go_sem] theorem tya_f1_132 : tFld Try.prog 132 1 = some 1 := by kernel_rfl
@[go_sem] theorem tya_f2_132 : tFld Try.prog 132 2 = some 2 := by kernel_rfl
@[go_sem] theorem tya_f3_132 : tFld Try.prog 132 3 = some 3 := by kernel_rfl
@[go_sem] theorem tya_z_132 : tZero Try.prog 132 = some [.raw (.pointer none), .raw (.pointer none), .raw (.pointer none), .str ⟨#[]⟩] := by kernel_rfl
@[go_sem] theorem tya_s_133 : tSz Try.prog 133 = some (true, 4) := by kernel_rfl
@[go_sem] theorem tya_fl_133 : tFlds Try.prog 133 = some [(0, 1), (1, 1), (2, 1), (3, 1)] := by kernel_rfl
@[go_sem] theorem tya_f0_133 : tFld Try.prog 133 0 = some 0 := by kernel_rfl
@[go_sem] theorem tya_f1_133 : tFld Try.prog 133 1 = some 1 := by kernel_rfl
@[go_sem] theorem tya_f2_133 : tFld Try.prog 133 2 = some 2 := by kernel_rfl
@[go_sem] theorem tya_f3_133 : tFld Try.prog 133 3 = some 3 := by kernel_rfl
@[go_sem] theorem tya_z_133 : tZero Try.prog 133 = some [.raw (.pointer none), .raw (.pointer none), .raw (.pointer none), .str ⟨#[]⟩] := by kernel_rfl
@[go_sem] theorem tya_s_138 : tSz Try.prog 138 = some (false, 1) := by kernel_rfl
@[go_sem] theorem tya_zi_138 : tZI Try.prog 138 = some (.u8, 0) := by kernel_rfl
@[go_sem] theorem tya_i_138 : tInt Try.prog 138 = some .u8 := by kernel_rfl
@[go_sem] theorem tya_z_138 : tZero Try.prog 138 = some [.int .u8 0] := by kernel_rfl
@[go_sem] theorem tya_s_139 : tSz Try.prog 139 = some (false, 1) := by kernel_rfl
@[go_sem] theorem tya_zi_139 : tZI Try.prog 139 = some (.u8, 0) := by kernel_rfl
@[go_sem] theorem tya_i_139 : tInt Try.prog 139 = some .u8 := by kernel_rfl
@[go_sem] theorem tya_z_139 : tZero Try.prog 139 = some [.int .u8 0] := by kernel_rfl
@[go_sem] theorem tya_s_141 : tSz Try.prog 141 = some (false, 1) := by kernel_rfl
@[go_sem] theorem tya_z_141 : tZero Try.prog 141 = some [.raw (.pointer none)] := by kernel_rfl
@[go_sem] theorem tya_s_142 : tSz Try.prog 142 = some (false, 1) := by kernel_rfl
@[go_sem] theorem tya_zi_142 : tZI Try.prog 142 = some (.i32, 0) := by kernel_rfl
@[go_sem] theorem tya_i_142 : tInt Try.prog 142 = some .i32 := by kernel_rfl
@[go_sem] theorem tya_z_142 : tZero Try.prog 142 = some [.int .i32 0] := by kernel_rfl
@[go_sem] theorem tya_s_143 : tSz Try.prog 143 = some (false, 1) := by kernel_rfl
@[go_sem] theorem tya_zi_143 : tZI Try.prog 143 = some (.i32, 0) := by kernel_rfl
@[go_sem] theorem tya_i_143 : tInt Try.prog 143 = some .i32 := by kernel_rfl
@[go_sem] theorem tya_z_143 : tZero Try.prog 143 = some [.int .i32 0] := by kernel_rfl
@[go_sem] theorem tya_s_144 : tSz Try.prog 144 = some (true, 11) := by kernel_rfl
@[go_sem] theorem tya_fl_144 : tFlds Try.prog 144 = some [(0, 1), (1, 1), (2, 1), (3, 1), (4, 1), (5, 1), (6, 1), (7, 1), (8, 1), (9, 1), (10, 1)] := by kernel_rfl
@[go_sem] theorem tya_f0_144 : tFld Try.prog 144 0 = some 0 := by kernel_rfl
@[go_sem] theorem tya_f1_144 : tFld Try.prog 144 1 = some 1 := by kernel_rfl
@[go_sem] theorem tya_f2_144 : tFld Try.prog 144 2 = some 2 := by kernel_rfl
@[go_sem] theorem tya_f3_144 : tFld Try.prog 144 3 = some 3 := by kernel_rfl
@[go_sem] theorem tya_f4_144 : tFld Try.prog 144 4 = some 4 := by kernel_rfl
@[go_sem] theorem tya_f5_144 : tFld Try.prog 144 5 = some 5 := by kernel_rfl
@[go_sem] theorem tya_f6_144 : tFld Try.prog 144 6 = some 6 := by kernel_rfl
@[go_sem] theorem tya_f7_144 : tFld Try.prog 144 7 = some 7 := by kernel_rfl
@[go_sem] theorem tya_f8_144 : tFld Try.prog 144 8 = some 8 := by kernel_rfl
@[go_sem] theorem tya_f9_144 : tFld Try.prog 144 9 = some 9 := by kernel_rfl
@[go_sem] theorem tya_f10_144 : tFld Try.prog 144 10 = some 10 := by kernel_rfl
@[go_sem] theorem tya_z_144 : tZero Try.prog 144 = some [.int .u64 0, .int .u64 0, .int .u32 0, .int .u8 0, .int .u8 0, .int .u8 0, .int .u8 0, .raw .nilFunc, .raw (.pointer none), .int .i32 0, .int .i32 0] := by kernel_rfl
@[go_sem] theorem tya_s_145 : tSz Try.prog 145 = some (true, 11) := by kernel_rfl
@[go_sem] theorem tya_fl_145 : tFlds Try.prog 145 = some [(0, 1), (1, 1), (2, 1), (3, 1), (4, 1), (5, 1), (6, 1), (7, 1), (8, 1), (9, 1), (10, 1)] := by kernel_rfl
@[go_sem] theorem tya_f0_145 : tFld Try.prog 145 0 = some 0 := by kernel_rfl
@[go_sem] theorem tya_f1_145 : tFld Try.prog 145 1 = some 1 := by kernel_rfl
@[go_sem] theorem tya_f2_145 : tFld Try.prog 145 2 = some 2 := by kernel_rfl
@[go_sem] theorem tya_f3_145 : tFld Try.prog 145 3 = some 3 := by kernel_rfl
@[go_sem] theorem tya_f4_145 : tFld Try.prog 145 4 = some 4 := by kernel_rfl
@[go_sem] theorem tya_f5_145 : tFld Try.prog 145 5 = some 5 := by kernel_rfl
@[go_sem] theorem tya_f6_145 : tFld Try.prog 145 6 = some 6 := by kernel_rfl
@[go_sem] theorem tya_f7_145 : tFld Try.prog 145 7 = some 7 := by kernel_rfl
@[go_sem] theorem tya_f8_145 : tFld Try.prog 145 8 = some 8 := by kernel_rfl
@[go_sem] theorem tya_f9_145 : tFld Try.prog 145 9 = some 9 := by kernel_rfl
@[go_sem] theorem tya_f10_145 : tFld Try.prog 145 10 = some 10 := by kernel_rfl
@[go_sem] theorem tya_z_145 : tZero Try.prog 145 = some [.int .u64 0, .int .u64 0, .int .u32 0, .int .u8 0, .int .u8 0, .int .u8 0, .int .u8 0, .raw .nilFunc, .raw (.pointer none), .int .i32 0, .int .i32 0] := by kernel_rfl
@[go_sem] theorem tya_s_146 : tSz Try.prog 146 = some (false, 1) := by kernel_rfl
@[go_sem] theorem tya_z_146 : tZero Try.prog 146 = some [.raw (.pointer none)] := by kernel_rfl
end Go.Proofs.Ytmkomfdiggcloaa

/- rational: one, plain, Valid, parts, form. -/
namespace Go.Proofs.Ytmkomfdiggcloaa
open Go.AI Go.PN
attribute [local irreducible] aw Fa Fh DrK

/-- The cells of a fraction. -/
abbrev rdc (r : RD) : List CV := [.bool r.neg, ws true r.num, ws true r.den]

theorem cmp_one {n : Nat} : (cmpN n (val [1]) == 0) = decide (n = 1) := by
  have : val [1] = 1 := rfl
  rw [this]
  unfold cmpN
  by_cases h : n = 1
  · subst h; rfl
  · have : ¬ (n = 1) := h
    simp only [this, decide_false, if_false]
    by_cases h0 : n < 1 <;> simp [h0]
theorem plain_eq {xs : List Nat} (h0 : 0 < xs.length) : plainB xs = (((xs.getD (xs.length - 1) 0 : Nat) : Int) != 0) := by
  simp only [plainB, h0, decide_true, Bool.true_and, bne]
  congr 1
  rw [Bool.eq_iff_iff]; simp
theorem plain_no {xs : List Nat} (h0 : ¬ 0 < xs.length) : plainB xs = false := by simp [plainB, h0]

set_option maxHeartbeats 400000 in
theorem one_fa : Fa Try.prog 55 [] (.c (ws true [1])) := by
  refine fa_of_body Try.func55 rfl rfl (by simp [Try.ntmps55]) fun C hC => ?_
  simp only [initS]
  repeat first|apply wa1|apply wa2|apply wa3|apply wa4|apply wa5 rfl|apply wa6|apply wa7|(refine wb1 rfl fun R r=>?_;simp only[go_sem];with_reducible refine r _ _ ?_;clear r R)
  refine aw_buildSlice (xs := [.const (.int .u32 1)]) (cells := [.int .u32 1]) rfl rfl rfl ty_e_ws (by rw [envP, ty_z_u32]; rfl) rfl (by omega) (by omega) (by intro x hx; simp only [List.mem_cons, List.not_mem_nil, or_false] at hx; subst hx; exact ⟨rfl, rfl, rfl⟩) rfl fun g hg => ?_
  (try simp only[go_sem])
  repeat first|apply wa1|apply wa2|apply wa3|apply wa4|apply wa5 rfl|apply wa6|apply wa7|(refine wb1 rfl fun R r=>?_;simp only[go_sem];with_reducible refine r _ _ ?_;clear r R)
  (refine aw_retq hC rfl fun R r=>?_;simp only[go_sem];refine r _ rfl ?_;clear r R)
  exact .one (.c (ler_oslws (by simp only[go_sem]<;>rfl) (by omega) rfl (fun j hj => by match j, hj with | 0, _ => rfl)))
set_option maxHeartbeats 400000 in
theorem plain_fa (xs : List Nat) (hlx : xs.length ≤ 68719476738) : Fa Try.prog 93 [.c (ws false xs)] (.c (.bool (plainB xs))) := by
  refine fa_of_body Try.func93 rfl rfl (by simp [Try.ntmps93]) fun C hC => ?_
  simp only [initS, Nat.reduceAdd]
  repeat first|apply wa1|apply wa2|apply wa3|apply wa4|apply wa5 rfl|apply wa6|apply wa7|(refine wb1 rfl fun R r=>?_;simp only[go_sem];with_reducible refine r _ _ ?_;clear r R)
  refine aw_split 6 (by simp only[go_sem]<;>rfl) (fun hb => ?_) (fun hb => ?_) <;> (try simp only[go_sem])
  · have h0 : 0 < xs.length := by have := of_decide_eq_true hb; omega
    repeat first|apply wa1|apply wa2|apply wa3|apply wa4|apply wa5 rfl|apply wa6|apply wa7|(refine wb1 rfl fun R r=>?_;simp only[go_sem];with_reducible refine r _ _ ?_;clear r R)
    (refine aw_retq hC rfl fun R r=>?_;simp only[go_sem];refine r _ rfl ?_;clear r R)
    exact .one (.c (ler_bool (plain_eq h0).symm))
  · have h0 : ¬ 0 < xs.length := by have := of_decide_eq_false hb; omega
    repeat first|apply wa1|apply wa2|apply wa3|apply wa4|apply wa5 rfl|apply wa6|apply wa7|(refine wb1 rfl fun R r=>?_;simp only[go_sem];with_reducible refine r _ _ ?_;clear r R)
    (refine aw_retq hC rfl fun R r=>?_;simp only[go_sem];refine r _ rfl ?_;clear r R)
    exact .one (.c (ler_bool (plain_no h0).symm))
theorem valid_zero {r : RD} (h1 : ((r.num.length : Int) == 0) = true) (h2 : ((r.den.length : Int) == 0) = true) : (!r.neg) = r.valid := by
  have h1' : r.num.length = 0 := by have := eq_of_beq h1; omega
  have h2' : r.den.length = 0 := by have := eq_of_beq h2; omega
  simp [RD.valid, h1', h2']
theorem valid_else {r : RD} (h : ((r.num.length : Int) == 0) = false ∨ ((r.den.length : Int) == 0) = false) : r.valid = (plainB r.num && plainB r.den && decide (Nat.gcd (val r.num) (val r.den) = 1)) := by
  unfold RD.valid
  rw [if_neg]
  rintro ⟨h1, h2⟩
  rcases h with h | h
  · rw [h1] at h; cases h
  · rw [h2] at h; cases h
set_option maxHeartbeats 1600000 in
theorem rvalid_fa (r : RD) (hw : r.wf 68719476736) : Fa Try.prog 73 [.agg (rdc r)] (.c (.bool r.valid)) := by
  have hp1 : r.num.length ≤ 68719476738 := by have := hw.2.2.1; omega
  have hp2 : r.den.length ≤ 68719476738 := by have := hw.2.2.2; omega
  have hg : (words (Nat.gcd (val r.num) (val r.den))).length ≤ 68719476736 := by
    by_cases h : val r.num = 0
    · rw [h, Nat.gcd_zero_left]; exact Nat.le_trans (words_val_len _ hw.2.1) hw.2.2.2
    · exact Nat.le_trans (words_len_mono (Nat.gcd_le_left _ (Nat.pos_of_ne_zero h))) (Nat.le_trans (words_val_len _ hw.1) hw.2.2.1)
  refine fa_of_body Try.func73 rfl rfl (by simp [Try.ntmps73]) fun C hC => ?_
  simp only [initS, Nat.reduceAdd]
  repeat first|apply wa1|apply wa2|apply wa3|apply wa4|apply wa5 rfl|apply wa6|apply wa7|(refine wb1 rfl fun R r=>?_;simp only[go_sem];with_reducible refine r _ _ ?_;clear r R)
  refine aw_box rfl rfl rfl (by simp only[go_sem]<;>rfl) (fun _ e => by cases e) rfl fun g1 hn_g1 => ?_
  replace hn_g1 := Heap.ne_of hn_g1
  first | dsimp only [Heap.ne, gh] at hn_g1 | dsimp only [Heap.ne] at hn_g1 | skip
  (try simp only[go_sem, hn_g1])
  repeat first|apply wa7|(refine wb1 rfl fun R r=>?_;simp only[go_sem, hn_g1];with_reducible refine r _ _ ?_;clear r R)
  apply aw_seq
  refine aw_cut (fun _ : Unit => [(1, .c (.optr g1 0))]) (fun _ => [(g1, .cells 31 3 (ofL (rdc r)))]) (fun _ => ((r.num.length : Int) == 0) = false ∨ ((r.den.length : Int) == 0) = false) ?_ ?_
  · repeat first|apply wa1|apply wa2|apply wa3|apply wa4|apply wa5 rfl|apply wa6|apply wa7|(refine wb1 rfl fun R r=>?_;simp only[go_sem, hn_g1];with_reducible refine r _ _ ?_;clear r R)
    refine aw_split 7 (by simp only[go_sem, hn_g1]<;>rfl) (fun hb => ?_) (fun hb => ?_) <;> (try simp only[go_sem, hn_g1])
    · repeat first|apply wa1|apply wa2|apply wa3|apply wa4|apply wa5 rfl|apply wa6|apply wa7|(refine wb1 rfl fun R r=>?_;simp only[go_sem, hn_g1];with_reducible refine r _ _ ?_;clear r R)
      refine aw_cond (by simp only[go_sem, hn_g1]<;>rfl) (fun hd => ?_) (fun hd => ?_)
      · repeat first|apply wa1|apply wa2|apply wa3|apply wa4|apply wa5 rfl|apply wa6|apply wa7|(refine wb1 rfl fun R r=>?_;simp only[go_sem, hn_g1];with_reducible refine r _ _ ?_;clear r R)
        (refine aw_retq hC rfl fun R r=>?_;simp only[go_sem, hn_g1];refine r _ rfl ?_;clear r R)
        exact .one (.c (ler_bool (valid_zero hb hd)))
      · repeat first|apply wa1|apply wa2|apply wa3|apply wa4|apply wa5 rfl|apply wa6|apply wa7|(refine wb1 rfl fun R r=>?_;simp only[go_sem, hn_g1];with_reducible refine r _ _ ?_;clear r R)
        exact aw_stop ⟨(), (by simp only[go_sem, hn_g1]<;>and_intros<;>first|exact True.intro|(with_reducible rfl)|exact c_int (by omega)|rfl), (List.Sublist.refl _), .inr hd⟩
    · repeat first|apply wa1|apply wa2|apply wa3|apply wa4|apply wa5 rfl|apply wa6|apply wa7|(refine wb1 rfl fun R r=>?_;simp only[go_sem, hn_g1];with_reducible refine r _ _ ?_;clear r R)
      refine aw_condF (by simp only[go_sem, hn_g1]<;>rfl) ?_
      repeat first|apply wa1|apply wa2|apply wa3|apply wa4|apply wa5 rfl|apply wa6|apply wa7|(refine wb1 rfl fun R r=>?_;simp only[go_sem, hn_g1];with_reducible refine r _ _ ?_;clear r R)
      exact aw_stop ⟨(), (by simp only[go_sem, hn_g1]<;>and_intros<;>first|exact True.intro|(with_reducible rfl)|exact c_int (by omega)|rfl), (List.Sublist.refl _), .inl hb⟩
  rintro _ hd
  rw [valid_else hd]
  repeat first|apply wa1|apply wa2|apply wa3|apply wa4|apply wa5 rfl|apply wa6|apply wa7|(refine wb1 rfl fun R r=>?_;simp only[go_sem, hn_g1];with_reducible refine r _ _ ?_;clear r R)
  refine aw_callq (plain_fa r.num hp1) rfl rfl rfl (by first|exact True.intro|simp only[go_sem, hn_g1]<;>and_intros<;>first|exact True.intro|exact .c (.refl _)|exact .c wl2|exact .agg (lel_refl _)|exact .agg (by simp only[LeL];and_intros<;>first|exact True.intro|exact .refl _|exact wl2)|exact .c .nils) ?_
  (try simp only[go_sem, hn_g1])
  repeat first|apply wa1|apply wa2|apply wa3|apply wa4|apply wa5 rfl|apply wa6|apply wa7|(refine wb1 rfl fun R r=>?_;simp only[go_sem, hn_g1];with_reducible refine r _ _ ?_;clear r R)
  refine aw_split 19 (by simp only[go_sem, hn_g1]<;>rfl) (fun h1 => ?_) (fun h1 => ?_) <;> (try simp only[go_sem, hn_g1])
  · repeat first|apply wa1|apply wa2|apply wa3|apply wa4|apply wa5 rfl|apply wa6|apply wa7|(refine wb1 rfl fun R r=>?_;simp only[go_sem, hn_g1];with_reducible refine r _ _ ?_;clear r R)
    refine aw_callq (plain_fa r.den hp2) rfl rfl rfl (by first|exact True.intro|simp only[go_sem, hn_g1]<;>and_intros<;>first|exact True.intro|exact .c (.refl _)|exact .c wl2|exact .agg (lel_refl _)|exact .agg (by simp only[LeL];and_intros<;>first|exact True.intro|exact .refl _|exact wl2)|exact .c .nils) ?_
    (try simp only[go_sem, hn_g1])
    repeat first|apply wa1|apply wa2|apply wa3|apply wa4|apply wa5 rfl|apply wa6|apply wa7|(refine wb1 rfl fun R r=>?_;simp only[go_sem, hn_g1];with_reducible refine r _ _ ?_;clear r R)
    refine aw_split 24 (by simp only[go_sem, hn_g1]<;>rfl) (fun h2 => ?_) (fun h2 => ?_) <;> (try simp only[go_sem, hn_g1])
    · repeat first|apply wa1|apply wa2|apply wa3|apply wa4|apply wa5 rfl|apply wa6|apply wa7|(refine wb1 rfl fun R r=>?_;simp only[go_sem, hn_g1];with_reducible refine r _ _ ?_;clear r R)
      refine aw_callq (gcd_fa _ _ hw.1 hw.2.1 hw.2.2.1 hw.2.2.2) rfl rfl rfl (by first|exact True.intro|simp only[go_sem, hn_g1]<;>and_intros<;>first|exact True.intro|exact .c (.refl _)|exact .c wl2|exact .agg (lel_refl _)|exact .agg (by simp only[LeL];and_intros<;>first|exact True.intro|exact .refl _|exact wl2)|exact .c .nils) ?_
      (try simp only[go_sem, hn_g1])
      repeat first|apply wa1|apply wa2|apply wa3|apply wa4|apply wa5 rfl|apply wa6|apply wa7|(refine wb1 rfl fun R r=>?_;simp only[go_sem, hn_g1];with_reducible refine r _ _ ?_;clear r R)
      refine aw_callq (one_fa) rfl rfl rfl (by first|exact True.intro|simp only[go_sem, hn_g1]<;>and_intros<;>first|exact True.intro|exact .c (.refl _)|exact .c wl2|exact .agg (lel_refl _)|exact .agg (by simp only[LeL];and_intros<;>first|exact True.intro|exact .refl _|exact wl2)|exact .c .nils) ?_
      (try simp only[go_sem, hn_g1])
      repeat first|apply wa1|apply wa2|apply wa3|apply wa4|apply wa5 rfl|apply wa6|apply wa7|(refine wb1 rfl fun R r=>?_;simp only[go_sem, hn_g1];with_reducible refine r _ _ ?_;clear r R)
      refine aw_callq (cmp_fa _ [1] (words_lt _) ?_ hg ?_) rfl rfl rfl (by first|exact True.intro|simp only[go_sem, hn_g1]<;>and_intros<;>first|exact True.intro|exact .c (.refl _)|exact .c wl2|exact .agg (lel_refl _)|exact .agg (by simp only[LeL];and_intros<;>first|exact True.intro|exact .refl _|exact wl2)|exact .c .nils) ?_
      · simp
      · simp
      (try simp only[go_sem, hn_g1])
      repeat first|apply wa1|apply wa2|apply wa3|apply wa4|apply wa5 rfl|apply wa6|apply wa7|(refine wb1 rfl fun R r=>?_;simp only[go_sem, hn_g1];with_reducible refine r _ _ ?_;clear r R)
      (refine aw_retq hC rfl fun R r=>?_;simp only[go_sem, hn_g1];refine r _ rfl ?_;clear r R)
      refine .one (.c (ler_bool ?_))
      rw [h1, h2, val_words, cmp_one]; rfl
    · repeat first|apply wa1|apply wa2|apply wa3|apply wa4|apply wa5 rfl|apply wa6|apply wa7|(refine wb1 rfl fun R r=>?_;simp only[go_sem, hn_g1];with_reducible refine r _ _ ?_;clear r R)
      (refine aw_retq hC rfl fun R r=>?_;simp only[go_sem, hn_g1];refine r _ rfl ?_;clear r R)
      refine .one (.c (ler_bool ?_))
      rw [h2, Bool.and_false, Bool.false_and]
  · repeat first|apply wa1|apply wa2|apply wa3|apply wa4|apply wa5 rfl|apply wa6|apply wa7|(refine wb1 rfl fun R r=>?_;simp only[go_sem, hn_g1];with_reducible refine r _ _ ?_;clear r R)
    (refine aw_retq hC rfl fun R r=>?_;simp only[go_sem, hn_g1];refine r _ rfl ?_;clear r R)
    refine .one (.c (ler_bool ?_))
    rw [h1, Bool.false_and, Bool.false_and]
end Go.Proofs.Ytmkomfdiggcloaa
