/- Texts of one proof, laid one behind the other by a program (merge.py): Data, Glue, POrd, Ord. -/
import Derived.Test.YtmkomfdiggcloaaM12
import Derived.Test.YtmkomfdiggcloaaRows
import Derived.WalkKit
import Derived.ProofKit
import Derived.OpenShut
import Derived.JoinedCond
import Derived.Carry
set_option linter.unusedSimpArgs false
set_option linter.unusedVariables false
/- How the program's data are told: lists of ints, bools, fractions, nodes; diagrams, cubes, formulas; errors. -/
namespace Go.AI
open Go.PN
/-- Ints. -/
def isF (xs : List Int) (j : Nat) : CV := .int .i64 (xs.getD j 0)
@[go_sem] theorem isF_at (xs : List Int) (j : Nat) : isF xs j = .int .i64 (xs.getD j 0) := rfl
abbrev is (t : Bool) (xs : List Int) : CV := .row t 1 xs.length (isF xs)
def bsF (xs : List Bool) (j : Nat) : CV := .bool (xs.getD j false)
@[go_sem] theorem bsF_at (xs : List Bool) (j : Nat) : bsF xs j = .bool (xs.getD j false) := rfl
abbrev bs (t : Bool) (xs : List Bool) : CV := .row t 1 xs.length (bsF xs)
/-- Fractions. -/
def rd0 : RD := ⟨false, [], []⟩
def ratsF (ps : List RD) : Nat → CV := lf 3 (fun r : RD => [CV.bool r.neg, ws true r.num, ws true r.den]) rd0 ps
@[go_sem] theorem ratsF_0 (ps : List RD) (i : Nat) : ratsF ps (i * 3) = .bool (ps.getD i rd0).neg := by
  have := lf_at (s := 3) (c := fun r : RD => [CV.bool r.neg, ws true r.num, ws true r.den]) (d := rd0) (xs := ps) (i := i) (k := 0) (by omega)
  exact this
@[go_sem] theorem ratsF_1 (ps : List RD) (i : Nat) : ratsF ps (i * 3 + 1) = ws true (ps.getD i rd0).num := by
  have := lf_at (s := 3) (c := fun r : RD => [CV.bool r.neg, ws true r.num, ws true r.den]) (d := rd0) (xs := ps) (i := i) (k := 1) (by omega)
  exact this
@[go_sem] theorem ratsF_2 (ps : List RD) (i : Nat) : ratsF ps (i * 3 + 2) = ws true (ps.getD i rd0).den := by
  have := lf_at (s := 3) (c := fun r : RD => [CV.bool r.neg, ws true r.num, ws true r.den]) (d := rd0) (xs := ps) (i := i) (k := 2) (by omega)
  exact this
abbrev rats (t : Bool) (ps : List RD) : CV := .row t 3 ps.length (ratsF ps)
/-- Nodes of diagrams. -/
structure DN where
  v : Int
  lo : Int
  hi : Int
  deriving DecidableEq
def dn0 : DN := ⟨0, 0, 0⟩
def dnsF (ns : List DN) : Nat → CV := lf 3 (fun r : DN => [CV.int .i64 r.v, .int .i64 r.lo, .int .i64 r.hi]) dn0 ns
@[go_sem] theorem dnsF_0 (ps : List DN) (i : Nat) : dnsF ps (i * 3) = .int .i64 (ps.getD i dn0).v := by
  have := lf_at (s := 3) (c := fun r : DN => [CV.int .i64 r.v, .int .i64 r.lo, .int .i64 r.hi]) (d := dn0) (xs := ps) (i := i) (k := 0) (by omega)
  exact this
@[go_sem] theorem dnsF_1 (ps : List DN) (i : Nat) : dnsF ps (i * 3 + 1) = .int .i64 (ps.getD i dn0).lo := by
  have := lf_at (s := 3) (c := fun r : DN => [CV.int .i64 r.v, .int .i64 r.lo, .int .i64 r.hi]) (d := dn0) (xs := ps) (i := i) (k := 1) (by omega)
  exact this
@[go_sem] theorem dnsF_2 (ps : List DN) (i : Nat) : dnsF ps (i * 3 + 2) = .int .i64 (ps.getD i dn0).hi := by
  have := lf_at (s := 3) (c := fun r : DN => [CV.int .i64 r.v, .int .i64 r.lo, .int .i64 r.hi]) (d := dn0) (xs := ps) (i := i) (k := 2) (by omega)
  exact this
abbrev dns (t : Bool) (ns : List DN) : CV := .row t 3 ns.length (dnsF ns)
/-- Diagrams. -/
structure DG where
  order : List Int
  nodes : List DN
  root : Int
abbrev dgc (t : Bool) (d : DG) : List CV := [is t d.order, dns t d.nodes, .int .i64 d.root]
/-- Nodes of formulas. -/
structure FN where
  kind : Int
  k : Int
  args : List Int
def fn0 : FN := ⟨0, 0, []⟩
def fnsF (ns : List FN) : Nat → CV := lf 3 (fun r : FN => [CV.int .i64 r.kind, .int .i64 r.k, is true r.args]) fn0 ns
@[go_sem] theorem fnsF_0 (ps : List FN) (i : Nat) : fnsF ps (i * 3) = .int .i64 (ps.getD i fn0).kind := by
  have := lf_at (s := 3) (c := fun r : FN => [CV.int .i64 r.kind, .int .i64 r.k, is true r.args]) (d := fn0) (xs := ps) (i := i) (k := 0) (by omega)
  exact this
@[go_sem] theorem fnsF_1 (ps : List FN) (i : Nat) : fnsF ps (i * 3 + 1) = .int .i64 (ps.getD i fn0).k := by
  have := lf_at (s := 3) (c := fun r : FN => [CV.int .i64 r.kind, .int .i64 r.k, is true r.args]) (d := fn0) (xs := ps) (i := i) (k := 1) (by omega)
  exact this
@[go_sem] theorem fnsF_2 (ps : List FN) (i : Nat) : fnsF ps (i * 3 + 2) = is true (ps.getD i fn0).args := by
  have := lf_at (s := 3) (c := fun r : FN => [CV.int .i64 r.kind, .int .i64 r.k, is true r.args]) (d := fn0) (xs := ps) (i := i) (k := 2) (by omega)
  exact this
abbrev fns (t : Bool) (ns : List FN) : CV := .row t 3 ns.length (fnsF ns)
structure FM where
  vars : Int
  nodes : List FN
  top : Int
abbrev fmc (t : Bool) (f : FM) : List CV := [.int .i64 f.vars, fns t f.nodes, .int .i64 f.top]

/-- An error, by its number: 0 is none; T is the type of errors. -/
def errC (T : TypeId) (c : Int) : CV := if c = 0 then .nilI else .ifc T (.int .i64 c)
@[go_sem] theorem errC_solid (T : TypeId) (c : Int) : (errC T c).solid = true := by unfold errC; split <;> rfl
theorem binAV_errE {P : Program} {nw : Bool} {t T : TypeId} {y : Operand} {c : Int} (hy : isNil y = true) : binAV P nw .eql t y (.c (errC T c)) (.c .nilI) = some (tIfc P t = true, .c (.bool (decide (c = 0)))) := by
  unfold errC
  split
  · rename_i h; simp [binAV, hy, nilAV, h]
  · rename_i h; simp [binAV, hy, nilAV, h]
theorem binAV_errN {P : Program} {nw : Bool} {t T : TypeId} {y : Operand} {c : Int} (hy : isNil y = true) : binAV P nw .neq t y (.c (errC T c)) (.c .nilI) = some (tIfc P t = true, .c (.bool (!decide (c = 0)))) := by
  unfold errC
  split
  · rename_i h; simp [binAV, hy, nilAV, h]
  · rename_i h; simp [binAV, hy, nilAV, h]
@[go_sem ↓] theorem binAV_errE' (P : Program) (nw : Bool) (t T : TypeId) (c : Int) : binAV P nw .eql t (.const .nilIface) (.c (errC T c)) (.c .nilI) = some (tIfc P t = true, .c (.bool (decide (c = 0)))) := binAV_errE rfl
@[go_sem ↓] theorem binAV_errN' (P : Program) (nw : Bool) (t T : TypeId) (c : Int) : binAV P nw .neq t (.const .nilIface) (.c (errC T c)) (.c .nilI) = some (tIfc P t = true, .c (.bool (!decide (c = 0)))) := binAV_errN rfl
theorem ler_err {h : Heap} {T : TypeId} {c : Int} : LeR h (errC T c) (errC T c) := by unfold errC; split; exact .nilI; exact .ifc (.int _ _)
theorem ler_err0 {h : Heap} {T : TypeId} {c : Int} (e : c = 0) : LeR h .nilI (errC T c) := by unfold errC; rw [if_pos e]; exact .nilI
theorem ler_errN {h : Heap} {T : TypeId} {n c : Int} (e : n = c) (h0 : c ≠ 0) : LeR h (.ifc T (.int .i64 n)) (errC T c) := by unfold errC; rw [if_neg h0, e]; exact .ifc (.int _ _)
theorem ler_is {h : Heap} {t : Bool} {xs : List Int} : LeR h (is true xs) (is t xs) := .row fun _ _ => .int _ _
theorem ler_bs {h : Heap} {t : Bool} {xs : List Bool} : LeR h (bs true xs) (bs t xs) := .row fun _ _ => .bool _
theorem lf_ler {α : Type} {h : Heap} {s : Nat} {c : α → List CV} {d : α} {xs : List α} (hs : 0 < s) (hc : ∀ x ∈ xs, ∀ k, k < s → LeR h (ofL (c x) k) (ofL (c x) k)) : ∀ j, j < xs.length * s → LeR h (lf s c d xs j) (lf s c d xs j) := fun j hj => by
  unfold lf
  have h1 : j / s < xs.length := (Nat.div_lt_iff_lt_mul hs).2 hj
  rw [List.getD_eq_getElem?_getD, List.getElem?_eq_getElem h1]
  exact hc _ (List.getElem_mem h1) _ (Nat.mod_lt _ hs)
theorem ler_rats {h : Heap} {t : Bool} {ps : List RD} : LeR h (rats true ps) (rats t ps) :=
  .row (lf_ler (by omega) fun x _ k hk => by match k, hk with | 0, _ => exact .bool _ | 1, _ => exact ler_ws | 2, _ => exact ler_ws)
theorem ler_dns {h : Heap} {t : Bool} {ps : List DN} : LeR h (dns true ps) (dns t ps) :=
  .row (lf_ler (by omega) fun x _ k hk => by match k, hk with | 0, _ => exact .int _ _ | 1, _ => exact .int _ _ | 2, _ => exact .int _ _)
end Go.AI
namespace Go.Proofs.Ytmkomfdiggcloaa
open Go.AI Go.PN
attribute [local irreducible] aw Fa Fh DrK
abbrev errA (c : Int) : CV := errC 64 c
theorem list_ext {xs ys : List Nat} (hl : xs.length = ys.length) (h : ∀ j, j < xs.length → xs.getD j 0 = ys.getD j 0) : xs = ys := by
  apply List.ext_getElem hl
  intro i h1 h2
  have := h i h1
  rw [List.getD_eq_getElem?_getD, List.getD_eq_getElem?_getD, List.getElem?_eq_getElem h1, List.getElem?_eq_getElem h2] at this
  exact this
set_option maxHeartbeats 800000 in
theorem words_fa (xs ys : List Nat) (hl : xs.length ≤ 68719476736) : Fa Try.prog 41 [.c (ws false xs), .c (ws false ys)] (.c (.bool (decide (xs = ys)))) := by
  refine fa_of_body Try.func41 rfl rfl (by simp [Try.ntmps41]) fun C hC => ?_
  simp only [initS, Nat.reduceAdd]
  repeat first|apply wa1|apply wa2|apply wa3|apply wa4|apply wa5 rfl|apply wa6|apply wa7|(refine wb1 rfl fun R r=>?_;simp only[go_sem];with_reducible refine r _ _ ?_;clear r R)
  refine aw_cond (by simp only[go_sem]<;>rfl) (fun hb => ?_) (fun hb => ?_)
  · repeat first|apply wa1|apply wa2|apply wa3|apply wa4|apply wa5 rfl|apply wa6|apply wa7|(refine wb1 rfl fun R r=>?_;simp only[go_sem];with_reducible refine r _ _ ?_;clear r R)
    (refine aw_retq hC rfl fun R r=>?_;simp only[go_sem];refine r _ rfl ?_;clear r R)
    refine .one (.c (ler_bool ?_))
    have : xs ≠ ys := fun e => by rw [e] at hb; simp at hb
    simp [this]
  · have hlen : xs.length = ys.length := by
      have : ((xs.length : Int) == (ys.length : Int)) = true := by simpa [bne] using hb
      have := eq_of_beq this; omega
    repeat first|apply wa1|apply wa2|apply wa3|apply wa4|apply wa5 rfl|apply wa6|apply wa7|(refine wb1 rfl fun R r=>?_;simp only[go_sem];with_reducible refine r _ _ ?_;clear r R)
    refine aw_lp (fun i : Nat => [(0, .c (ws false xs)), (1, .c (ws false ys)), (12, .c (.int .i64 xs.length)), (13, .c (.int .i64 i))]) (fun _ => []) (fun i => i ≤ xs.length ∧ ∀ j, j < i → xs.getD j 0 = ys.getD j 0) (fun i => xs.length - i) 0 (by simp only[go_sem]<;>and_intros<;>first|exact True.intro|(with_reducible rfl)|exact c_int (by omega)|rfl) (List.Sublist.refl _) ⟨Nat.zero_le _, fun j hj => by omega⟩ ?_
    rintro i ⟨hi, hs⟩
    repeat first|apply wa1|apply wa2|apply wa3|apply wa4|apply wa5 rfl|apply wa6|apply wa7|(refine wb1 rfl fun R r=>?_;simp only[go_sem];with_reducible refine r _ _ ?_;clear r R)
    refine aw_cond (by simp only[go_sem]<;>rfl) (fun hb => ?_) (fun hb => ?_)
    · have hin : i < xs.length := by have := of_decide_eq_true hb; omega
      repeat first|apply wa1|apply wa2|apply wa3|apply wa4|apply wa5 rfl|apply wa6|apply wa7|(refine wb1 rfl fun R r=>?_;simp only[go_sem];with_reducible refine r _ _ ?_;clear r R)
      refine aw_dr 9 ty_mixed (by kernel_rfl) ?_
      repeat first|apply wa1|apply wa2|apply wa3|apply wa4|apply wa5 rfl|apply wa6|apply wa7|(refine wb1 rfl fun R r=>?_;simp only[go_sem];with_reducible refine r _ _ ?_;clear r R)|apply wa8|(refine wd1 rfl fun R r=>?_;simp only[go_sem];with_reducible refine r _ _ ?_;clear r R)
      refine aw_cond (by simp only[go_sem]<;>rfl) (fun hc => ?_) (fun hc => ?_)
      · repeat first|apply wa1|apply wa2|apply wa3|apply wa4|apply wa5 rfl|apply wa6|apply wa7|(refine wb1 rfl fun R r=>?_;simp only[go_sem];with_reducible refine r _ _ ?_;clear r R)|apply wa8|(refine wd1 rfl fun R r=>?_;simp only[go_sem];with_reducible refine r _ _ ?_;clear r R)
        (refine aw_retq hC rfl fun R r=>?_;simp only[go_sem];refine r _ rfl ?_;clear r R)
        refine .one (.c (ler_bool ?_))
        have : xs ≠ ys := fun e => by rw [e] at hc; simp at hc
        simp [this]
      · have he : xs.getD i 0 = ys.getD i 0 := by
          have : (((xs.getD i 0 : Nat) : Int) == ((ys.getD i 0 : Nat) : Int)) = true := by simpa [bne] using hc
          have := eq_of_beq this; omega
        repeat first|apply wa1|apply wa2|apply wa3|apply wa4|apply wa5 rfl|apply wa6|apply wa7|(refine wb1 rfl fun R r=>?_;simp only[go_sem];with_reducible refine r _ _ ?_;clear r R)|apply wa8|(refine wd1 rfl fun R r=>?_;simp only[go_sem];with_reducible refine r _ _ ?_;clear r R)
        refine aw_stop ⟨i + 1, by omega, (by simp only[go_sem]<;>and_intros<;>first|exact True.intro|(with_reducible rfl)|exact c_int (by omega)|rfl), (List.Sublist.refl _), by omega, fun j hj => ?_⟩
        by_cases hji : j = i
        · rw [hji]; exact he
        · exact hs j (by omega)
    · have hin : i = xs.length := by have := of_decide_eq_false hb; omega
      subst hin
      repeat first|apply wa1|apply wa2|apply wa3|apply wa4|apply wa5 rfl|apply wa6|apply wa7|(refine wb1 rfl fun R r=>?_;simp only[go_sem];with_reducible refine r _ _ ?_;clear r R)
      (refine aw_retq hC rfl fun R r=>?_;simp only[go_sem];refine r _ rfl ?_;clear r R)
      refine .one (.c (ler_bool ?_))
      have : xs = ys := list_ext hlen hs
      simp [this]
instance : DecidableEq RD := fun a b => decidable_of_iff (a.neg = b.neg ∧ a.num = b.num ∧ a.den = b.den) (by cases a; cases b; simp)
set_option maxHeartbeats 800000 in
theorem ratEq_fa (a b : RD) (hw : a.wf 68719476736) : Fa Try.prog 19 [.agg (rdc a), .agg (rdc b)] (.c (.bool (decide (a = b)))) := by
  have he : decide (a = b) = (decide (a.neg = b.neg) && (decide (a.num = b.num) && decide (a.den = b.den))) := by
    rw [Bool.eq_iff_iff]
    simp only [decide_eq_true_eq, Bool.and_eq_true]
    cases a; cases b; simp
  rw [he]
  refine fa_of_body Try.func19 rfl rfl (by simp [Try.ntmps19]) fun C hC => ?_
  simp only [initS, Nat.reduceAdd]
  repeat first|apply wa1|apply wa2|apply wa3|apply wa4|apply wa5 rfl|apply wa6|apply wa7|(refine wb1 rfl fun R r=>?_;simp only[go_sem];with_reducible refine r _ _ ?_;clear r R)
  refine aw_box rfl rfl rfl (by simp only[go_sem]<;>rfl) (fun _ e => by cases e) rfl fun g2 hn_g2 => ?_
  replace hn_g2 := Heap.ne_of hn_g2
  first | dsimp only [Heap.ne, gh] at hn_g2 | dsimp only [Heap.ne] at hn_g2 | skip
  (try simp only[go_sem, hn_g2])
  refine aw_box rfl rfl rfl (by simp only[go_sem, hn_g2]<;>rfl) (fun _ e => by cases e) rfl fun g3 hn_g3 => ?_
  replace hn_g3 := Heap.ne_of hn_g3
  first | dsimp only [Heap.ne, gh] at hn_g3 | dsimp only [Heap.ne] at hn_g3 | skip
  (try simp only[go_sem, hn_g2, hn_g3])
  repeat first|apply wa1|apply wa2|apply wa3|apply wa4|apply wa5 rfl|apply wa6|apply wa7|(refine wb1 rfl fun R r=>?_;simp only[go_sem, hn_g2, hn_g3];with_reducible refine r _ _ ?_;clear r R)
  refine aw_split 10 (by simp only[go_sem, hn_g2, hn_g3]<;>rfl) (fun h1 => ?_) (fun h1 => ?_) <;> (try simp only[go_sem, hn_g2, hn_g3])
  · have h1' : a.neg = b.neg := eq_of_beq h1
    repeat first|apply wa1|apply wa2|apply wa3|apply wa4|apply wa5 rfl|apply wa6|apply wa7|(refine wb1 rfl fun R r=>?_;simp only[go_sem, hn_g2, hn_g3];with_reducible refine r _ _ ?_;clear r R)
    refine aw_callq (words_fa _ _ hw.2.2.1) rfl rfl rfl (by first|exact True.intro|simp only[go_sem, hn_g2, hn_g3]<;>and_intros<;>first|exact True.intro|exact .c (.refl _)|exact .c wl2|exact .agg (lel_refl _)|exact .agg (by simp only[LeL];and_intros<;>first|exact True.intro|exact .refl _|exact wl2)|exact .c .nils) ?_
    (try simp only[go_sem, hn_g2, hn_g3])
    repeat first|apply wa1|apply wa2|apply wa3|apply wa4|apply wa5 rfl|apply wa6|apply wa7|(refine wb1 rfl fun R r=>?_;simp only[go_sem, hn_g2, hn_g3];with_reducible refine r _ _ ?_;clear r R)
    refine aw_split 17 (by simp only[go_sem, hn_g2, hn_g3]<;>rfl) (fun h2 => ?_) (fun h2 => ?_) <;> (try simp only[go_sem, hn_g2, hn_g3])
    · repeat first|apply wa1|apply wa2|apply wa3|apply wa4|apply wa5 rfl|apply wa6|apply wa7|(refine wb1 rfl fun R r=>?_;simp only[go_sem, hn_g2, hn_g3];with_reducible refine r _ _ ?_;clear r R)
      refine aw_callq (words_fa _ _ hw.2.2.2) rfl rfl rfl (by first|exact True.intro|simp only[go_sem, hn_g2, hn_g3]<;>and_intros<;>first|exact True.intro|exact .c (.refl _)|exact .c wl2|exact .agg (lel_refl _)|exact .agg (by simp only[LeL];and_intros<;>first|exact True.intro|exact .refl _|exact wl2)|exact .c .nils) ?_
      (try simp only[go_sem, hn_g2, hn_g3])
      repeat first|apply wa1|apply wa2|apply wa3|apply wa4|apply wa5 rfl|apply wa6|apply wa7|(refine wb1 rfl fun R r=>?_;simp only[go_sem, hn_g2, hn_g3];with_reducible refine r _ _ ?_;clear r R)
      (refine aw_retq hC rfl fun R r=>?_;simp only[go_sem, hn_g2, hn_g3];refine r _ rfl ?_;clear r R)
      exact .one (.c (ler_bool (by rw [h2, h1']; simp)))
    · repeat first|apply wa1|apply wa2|apply wa3|apply wa4|apply wa5 rfl|apply wa6|apply wa7|(refine wb1 rfl fun R r=>?_;simp only[go_sem, hn_g2, hn_g3];with_reducible refine r _ _ ?_;clear r R)
      (refine aw_retq hC rfl fun R r=>?_;simp only[go_sem, hn_g2, hn_g3];refine r _ rfl ?_;clear r R)
      exact .one (.c (ler_bool (by rw [h2]; simp)))
  · have h1' : a.neg ≠ b.neg := fun e => by rw [e] at h1; simp at h1
    repeat first|apply wa1|apply wa2|apply wa3|apply wa4|apply wa5 rfl|apply wa6|apply wa7|(refine wb1 rfl fun R r=>?_;simp only[go_sem, hn_g2, hn_g3];with_reducible refine r _ _ ?_;clear r R)
    (refine aw_retq hC rfl fun R r=>?_;simp only[go_sem, hn_g2, hn_g3];refine r _ rfl ?_;clear r R)
    exact .one (.c (ler_bool (by simp [h1'])))
theorem rdec_eq {a b : RD} (h : a = b) : decide (a = b) = true := by simp [h]
set_option maxHeartbeats 800000 in
theorem part37_fa (n d : Int) (h0 : -9223372036854775808 ≤ n) (h1 : n ≤ 9223372036854775807) (h2 : -9223372036854775808 ≤ d) (h3 : d ≤ 9223372036854775807) (hd : d ≠ 0) :
    Fa Try.prog 17 [.c (.int .i64 n), .c (.int .i64 d)] (.agg (rdc (rd ((n : Rat) / (d : Rat))))) := by
  refine fa_of_body Try.func17 rfl rfl (by simp [Try.ntmps17]) fun C hC => ?_
  simp only [initS, Nat.reduceAdd]
  repeat first|apply wa1|apply wa2|apply wa3|apply wa4|apply wa5 rfl|apply wa6|apply wa7|(refine wb1 rfl fun R r=>?_;simp only[go_sem];with_reducible refine r _ _ ?_;clear r R)
  refine aw_alloc rfl rfl rfl (by simp only[go_sem]<;>rfl) fun g4 hn_g4 => ?_
  replace hn_g4 := Heap.ne_of hn_g4
  first | dsimp only [Heap.ne, gh] at hn_g4 | dsimp only [Heap.ne] at hn_g4 | skip
  (try simp only[go_sem, hn_g4])
  repeat first|apply wa1|apply wa2|apply wa3|apply wa4|apply wa5 rfl|apply wa6|apply wa7|(refine wb1 rfl fun R r=>?_;simp only[go_sem, hn_g4];with_reducible refine r _ _ ?_;clear r R)
  refine aw_callq (smake_fa n d h0 h1 h2 h3 hd) rfl rfl rfl (by first|exact True.intro|simp only[go_sem, hn_g4]<;>and_intros<;>first|exact True.intro|exact .c (.refl _)|exact .c wl2|exact .agg (lel_refl _)|exact .agg (by simp only[LeL];and_intros<;>first|exact True.intro|exact .refl _|exact wl2)|exact .c .nils) ?_
  (try simp only[go_sem, hn_g4])
  repeat first|apply wa1|apply wa2|apply wa3|apply wa4|apply wa5 rfl|apply wa6|apply wa7|(refine wb1 rfl fun R r=>?_;simp only[go_sem, hn_g4];with_reducible refine r _ _ ?_;clear r R)
  refine aw_alloc rfl rfl rfl (by simp only[go_sem, hn_g4]<;>rfl) fun g5 hn_g5 => ?_
  replace hn_g5 := Heap.ne_of hn_g5
  first | dsimp only [Heap.ne, gh] at hn_g5 | dsimp only [Heap.ne] at hn_g5 | skip
  (try simp only[go_sem, hn_g4, hn_g5])
  repeat first|apply wa1|apply wa2|apply wa3|apply wa4|apply wa5 rfl|apply wa6|apply wa7|(refine wb1 rfl fun R r=>?_;simp only[go_sem, hn_g4, hn_g5];with_reducible refine r _ _ ?_;clear r R)
  refine aw_store rfl rfl rfl rfl (by simp only[go_sem, hn_g4, hn_g5]<;>rfl) (by simp only[go_sem, hn_g4, hn_g5]<;>rfl) (by simp only[go_sem, hn_g4, hn_g5]<;>rfl) (by simp only[go_sem, hn_g4, hn_g5]<;>rfl) (fun _ e => by cases e) (by rfl) (by rfl) (by first|omega|simp) rfl ?_
  (try simp only[go_sem, hn_g4, hn_g5])
  repeat first|apply wa1|apply wa2|apply wa3|apply wa4|apply wa5 rfl|apply wa6|apply wa7|(refine wb1 rfl fun R r=>?_;simp only[go_sem, hn_g4, hn_g5];with_reducible refine r _ _ ?_;clear r R)
  refine aw_store rfl rfl rfl rfl (by simp only[go_sem, hn_g4, hn_g5]<;>rfl) (by simp only[go_sem, hn_g4, hn_g5]<;>rfl) (by simp only[go_sem, hn_g4, hn_g5]<;>rfl) (by simp only[go_sem, hn_g4, hn_g5]<;>rfl) (fun _ e => by cases e) (by rfl) (by rfl) (by first|omega|simp) rfl ?_
  (try simp only[go_sem, hn_g4, hn_g5])
  repeat first|apply wa1|apply wa2|apply wa3|apply wa4|apply wa5 rfl|apply wa6|apply wa7|(refine wb1 rfl fun R r=>?_;simp only[go_sem, hn_g4, hn_g5];with_reducible refine r _ _ ?_;clear r R)
  (refine aw_retq hC rfl fun R r=>?_;simp only[go_sem, hn_g4, hn_g5];refine r _ rfl ?_;clear r R)
  exact ler_rd rfl
end Go.Proofs.Ytmkomfdiggcloaa

/- From the readings of the arguments to abstract values, and from a contract to what the statement asks behind the call. -/
namespace Go.AI
open Go.PN
/-- All blocks that are there. -/
def AllB (w : World) : Bool → Nat → Prop := fun _ b => b < w.heap.size
/-- The arguments and the result, and that nothing old has changed. -/
theorem Fa.below {P : Program} {f : FuncId} {args : List AV} {b : Bool} (hf : Fa P f args (.c (.bool b))) {w : World} {vs : List Value} (hr : RepT (AllB w) w args vs) :
    Calls P f vs.toArray w fun e w' => e = .returned (.bool b) ∧ RowKit.Below w.heap.size w w' := by
  refine (hf.2 (AllB w) w vs (fun _ h => h) (fun _ _ h => h) hr).mono ?_
  rintro e w' ⟨v, rfl, hv, hfr⟩
  have hv' : v = .bool b := hv
  subst hv'
  exact ⟨rfl, hfr.os, hfr.tape, hfr.output, hfr.size, fun k hk => hfr.block k hk (fun x => x)⟩
end Go.AI
namespace Go.Proofs.Ytmkomfdiggcloaa
open Go.AI Go.PN Go.ChangeShapes
section
variable {P : Program}
/-- Cells of type t read as things y, whose abstract cells are c y; of y holds B y with the bulk of what is read. -/
def Rdr (P : Program) (t : TypeId) {α : Type} (c : α → List CV) (B : α → Nat → Prop) : Prop :=
  ∀ (H : Type) (enc : TypeId × Value → H) (w : World) (fuel : Nat) (cs : List Value) (x : DataW H × List MemPlace), DataW.trod enc P w 0 (fun _ => true) true fuel t cs = some x → ∃ y, RepL (AllB w) w (c y) cs ∧ B y (Rows.uptoBulk x.1)
theorem rdr_int {t : TypeId} {k : IntKind} (ht : P.underlying t = some (.int k)) : Rdr P t (fun n : Int => [.int k n]) (fun n _ => (Lit.int k n).wf = true) := fun H enc w fuel cs x h => by
  obtain ⟨n, rfl, rfl, hw⟩ := DataW.trod_int ht h
  exact ⟨n, ⟨rfl, trivial⟩, hw⟩
theorem rdr_word {t : TypeId} (ht : P.underlying t = some (.int .u32)) : Rdr P t (fun n : Nat => [.int .u32 n]) (fun n _ => n < 4294967296) := fun H enc w fuel cs x h => by
  obtain ⟨n, rfl, rfl, hw⟩ := DataW.trod_int ht h
  have hb : 0 ≤ n ∧ n ≤ 4294967295 := by simpa [Lit.wf, IntKind.min, IntKind.max, IntKind.signed, IntKind.bits] using hw
  refine ⟨n.toNat, ⟨?_, trivial⟩, by omega⟩
  show Value.int .u32 n = Value.int .u32 ((n.toNat : Nat) : Int)
  rw [show ((n.toNat : Nat) : Int) = n from by omega]
theorem rdr_bool {t : TypeId} (ht : P.underlying t = some .bool) : Rdr P t (fun b : Bool => [.bool b]) (fun _ _ => True) := fun H enc w fuel cs x h => by
  obtain ⟨n, rfl, rfl⟩ := DataW.trod_bool ht h
  exact ⟨n, ⟨rfl, trivial⟩, trivial⟩
theorem bulk_mem {H : Type} {d : DataW H} : ∀ {l : List (DataW H)}, d ∈ l → Rows.uptoBulk d ≤ Rows.uptoBulkAll l
  | x :: r, h => by
    simp only [Rows.uptoBulkAll]
    cases List.mem_cons.1 h with
    | inl e => subst e; omega
    | inr e => have := bulk_mem e; omega
theorem bulk_one {H : Type} (d : DataW H) : 1 ≤ Rows.uptoBulk d := by
  cases d with
  | lit l => cases l <;> simp [Rows.uptoBulk]
  | nil => simp [Rows.uptoBulk]
  | ptr d => simp [Rows.uptoBulk]
  | slice elems spare => simp [Rows.uptoBulk]
  | agg parts => simp [Rows.uptoBulk]
  | iface t d => simp [Rows.uptoBulk]
  | map entries => simp [Rows.uptoBulk]
  | held h => simp [Rows.uptoBulk]
theorem bulk_len {H : Type} : ∀ (l : List (DataW H)), l.length ≤ Rows.uptoBulkAll l
  | [] => by simp [Rows.uptoBulkAll]
  | x :: r => by have := bulk_one x; have := bulk_len r; simp only [Rows.uptoBulkAll, List.length_cons]; omega
/-- A slice of such things. -/
theorem rdr_slice {t e : TypeId} {α : Type} {c : α → List CV} {B : α → Nat → Prop} {s : Nat} (z : α) (tg : Bool) (ht : P.underlying t = some (.slice e)) (hs : P.cellsOf e = s) (hs0 : 0 < s) (hB : ∀ y m n, B y m → m ≤ n → B y n) (hr : Rdr P e c B) :
    Rdr P t (fun ys : List α => [CV.row tg s ys.length (lf s c z ys)]) (fun ys n => ys.length ≤ n ∧ ∀ y ∈ ys, B y n) := fun H enc w fuel cs x h => by
  rcases DataW.trod_slice ht h with ⟨rfl, rfl⟩ | ⟨a, len, cap, elems, rest, n, rfl, rfl, rfl, _, hlc, _, hlen, hel, _, _⟩
  · exact ⟨[], ⟨⟨none, 0, rfl, Nat.le_refl _, fun h0 => by simp at h0⟩, trivial⟩, by simp, by simp⟩
  · have key : ∀ i, ∃ y : α, i < len → ∃ d ∈ elems.map (·.1), B y (Rows.uptoBulk d) ∧ ∀ k, k < s → ∃ u, w.cell? (a.add (i * s + k)) = some u ∧ RepC (AllB w) w (ofL (c y) k) u := by
      intro i
      by_cases hi : i < len
      · have h1 := hel i hi
        have h2 : i < elems.length := by omega
        rw [List.getElem?_eq_getElem h2, hs] at h1
        obtain ⟨us, hus, htr⟩ := Option.bind_eq_some_iff.1 h1
        obtain ⟨y, hy, hb⟩ := hr H enc w n us _ htr
        obtain ⟨_, hul, hue⟩ := World.cells?_some hus
        refine ⟨y, fun _ => ⟨_, List.mem_map.2 ⟨_, List.getElem_mem h2, rfl⟩, hb, fun k hk => ?_⟩⟩
        have hlen2 := hy.length
        obtain ⟨u, hu, hru⟩ := hy.get k ((c y)[k]'(by omega)) (List.getElem?_eq_getElem (by omega))
        refine ⟨u, ?_, by rw [ofL_get (c y) k _ (List.getElem?_eq_getElem (by omega))]; exact hru⟩
        rw [← add_add]
        exact (hue k hk).trans hu
      · exact ⟨z, fun h => absurd h hi⟩
    obtain ⟨g, hg⟩ : ∃ g : Nat → α, ∀ i, i < len → ∃ d ∈ elems.map (·.1), B (g i) (Rows.uptoBulk d) ∧ ∀ k, k < s → ∃ u, w.cell? (a.add (i * s + k)) = some u ∧ RepC (AllB w) w (ofL (c (g i)) k) u := ⟨fun i => Classical.choose (key i), fun i => Classical.choose_spec (key i)⟩
    have hbl : ∀ d ∈ elems.map (·.1), Rows.uptoBulk d ≤ Rows.uptoBulk (.slice (elems.map (·.1)) (rest.map (·.1))) := fun d hd => by
      have := bulk_mem hd
      simp only [Rows.uptoBulk]; omega
    refine ⟨(List.range len).map g, ⟨⟨some a, cap, by simp, by simpa using hlc, fun h0 => ⟨a, rfl, ?_, fun j hj => ?_⟩⟩, trivial⟩, ?_, fun y hy => ?_⟩
    · simp only [List.length_map, List.length_range] at h0
      have hl0 : 0 < len := Nat.pos_of_ne_zero (fun e => by subst e; simp at h0)
      obtain ⟨_, _, _, hk⟩ := hg 0 hl0
      obtain ⟨u, hu, _⟩ := hk 0 hs0
      have hb := AI.block_add a (0 * s + 0)
      unfold World.cell? at hu
      rw [hb] at hu
      show a.block < w.heap.size
      by_cases hlt : a.block < w.heap.size
      · exact hlt
      · rw [Array.getElem?_eq_none (by omega)] at hu
        cases hu
    · simp only [List.length_map, List.length_range] at hj
      have hi : j / s < len := (Nat.div_lt_iff_lt_mul hs0).2 hj
      obtain ⟨_, _, _, hk⟩ := hg (j / s) hi
      obtain ⟨u, hu, hru⟩ := hk (j % s) (Nat.mod_lt _ hs0)
      refine ⟨u, ?_, ?_⟩
      · rw [Nat.mul_comm, Nat.div_add_mod] at hu; exact hu
      · unfold lf
        rw [List.getD_eq_getElem?_getD]
        simpa [hi] using hru
    · rw [List.length_map, List.length_range]
      have := bulk_len (elems.map (·.1))
      simp only [Rows.uptoBulk]
      rw [List.length_map] at this
      omega
    · obtain ⟨i, hi, rfl⟩ := List.mem_map.1 hy
      obtain ⟨d, hd, hb, _⟩ := hg i (List.mem_range.1 hi)
      exact hB _ _ _ hb (hbl d hd)
/-- Structs of two and of three fields, laid one behind the other. -/
theorem rdr_struct3 {t : TypeId} {f0 f1 f2 : Field} {α β γ : Type} {c0 : α → List CV} {c1 : β → List CV} {c2 : γ → List CV} {B0 : α → Nat → Prop} {B1 : β → Nat → Prop} {B2 : γ → Nat → Prop} {s0 s1 s2 : Nat}
    (ht : P.underlying t = some (.struct #[f0, f1, f2])) (hz0 : P.cellsOf f0.type = s0) (hz1 : P.cellsOf f1.type = s1) (hz2 : P.cellsOf f2.type = s2) (hz : P.cellsOf t = s0 + s1 + s2) (ho0 : f0.offset = 0) (ho1 : f1.offset = s0) (ho2 : f2.offset = s0 + s1)
    (h0 : Rdr P f0.type c0 B0) (h1 : Rdr P f1.type c1 B1) (h2 : Rdr P f2.type c2 B2) (hB0 : ∀ y m n, B0 y m → m ≤ n → B0 y n) (hB1 : ∀ y m n, B1 y m → m ≤ n → B1 y n) (hB2 : ∀ y m n, B2 y m → m ≤ n → B2 y n) :
    Rdr P t (fun y : α × β × γ => c0 y.1 ++ (c1 y.2.1 ++ c2 y.2.2)) (fun y n => B0 y.1 n ∧ B1 y.2.1 n ∧ B2 y.2.2 n) := fun H enc w fuel cs x h => by
  obtain ⟨xs, n, _, rfl, hl, hlen, hf⟩ := DataW.trod_struct ht h
  match xs, hlen with
  | [x0, x1, x2], _ =>
    have g0 := hf 0 f0 rfl
    have g1 := hf 1 f1 rfl
    have g2 := hf 2 f2 rfl
    rw [ho0, hz0] at g0
    rw [ho1, hz1] at g1
    rw [ho2, hz2] at g2
    obtain ⟨y0, r0, b0⟩ := h0 H enc w n _ x0 g0
    obtain ⟨y1, r1, b1⟩ := h1 H enc w n _ x1 g1
    obtain ⟨y2, r2, b2⟩ := h2 H enc w n _ x2 g2
    refine ⟨(y0, y1, y2), ?_, hB0 _ _ _ b0 ?_, hB1 _ _ _ b1 ?_, hB2 _ _ _ b2 ?_⟩
    · have e : cs = (cs.drop 0).take s0 ++ ((cs.drop s0).take s1 ++ (cs.drop (s0 + s1)).take s2) := by
        rw [List.drop_zero]
        conv => lhs; rw [← List.take_append_drop s0 cs]
        congr 1
        conv => lhs; rw [← List.take_append_drop s1 (cs.drop s0)]
        congr 1
        rw [List.drop_drop, List.take_of_length_le]
        rw [List.length_drop]; omega
      rw [e]
      exact r0.append (r1.append r2)
    · simp only [Rows.uptoBulk, List.map_cons, List.map_nil, Rows.uptoBulkAll]; omega
    · simp only [Rows.uptoBulk, List.map_cons, List.map_nil, Rows.uptoBulkAll]; omega
    · simp only [Rows.uptoBulk, List.map_cons, List.map_nil, Rows.uptoBulkAll]; omega
theorem rdr_struct2 {t : TypeId} {f0 f1 : Field} {α β : Type} {c0 : α → List CV} {c1 : β → List CV} {B0 : α → Nat → Prop} {B1 : β → Nat → Prop} {s0 s1 : Nat}
    (ht : P.underlying t = some (.struct #[f0, f1])) (hz0 : P.cellsOf f0.type = s0) (hz1 : P.cellsOf f1.type = s1) (hz : P.cellsOf t = s0 + s1) (ho0 : f0.offset = 0) (ho1 : f1.offset = s0)
    (h0 : Rdr P f0.type c0 B0) (h1 : Rdr P f1.type c1 B1) (hB0 : ∀ y m n, B0 y m → m ≤ n → B0 y n) (hB1 : ∀ y m n, B1 y m → m ≤ n → B1 y n) :
    Rdr P t (fun y : α × β => c0 y.1 ++ c1 y.2) (fun y n => B0 y.1 n ∧ B1 y.2 n) := fun H enc w fuel cs x h => by
  obtain ⟨xs, n, _, rfl, hl, hlen, hf⟩ := DataW.trod_struct ht h
  match xs, hlen with
  | [x0, x1], _ =>
    have g0 := hf 0 f0 rfl
    have g1 := hf 1 f1 rfl
    rw [ho0, hz0] at g0
    rw [ho1, hz1] at g1
    obtain ⟨y0, r0, b0⟩ := h0 H enc w n _ x0 g0
    obtain ⟨y1, r1, b1⟩ := h1 H enc w n _ x1 g1
    refine ⟨(y0, y1), ?_, hB0 _ _ _ b0 ?_, hB1 _ _ _ b1 ?_⟩
    · have e : cs = (cs.drop 0).take s0 ++ (cs.drop s0).take s1 := by
        rw [List.drop_zero]
        conv => lhs; rw [← List.take_append_drop s0 cs]
        congr 1
        rw [List.take_of_length_le]
        rw [List.length_drop]; omega
      rw [e]
      exact r0.append r1
    · simp only [Rows.uptoBulk, List.map_cons, List.map_nil, Rows.uptoBulkAll]; omega
    · simp only [Rows.uptoBulk, List.map_cons, List.map_nil, Rows.uptoBulkAll]; omega
/-- The same things, told otherwise. -/
theorem Rdr.to {t : TypeId} {α β : Type} {c : α → List CV} {c' : β → List CV} {B : α → Nat → Prop} {B' : β → Nat → Prop} (hr : Rdr P t c B) (f : α → β) (hc : ∀ y, c' (f y) = c y) (hB : ∀ y n, B y n → B' (f y) n) : Rdr P t c' B' := fun H enc w fuel cs x h => by
  obtain ⟨y, h1, h2⟩ := hr H enc w fuel cs x h
  exact ⟨f y, by rw [hc]; exact h1, hB _ _ h2⟩
end
end Go.Proofs.Ytmkomfdiggcloaa

/- Orders: the first error, places. No program in sight. -/
namespace Go.PN
def oscan (vars : Int) (seen : List Int) : List Int → Int
  | [] => 0
  | x :: xs => if x < 0 ∨ vars ≤ x then 3 else if x ∈ seen then 6 else oscan vars (seen ++ [x]) xs
/-- The number of the first error of an order. -/
def ocode (o : List Int) (vars : Int) : Int := if vars < 0 ∨ 24 < vars then 3 else if (o.length : Int) ≠ vars then 11 else oscan vars [] o
def placeZ (l : List Int) (n : Int) : Int := if n ∈ l then (l.idxOf n : Int) else -1

theorem getDZ {xs : List Int} {i : Nat} (h : i < xs.length) : xs.getD i 0 = xs[i] := by
  rw [List.getD_eq_getElem?_getD, List.getElem?_eq_getElem h]; rfl
theorem oscan_step {vars : Int} {o : List Int} {i : Nat} (h : i < o.length) : oscan vars (o.take i) (o.drop i) = if o.getD i 0 < 0 ∨ vars ≤ o.getD i 0 then 3 else if o.getD i 0 ∈ o.take i then 6 else oscan vars (o.take (i + 1)) (o.drop (i + 1)) := by
  rw [List.drop_eq_getElem_cons h, oscan, getDZ h, List.take_succ_eq_append_getElem h]
theorem take_memZ {o : List Int} {i : Nat} {x : Int} : x ∈ o.take i ↔ ∃ k, k < i ∧ k < o.length ∧ o.getD k 0 = x := by
  constructor
  · intro h
    obtain ⟨k, hk, e⟩ := List.mem_iff_getElem.1 h
    simp only [List.length_take] at hk
    refine ⟨k, by omega, by omega, ?_⟩
    rw [getDZ (by omega), ← e, List.getElem_take]
  · rintro ⟨k, h1, h2, rfl⟩
    rw [getDZ h2]
    exact List.mem_iff_getElem.2 ⟨k, by simp; omega, by rw [List.getElem_take]⟩
/-- What an order without error is. -/
structure Perm0 (o : List Int) : Prop where
  range : ∀ x ∈ o, 0 ≤ x ∧ x < o.length
  nodup : o.Nodup
theorem oscan_ok {vars : Int} : ∀ (o seen : List Int), oscan vars seen o = 0 → seen.Nodup → (∀ x ∈ o, 0 ≤ x ∧ x < vars) ∧ (seen ++ o).Nodup
  | [], seen, _, hs => ⟨by simp, by simpa using hs⟩
  | x :: o, seen, h, hs => by
    rw [oscan] at h
    split at h
    · cases h
    · split at h
      · cases h
      · rename_i h1 h2
        have hn : (seen ++ [x]).Nodup := by
          rw [List.nodup_append]
          exact ⟨hs, by simp, fun a ha b hb e => h2 (by simp only [List.mem_singleton] at hb; rw [← hb, ← e]; exact ha)⟩
        obtain ⟨h3, h4⟩ := oscan_ok o (seen ++ [x]) h hn
        refine ⟨fun y hy => ?_, by simpa using h4⟩
        rcases List.mem_cons.1 hy with rfl | hy
        · omega
        · exact h3 y hy
theorem ocode_ok {o : List Int} (h : ocode o o.length = 0) : Perm0 o ∧ o.length ≤ 24 := by
  unfold ocode at h
  split at h
  · cases h
  · rename_i h1
    rw [if_neg (by simp)] at h
    obtain ⟨h2, h3⟩ := oscan_ok o [] h (by simp)
    exact ⟨⟨h2, by simpa using h3⟩, by omega⟩
theorem nodup_le : ∀ {l m : List Int}, l.Nodup → (∀ x ∈ l, x ∈ m) → l.length ≤ m.length
  | [], m, _, _ => by simp
  | a :: l, m, hn, hs => by
    simp only [List.nodup_cons] at hn
    have ha := hs a (by simp)
    have := nodup_le (l := l) (m := m.erase a) hn.2 fun x hx => (List.mem_erase_of_ne (fun e => hn.1 (by rw [← e]; exact hx))).2 (hs x (by simp [hx]))
    rw [List.length_erase_of_mem ha] at this
    have : 0 < m.length := List.length_pos_of_mem ha
    simp only [List.length_cons]
    omega
theorem Perm0.all {o : List Int} (h : Perm0 o) {j : Nat} (hj : j < o.length) : (j : Int) ∈ o := by
  by_cases hm : (j : Int) ∈ o
  · exact hm
  · exfalso
    have := nodup_le (l := (j : Int) :: o) (m := (List.range o.length).map (fun k : Nat => (k : Int))) (by simp only [List.nodup_cons]; exact ⟨hm, h.nodup⟩) (fun x hx => by
      rw [List.mem_map]
      rcases List.mem_cons.1 hx with rfl | hx
      · exact ⟨j, by simpa using hj, rfl⟩
      · obtain ⟨h1, h2⟩ := h.range x hx
        exact ⟨x.toNat, by simp; omega, by omega⟩)
    simp at this
    omega
theorem place_get {o : List Int} (hn : o.Nodup) {k : Nat} (hk : k < o.length) : placeZ o (o.getD k 0) = k := by
  unfold placeZ
  rw [getDZ hk, if_pos (List.getElem_mem hk)]
  congr 1
  exact hn.idxOf_getElem k hk
/-- The places of the events. -/
def placesL (o : List Int) : List Int := (List.range o.length).map fun j : Nat => placeZ o (j : Int)
theorem placesL_len (o : List Int) : (placesL o).length = o.length := by simp [placesL]
theorem placesL_get {o : List Int} {j : Nat} (hj : j < o.length) : (placesL o).getD j 0 = placeZ o j := by
  rw [getDZ (by rw [placesL_len]; exact hj)]
  simp [placesL]
theorem places_end {o zs : List Int} (h : Perm0 o) (hl : zs.length = o.length) (hz : ∀ k, k < o.length → zs.getD (o.getD k 0).toNat 0 = k) : zs = placesL o := by
  apply List.ext_getElem (by rw [placesL_len]; exact hl)
  intro j h1 h2
  rw [← getDZ h1, ← getDZ h2, placesL_get (by omega)]
  have hm := h.all (j := j) (by omega)
  obtain ⟨k, hk, e⟩ := List.mem_iff_getElem.1 hm
  have h3 := hz k hk
  rw [getDZ hk, e] at h3
  have h4 := place_get h.nodup hk
  rw [getDZ hk, e] at h4
  rw [h4, ← h3]; simp
end Go.PN

/- faultlineref14: Place, Check; order: Check, places, Positions. -/
namespace Go.AI
open Go.PN
theorem updF_is {zs : List Int} {i : Nat} {v : Int} (hi : i < zs.length) : updF (isF zs) i [.int .i64 v] = isF (zs.set i v) := by
  funext j
  simp only [updF]
  by_cases e : j = i
  · subst e; simp [hi, isF]
  · rw [if_neg e]
    show CV.int .i64 (zs.getD j 0) = CV.int .i64 ((zs.set i v).getD j 0)
    rw [List.getD_eq_getElem?_getD, List.getD_eq_getElem?_getD, List.getElem?_set_ne (fun h => e h.symm)]
theorem updF_bs {zs : List Bool} {i : Nat} {v : Bool} (hi : i < zs.length) : updF (bsF zs) i [.bool v] = bsF (zs.set i v) := by
  funext j
  simp only [updF]
  by_cases e : j = i
  · subst e; simp [hi, bsF]
  · rw [if_neg e]
    show CV.bool (zs.getD j false) = CV.bool ((zs.set i v).getD j false)
    rw [List.getD_eq_getElem?_getD, List.getD_eq_getElem?_getD, List.getElem?_set_ne (fun h => e h.symm)]
theorem make_is (n : Nat) : (fun j => ofL [CV.int .i64 0] (j % 1)) = isF (List.replicate n 0) := by
  funext j
  show ofL [CV.int .i64 0] (j % 1) = CV.int .i64 ((List.replicate n 0).getD j 0)
  rw [Nat.mod_one, List.getD_eq_getElem?_getD, List.getElem?_replicate]
  split <;> rfl
theorem make_bs (n : Nat) : (fun j => ofL [CV.bool false] (j % 1)) = bsF (List.replicate n false) := by
  funext j
  show ofL [CV.bool false] (j % 1) = CV.bool ((List.replicate n false).getD j false)
  rw [Nat.mod_one, List.getD_eq_getElem?_getD, List.getElem?_replicate]
  split <;> rfl
theorem ler_oslis {h : Heap} {t : Bool} {g n : Nat} {ty : TypeId} {ys : List Int} (hg : h.get g = some (.cells ty n (isF ys))) (hn : n = ys.length) : LeR h (.osl g 1 0 n) (is t ys) := by
  subst hn
  exact .osl hg (by omega) (fun j _ => by rw [Nat.zero_add]; exact .int _ _)
end Go.AI
namespace Go.Proofs.Ytmkomfdiggcloaa
open Go.AI Go.PN
attribute [local irreducible] aw Fa Fh DrK
theorem place_none {l : List Int} {n : Int} (h : ∀ j, j < l.length → l.getD j 0 ≠ n) : placeZ l n = -1 := by
  unfold placeZ
  rw [if_neg]
  intro hm
  obtain ⟨k, hk, e⟩ := List.mem_iff_getElem.1 hm
  exact h k hk (by rw [getDZ hk, e])
theorem place_at {l : List Int} {n : Int} {i : Nat} (hi : i < l.length) (he : l.getD i 0 = n) (h : ∀ j, j < i → l.getD j 0 ≠ n) : placeZ l n = i := by
  unfold placeZ
  have hm : n ∈ l := by rw [← he, getDZ hi]; exact List.getElem_mem hi
  rw [if_pos hm]
  congr 1
  have h1 : l.idxOf n < l.length := List.idxOf_lt_length_of_mem hm
  have h2 : l[l.idxOf n] = n := List.getElem_idxOf h1
  rcases Nat.lt_trichotomy (l.idxOf n) i with hlt | heq | hgt
  · exact absurd (by rw [getDZ h1]; exact h2) (h _ hlt)
  · exact heq
  · have := List.not_of_lt_findIdx (p := fun x => x == n) (xs := l) (i := i) hgt
    rw [getDZ hi] at he
    simp [he] at this
set_option maxHeartbeats 400000 in
theorem place_fa (l : List Int) (n : Int) (hl : l.length ≤ 1099511627776) : Fa Try.prog 88 [.c (is false l), .c (.int .i64 n)] (.c (.int .i64 (placeZ l n))) := by
  refine fa_of_body Try.func88 rfl rfl (by simp [Try.ntmps88]) fun C hC => ?_
  simp only [initS, Nat.reduceAdd]
  repeat first|apply wa1|apply wa2|apply wa3|apply wa4|apply wa5 rfl|apply wa6|apply wa7|(refine wb1 rfl fun R r=>?_;simp only[go_sem];with_reducible refine r _ _ ?_;clear r R)
  refine aw_lp (fun i : Nat => [(0, .c (is false l)), (1, .c (.int .i64 n)), (5, .c (.int .i64 i))]) (fun _ => []) (fun i => i ≤ l.length ∧ ∀ j, j < i → l.getD j 0 ≠ n) (fun i => l.length - i) 0 (by simp only[go_sem]<;>and_intros<;>first|exact True.intro|(with_reducible rfl)|exact c_int (by omega)|rfl) (List.Sublist.refl _) ⟨Nat.zero_le _, fun j hj => by omega⟩ ?_
  rintro i ⟨hi, hs⟩
  repeat first|apply wa1|apply wa2|apply wa3|apply wa4|apply wa5 rfl|apply wa6|apply wa7|(refine wb1 rfl fun R r=>?_;simp only[go_sem];with_reducible refine r _ _ ?_;clear r R)
  refine aw_cond (by simp only[go_sem]<;>rfl) (fun hb => ?_) (fun hb => ?_)
  · have hin : i < l.length := by have := of_decide_eq_true hb; omega
    repeat first|apply wa1|apply wa2|apply wa3|apply wa4|apply wa5 rfl|apply wa6|apply wa7|(refine wb1 rfl fun R r=>?_;simp only[go_sem];with_reducible refine r _ _ ?_;clear r R)
    refine aw_cond (by simp only[go_sem]<;>rfl) (fun hc => ?_) (fun hc => ?_)
    · repeat first|apply wa1|apply wa2|apply wa3|apply wa4|apply wa5 rfl|apply wa6|apply wa7|(refine wb1 rfl fun R r=>?_;simp only[go_sem];with_reducible refine r _ _ ?_;clear r R)
      (refine aw_retq hC rfl fun R r=>?_;simp only[go_sem];refine r _ rfl ?_;clear r R)
      exact .one (.c (ler_int (place_at hin (eq_of_beq hc) hs).symm))
    · have hne : l.getD i 0 ≠ n := fun e => by rw [e] at hc; simp at hc
      repeat first|apply wa1|apply wa2|apply wa3|apply wa4|apply wa5 rfl|apply wa6|apply wa7|(refine wb1 rfl fun R r=>?_;simp only[go_sem];with_reducible refine r _ _ ?_;clear r R)
      refine aw_stop ⟨i + 1, by omega, (by simp only[go_sem]<;>and_intros<;>first|exact True.intro|(with_reducible rfl)|exact c_int (by omega)|rfl), (List.Sublist.refl _), by omega, fun j hj => ?_⟩
      by_cases hji : j = i
      · rw [hji]; exact hne
      · exact hs j (by omega)
  · have hin : i = l.length := by have := of_decide_eq_false hb; omega
    subst hin
    repeat first|apply wa1|apply wa2|apply wa3|apply wa4|apply wa5 rfl|apply wa6|apply wa7|(refine wb1 rfl fun R r=>?_;simp only[go_sem];with_reducible refine r _ _ ?_;clear r R)
    (refine aw_retq hC rfl fun R r=>?_;simp only[go_sem];refine r _ rfl ?_;clear r R)
    exact .one (.c (ler_int (place_none hs).symm))
set_option maxHeartbeats 1600000 in
theorem ocheckR_fa (o : List Int) (vars : Int) (hl : o.length ≤ 1099511627776) : Fa Try.prog 64 [.c (is false o), .c (.int .i64 vars)] (.c (.int .i64 (ocode o vars))) := by
  refine fa_of_body Try.func64 rfl rfl (by simp [Try.ntmps64]) fun C hC => ?_
  simp only [initS, Nat.reduceAdd]
  repeat first|apply wa1|apply wa2|apply wa3|apply wa4|apply wa5 rfl|apply wa6|apply wa7|(refine wb1 rfl fun R r=>?_;simp only[go_sem];with_reducible refine r _ _ ?_;clear r R)
  by_cases hv0 : vars < 0
  · have e1 : decide (vars < 0) = true := by simp [hv0]
    repeat first|apply wa1|apply wa2|apply wa3|apply wa4|apply wa5 rfl|apply wa6|apply wa7|(refine wb1 rfl fun R r=>?_;simp only[go_sem, e1];with_reducible refine r _ _ ?_;clear r R)
    refine aw_condT (by simp only[go_sem, e1]<;>rfl) ?_
    repeat first|apply wa1|apply wa2|apply wa3|apply wa4|apply wa5 rfl|apply wa6|apply wa7|(refine wb1 rfl fun R r=>?_;simp only[go_sem, e1];with_reducible refine r _ _ ?_;clear r R)
    (refine aw_retq hC rfl fun R r=>?_;simp only[go_sem, e1];refine r _ rfl ?_;clear r R)
    exact .one (.c (ler_int (by unfold ocode; rw [if_pos (.inl hv0)])))
  have e1 : decide (vars < 0) = false := by simp [hv0]
  repeat first|apply wa1|apply wa2|apply wa3|apply wa4|apply wa5 rfl|apply wa6|apply wa7|(refine wb1 rfl fun R r=>?_;simp only[go_sem, e1];with_reducible refine r _ _ ?_;clear r R)
  refine aw_cond (by simp only[go_sem, e1]<;>rfl) (fun hb => ?_) (fun hb => ?_)
  · have := of_decide_eq_true hb
    repeat first|apply wa1|apply wa2|apply wa3|apply wa4|apply wa5 rfl|apply wa6|apply wa7|(refine wb1 rfl fun R r=>?_;simp only[go_sem, e1];with_reducible refine r _ _ ?_;clear r R)
    (refine aw_retq hC rfl fun R r=>?_;simp only[go_sem, e1];refine r _ rfl ?_;clear r R)
    exact .one (.c (ler_int (by unfold ocode; rw [if_pos (.inr (by omega))])))
  have hv24 : vars ≤ 24 := by have := of_decide_eq_false hb; omega
  repeat first|apply wa1|apply wa2|apply wa3|apply wa4|apply wa5 rfl|apply wa6|apply wa7|(refine wb1 rfl fun R r=>?_;simp only[go_sem, e1];with_reducible refine r _ _ ?_;clear r R)
  refine aw_cond (by simp only[go_sem, e1]<;>rfl) (fun hc => ?_) (fun hc => ?_)
  · have hne : (o.length : Int) ≠ vars := fun e => by rw [e] at hc; simp at hc
    repeat first|apply wa1|apply wa2|apply wa3|apply wa4|apply wa5 rfl|apply wa6|apply wa7|(refine wb1 rfl fun R r=>?_;simp only[go_sem, e1];with_reducible refine r _ _ ?_;clear r R)
    (refine aw_retq hC rfl fun R r=>?_;simp only[go_sem, e1];refine r _ rfl ?_;clear r R)
    exact .one (.c (ler_int (by unfold ocode; rw [if_neg (by omega), if_pos hne])))
  have hlen : (o.length : Int) = vars := by
    have : ((o.length : Int) == vars) = true := by simpa [bne] using hc
    exact eq_of_beq this
  have hcode : ocode o vars = oscan vars [] o := by unfold ocode; rw [if_neg (by omega), if_neg (by omega)]
  rw [hcode]
  repeat first|apply wa1|apply wa2|apply wa3|apply wa4|apply wa5 rfl|apply wa6|apply wa7|(refine wb1 rfl fun R r=>?_;simp only[go_sem, e1];with_reducible refine r _ _ ?_;clear r R)
  refine aw_lp (fun i : Nat => [(0, .c (is false o)), (1, .c (.int .i64 vars)), (5, .c (.int .i64 i))]) (fun _ => []) (fun i => i ≤ o.length ∧ oscan vars (o.take i) (o.drop i) = oscan vars [] o) (fun i => o.length - i) 0 (by simp only[go_sem, e1]<;>and_intros<;>first|exact True.intro|(with_reducible rfl)|exact c_int (by omega)|rfl) (List.Sublist.refl _) ⟨Nat.zero_le _, by simp⟩ ?_
  rintro i ⟨hi, hs⟩
  repeat first|apply wa1|apply wa2|apply wa3|apply wa4|apply wa5 rfl|apply wa6|apply wa7|(refine wb1 rfl fun R r=>?_;simp only[go_sem, e1];with_reducible refine r _ _ ?_;clear r R)
  refine aw_cond (by simp only[go_sem, e1]<;>rfl) (fun hb1 => ?_) (fun hb1 => ?_)
  · have hin : i < o.length := by have := of_decide_eq_true hb1; omega
    rw [oscan_step hin] at hs
    repeat first|apply wa1|apply wa2|apply wa3|apply wa4|apply wa5 rfl|apply wa6|apply wa7|(refine wb1 rfl fun R r=>?_;simp only[go_sem, e1];with_reducible refine r _ _ ?_;clear r R)
    by_cases hx0 : o.getD i 0 < 0
    · have e2 : decide (o.getD i 0 < 0) = true := decide_eq_true hx0
      repeat first|apply wa1|apply wa2|apply wa3|apply wa4|apply wa5 rfl|apply wa6|apply wa7|(refine wb1 rfl fun R r=>?_;simp only[go_sem, e1, e2];with_reducible refine r _ _ ?_;clear r R)
      refine aw_condT (by simp only[go_sem, e1, e2]<;>rfl) ?_
      repeat first|apply wa1|apply wa2|apply wa3|apply wa4|apply wa5 rfl|apply wa6|apply wa7|(refine wb1 rfl fun R r=>?_;simp only[go_sem, e1, e2];with_reducible refine r _ _ ?_;clear r R)
      (refine aw_retq hC rfl fun R r=>?_;simp only[go_sem, e1, e2];refine r _ rfl ?_;clear r R)
      exact .one (.c (ler_int (by rw [← hs, if_pos (.inl hx0)])))
    have e2 : decide (o.getD i 0 < 0) = false := decide_eq_false hx0
    repeat first|apply wa1|apply wa2|apply wa3|apply wa4|apply wa5 rfl|apply wa6|apply wa7|(refine wb1 rfl fun R r=>?_;simp only[go_sem, e1, e2];with_reducible refine r _ _ ?_;clear r R)
    refine aw_cond (by simp only[go_sem, e1, e2]<;>rfl) (fun hx1 => ?_) (fun hx1 => ?_)
    · have hx1' := of_decide_eq_true hx1
      repeat first|apply wa1|apply wa2|apply wa3|apply wa4|apply wa5 rfl|apply wa6|apply wa7|(refine wb1 rfl fun R r=>?_;simp only[go_sem, e1, e2];with_reducible refine r _ _ ?_;clear r R)
      (refine aw_retq hC rfl fun R r=>?_;simp only[go_sem, e1, e2];refine r _ rfl ?_;clear r R)
      exact .one (.c (ler_int (by rw [← hs, if_pos (.inr hx1')])))
    have hx1' : ¬ vars ≤ o.getD i 0 := of_decide_eq_false hx1
    rw [if_neg (by omega)] at hs
    repeat first|apply wa1|apply wa2|apply wa3|apply wa4|apply wa5 rfl|apply wa6|apply wa7|(refine wb1 rfl fun R r=>?_;simp only[go_sem, e1, e2];with_reducible refine r _ _ ?_;clear r R)
    refine aw_lp (fun k : Nat => [(0, .c (is false o)), (1, .c (.int .i64 vars)), (5, .c (.int .i64 i)), (6, .c (.int .i64 k))]) (fun _ => []) (fun k => k ≤ i ∧ ∀ j, j < k → o.getD j 0 ≠ o.getD i 0) (fun k => i - k) 0 (by simp only[go_sem, e1, e2]<;>and_intros<;>first|exact True.intro|(with_reducible rfl)|exact c_int (by omega)|rfl) (List.Sublist.refl _) ⟨Nat.zero_le _, fun j hj => by omega⟩ ?_
    rintro k ⟨hk, hks⟩
    repeat first|apply wa1|apply wa2|apply wa3|apply wa4|apply wa5 rfl|apply wa6|apply wa7|(refine wb1 rfl fun R r=>?_;simp only[go_sem, e1, e2];with_reducible refine r _ _ ?_;clear r R)
    refine aw_cond (by simp only[go_sem, e1, e2]<;>rfl) (fun hb2 => ?_) (fun hb2 => ?_)
    · have hki : k < i := by have := of_decide_eq_true hb2; omega
      repeat first|apply wa1|apply wa2|apply wa3|apply wa4|apply wa5 rfl|apply wa6|apply wa7|(refine wb1 rfl fun R r=>?_;simp only[go_sem, e1, e2];with_reducible refine r _ _ ?_;clear r R)
      refine aw_dr 9 ty_mixed (by kernel_rfl) ?_
      repeat first|apply wa1|apply wa2|apply wa3|apply wa4|apply wa5 rfl|apply wa6|apply wa7|(refine wb1 rfl fun R r=>?_;simp only[go_sem, e1, e2];with_reducible refine r _ _ ?_;clear r R)|apply wa8|(refine wd1 rfl fun R r=>?_;simp only[go_sem, e1, e2];with_reducible refine r _ _ ?_;clear r R)
      refine aw_cond (by simp only[go_sem, e1, e2]<;>rfl) (fun he => ?_) (fun he => ?_)
      · have he' := eq_of_beq he
        repeat first|apply wa1|apply wa2|apply wa3|apply wa4|apply wa5 rfl|apply wa6|apply wa7|(refine wb1 rfl fun R r=>?_;simp only[go_sem, e1, e2];with_reducible refine r _ _ ?_;clear r R)|apply wa8|(refine wd1 rfl fun R r=>?_;simp only[go_sem, e1, e2];with_reducible refine r _ _ ?_;clear r R)
        (refine aw_retq hC rfl fun R r=>?_;simp only[go_sem, e1, e2];refine r _ rfl ?_;clear r R)
        exact .one (.c (ler_int (by rw [← hs, if_pos (take_memZ.2 ⟨k, hki, by omega, he'⟩)])))
      · have hne : o.getD k 0 ≠ o.getD i 0 := fun e => by rw [e] at he; simp at he
        repeat first|apply wa1|apply wa2|apply wa3|apply wa4|apply wa5 rfl|apply wa6|apply wa7|(refine wb1 rfl fun R r=>?_;simp only[go_sem, e1, e2];with_reducible refine r _ _ ?_;clear r R)|apply wa8|(refine wd1 rfl fun R r=>?_;simp only[go_sem, e1, e2];with_reducible refine r _ _ ?_;clear r R)
        refine aw_stop ⟨k + 1, by omega, (by simp only[go_sem, e1, e2]<;>and_intros<;>first|exact True.intro|(with_reducible rfl)|exact c_int (by omega)|rfl), (List.Sublist.refl _), by omega, fun j hj => ?_⟩
        by_cases hji : j = k
        · rw [hji]; exact hne
        · exact hks j (by omega)
    · have hki : k = i := by have := of_decide_eq_false hb2; omega
      subst hki
      rw [if_neg (fun hm => by obtain ⟨j, h1, _, h3⟩ := take_memZ.1 hm; exact hks j h1 h3)] at hs
      repeat first|apply wa1|apply wa2|apply wa3|apply wa4|apply wa5 rfl|apply wa6|apply wa7|(refine wb1 rfl fun R r=>?_;simp only[go_sem, e1, e2];with_reducible refine r _ _ ?_;clear r R)
      exact aw_stop ⟨k + 1, by omega, (by simp only[go_sem, e1, e2]<;>and_intros<;>first|exact True.intro|(with_reducible rfl)|exact c_int (by omega)|rfl), (List.Sublist.refl _), by omega, hs⟩
  · have hin : i = o.length := by have := of_decide_eq_false hb1; omega
    subst hin
    repeat first|apply wa1|apply wa2|apply wa3|apply wa4|apply wa5 rfl|apply wa6|apply wa7|(refine wb1 rfl fun R r=>?_;simp only[go_sem, e1];with_reducible refine r _ _ ?_;clear r R)
    (refine aw_retq hC rfl fun R r=>?_;simp only[go_sem, e1];refine r _ rfl ?_;clear r R)
    exact .one (.c (ler_int (by rw [← hs, List.drop_length]; rfl)))
set_option maxHeartbeats 1600000 in
theorem ocheck_fa (o : List Int) (vars : Int) (hl : o.length ≤ 1099511627776) : Fa Try.prog 89 [.c (is false o), .c (.int .i64 vars)] (.c (errA (ocode o vars))) := by
  refine fa_of_body Try.func89 rfl rfl (by simp [Try.ntmps89]) fun C hC => ?_
  simp only [initS, Nat.reduceAdd]
  repeat first|apply wa1|apply wa2|apply wa3|apply wa4|apply wa5 rfl|apply wa6|apply wa7|(refine wb1 rfl fun R r=>?_;simp only[go_sem];with_reducible refine r _ _ ?_;clear r R)
  by_cases hv0 : vars < 0
  · have e1 : decide (vars < 0) = true := by simp [hv0]
    repeat first|apply wa1|apply wa2|apply wa3|apply wa4|apply wa5 rfl|apply wa6|apply wa7|(refine wb1 rfl fun R r=>?_;simp only[go_sem, e1];with_reducible refine r _ _ ?_;clear r R)
    refine aw_condT (by simp only[go_sem, e1]<;>rfl) ?_
    repeat first|apply wa1|apply wa2|apply wa3|apply wa4|apply wa5 rfl|apply wa6|apply wa7|(refine wb1 rfl fun R r=>?_;simp only[go_sem, e1];with_reducible refine r _ _ ?_;clear r R)
    (refine aw_retq hC rfl fun R r=>?_;simp only[go_sem, e1];refine r _ rfl ?_;clear r R)
    exact .one (.c (ler_errN (by unfold ocode; rw [if_pos (.inl hv0)]) (by unfold ocode; rw [if_pos (.inl hv0)]; omega)))
  have e1 : decide (vars < 0) = false := by simp [hv0]
  repeat first|apply wa1|apply wa2|apply wa3|apply wa4|apply wa5 rfl|apply wa6|apply wa7|(refine wb1 rfl fun R r=>?_;simp only[go_sem, e1];with_reducible refine r _ _ ?_;clear r R)
  refine aw_cond (by simp only[go_sem, e1]<;>rfl) (fun hb => ?_) (fun hb => ?_)
  · have := of_decide_eq_true hb
    repeat first|apply wa1|apply wa2|apply wa3|apply wa4|apply wa5 rfl|apply wa6|apply wa7|(refine wb1 rfl fun R r=>?_;simp only[go_sem, e1];with_reducible refine r _ _ ?_;clear r R)
    (refine aw_retq hC rfl fun R r=>?_;simp only[go_sem, e1];refine r _ rfl ?_;clear r R)
    exact .one (.c (ler_errN (by unfold ocode; rw [if_pos (.inr (by omega))]) (by unfold ocode; rw [if_pos (.inr (by omega))]; omega)))
  have hv24 : vars ≤ 24 := by have := of_decide_eq_false hb; omega
  repeat first|apply wa1|apply wa2|apply wa3|apply wa4|apply wa5 rfl|apply wa6|apply wa7|(refine wb1 rfl fun R r=>?_;simp only[go_sem, e1];with_reducible refine r _ _ ?_;clear r R)
  refine aw_cond (by simp only[go_sem, e1]<;>rfl) (fun hc => ?_) (fun hc => ?_)
  · have hne : (o.length : Int) ≠ vars := fun e => by rw [e] at hc; simp at hc
    repeat first|apply wa1|apply wa2|apply wa3|apply wa4|apply wa5 rfl|apply wa6|apply wa7|(refine wb1 rfl fun R r=>?_;simp only[go_sem, e1];with_reducible refine r _ _ ?_;clear r R)
    (refine aw_retq hC rfl fun R r=>?_;simp only[go_sem, e1];refine r _ rfl ?_;clear r R)
    exact .one (.c (ler_errN (by unfold ocode; rw [if_neg (by omega), if_pos hne]) (by unfold ocode; rw [if_neg (by omega), if_pos hne]; omega)))
  have hlen : (o.length : Int) = vars := by
    have : ((o.length : Int) == vars) = true := by simpa [bne] using hc
    exact eq_of_beq this
  have hcode : ocode o vars = oscan vars [] o := by unfold ocode; rw [if_neg (by omega), if_neg (by omega)]
  rw [hcode]
  repeat first|apply wa1|apply wa2|apply wa3|apply wa4|apply wa5 rfl|apply wa6|apply wa7|(refine wb1 rfl fun R r=>?_;simp only[go_sem, e1];with_reducible refine r _ _ ?_;clear r R)
  refine aw_make (n := o.length) (c := o.length) (size := 1) (z := [.bool false]) rfl rfl rfl (by simp only[go_sem, e1]<;>rfl) (by simp only[go_sem, e1]<;>rfl) rfl (by omega) (by simp only[go_sem, e1]<;>rfl) (by simp only[go_sem, e1]<;>rfl) hlen.symm hlen.symm (by omega) (by omega) (by omega) fun g hg => ?_
  rw [make_bs o.length]
  (try simp only[go_sem, e1])
  repeat first|apply wa1|apply wa2|apply wa3|apply wa4|apply wa5 rfl|apply wa6|apply wa7|(refine wb1 rfl fun R r=>?_;simp only[go_sem, e1];with_reducible refine r _ _ ?_;clear r R)
  refine aw_lp (fun x : Nat × List Bool => [(1, .c (.int .i64 vars)), (5, .c (.osl g 1 0 o.length)), (24, .c (is false o)), (25, .c (.int .i64 o.length)), (26, .c (.int .i64 x.1))]) (fun x => [(g, .cells 4 o.length (bsF x.2))])
    (fun x => x.1 ≤ o.length ∧ oscan vars (o.take x.1) (o.drop x.1) = oscan vars [] o ∧ x.2.length = o.length ∧ ∀ j : Nat, j < o.length → (x.2.getD j false = decide ((j : Int) ∈ o.take x.1))) (fun x => o.length - x.1) (0, List.replicate o.length false) (by simp only[go_sem, e1]<;>and_intros<;>first|exact True.intro|(with_reducible rfl)|exact c_int (by omega)|rfl) (List.Sublist.refl _) ⟨Nat.zero_le _, by simp, by simp, fun j hj => by rw [List.getD_eq_getElem?_getD, List.getElem?_replicate]; simp [hj]⟩ ?_
  rintro ⟨i, zs⟩ ⟨hi, hs, hzl, hz⟩
  dsimp only at hi hs hzl hz ⊢
  repeat first|apply wa1|apply wa2|apply wa3|apply wa4|apply wa5 rfl|apply wa6|apply wa7|(refine wb1 rfl fun R r=>?_;simp only[go_sem, e1];with_reducible refine r _ _ ?_;clear r R)
  refine aw_cond (by simp only[go_sem, e1]<;>rfl) (fun hb1 => ?_) (fun hb1 => ?_)
  · have hin : i < o.length := by have := of_decide_eq_true hb1; omega
    rw [oscan_step hin] at hs
    repeat first|apply wa1|apply wa2|apply wa3|apply wa4|apply wa5 rfl|apply wa6|apply wa7|(refine wb1 rfl fun R r=>?_;simp only[go_sem, e1];with_reducible refine r _ _ ?_;clear r R)
    by_cases hx0 : o.getD i 0 < 0
    · have e2 : decide (o.getD i 0 < 0) = true := decide_eq_true hx0
      repeat first|apply wa1|apply wa2|apply wa3|apply wa4|apply wa5 rfl|apply wa6|apply wa7|(refine wb1 rfl fun R r=>?_;simp only[go_sem, e1, e2];with_reducible refine r _ _ ?_;clear r R)
      refine aw_condT (by simp only[go_sem, e1, e2]<;>rfl) ?_
      repeat first|apply wa1|apply wa2|apply wa3|apply wa4|apply wa5 rfl|apply wa6|apply wa7|(refine wb1 rfl fun R r=>?_;simp only[go_sem, e1, e2];with_reducible refine r _ _ ?_;clear r R)
      (refine aw_retq hC rfl fun R r=>?_;simp only[go_sem, e1, e2];refine r _ rfl ?_;clear r R)
      rw [if_pos (.inl hx0)] at hs
      exact .one (.c (ler_errN hs (by omega)))
    have e2 : decide (o.getD i 0 < 0) = false := decide_eq_false hx0
    repeat first|apply wa1|apply wa2|apply wa3|apply wa4|apply wa5 rfl|apply wa6|apply wa7|(refine wb1 rfl fun R r=>?_;simp only[go_sem, e1, e2];with_reducible refine r _ _ ?_;clear r R)
    refine aw_cond (by simp only[go_sem, e1, e2]<;>rfl) (fun hx1 => ?_) (fun hx1 => ?_)
    · have hx1' := of_decide_eq_true hx1
      repeat first|apply wa1|apply wa2|apply wa3|apply wa4|apply wa5 rfl|apply wa6|apply wa7|(refine wb1 rfl fun R r=>?_;simp only[go_sem, e1, e2];with_reducible refine r _ _ ?_;clear r R)
      (refine aw_retq hC rfl fun R r=>?_;simp only[go_sem, e1, e2];refine r _ rfl ?_;clear r R)
      rw [if_pos (.inr hx1')] at hs
      exact .one (.c (ler_errN hs (by omega)))
    have hx1' : ¬ vars ≤ o.getD i 0 := of_decide_eq_false hx1
    rw [if_neg (by omega)] at hs
    have hzi := hz (o.getD i 0).toNat (by omega)
    rw [show (((o.getD i 0).toNat : Nat) : Int) = o.getD i 0 from by omega] at hzi
    repeat first|apply wa1|apply wa2|apply wa3|apply wa4|apply wa5 rfl|apply wa6|apply wa7|(refine wb1 rfl fun R r=>?_;simp only[go_sem, e1, e2];with_reducible refine r _ _ ?_;clear r R)
    refine aw_cond (by simp only[go_sem, e1, e2]<;>rfl) (fun ht => ?_) (fun ht => ?_)
    · rw [ht] at hzi
      have hm := of_decide_eq_true hzi.symm
      repeat first|apply wa1|apply wa2|apply wa3|apply wa4|apply wa5 rfl|apply wa6|apply wa7|(refine wb1 rfl fun R r=>?_;simp only[go_sem, e1, e2];with_reducible refine r _ _ ?_;clear r R)
      (refine aw_retq hC rfl fun R r=>?_;simp only[go_sem, e1, e2];refine r _ rfl ?_;clear r R)
      rw [if_pos hm] at hs
      exact .one (.c (ler_errN hs (by omega)))
    · rw [ht] at hzi
      have hm := of_decide_eq_false hzi.symm
      rw [if_neg hm] at hs
      repeat first|apply wa1|apply wa2|apply wa3|apply wa4|apply wa5 rfl|apply wa6|apply wa7|(refine wb1 rfl fun R r=>?_;simp only[go_sem, e1, e2];with_reducible refine r _ _ ?_;clear r R)
      refine aw_store rfl rfl rfl rfl (by simp only[go_sem, e1, e2]<;>rfl) (by simp only[go_sem, e1, e2]<;>rfl) (by simp only[go_sem, e1, e2]<;>rfl) (by simp only[go_sem, e1, e2]<;>rfl) (fun _ e => by cases e) (by rfl) (by rfl) (by first|omega|simp) rfl ?_
      (try simp only[go_sem, e1, e2])
      rw [updF_bs (by omega)]
      repeat first|apply wa1|apply wa2|apply wa3|apply wa4|apply wa5 rfl|apply wa6|apply wa7|(refine wb1 rfl fun R r=>?_;simp only[go_sem, e1, e2];with_reducible refine r _ _ ?_;clear r R)
      refine aw_stop ⟨(i + 1, zs.set (o.getD i 0).toNat true), by dsimp only; omega, (by simp only[go_sem, e1, e2]<;>and_intros<;>first|exact True.intro|(with_reducible rfl)|exact c_int (by omega)|rfl), (List.Sublist.refl _), by dsimp only; omega, hs, by simpa using hzl, fun j hj => ?_⟩
      dsimp only
      rw [List.take_succ_eq_append_getElem hin, List.getD_eq_getElem?_getD]
      by_cases hje : j = (o.getD i 0).toNat
      · subst hje
        rw [List.getElem?_set_self (by omega)]
        have : (((o.getD i 0).toNat : Nat) : Int) ∈ o.take i ++ [o[i]] := by
          rw [← getDZ hin, show (((o.getD i 0).toNat : Nat) : Int) = o.getD i 0 from by omega]; simp
        exact (decide_eq_true this).symm
      · rw [List.getElem?_set_ne (fun e => hje e.symm), ← List.getD_eq_getElem?_getD, hz j hj]
        have : ((j : Int) ∈ o.take i ++ [o[i]]) ↔ (j : Int) ∈ o.take i := by
          rw [← getDZ hin]
          simp only [List.mem_append, List.mem_singleton]
          exact ⟨fun h => h.resolve_right (by omega), .inl⟩
        simp only [this]
  · have hin : i = o.length := by have := of_decide_eq_false hb1; omega
    subst hin
    repeat first|apply wa1|apply wa2|apply wa3|apply wa4|apply wa5 rfl|apply wa6|apply wa7|(refine wb1 rfl fun R r=>?_;simp only[go_sem, e1];with_reducible refine r _ _ ?_;clear r R)
    (refine aw_retq hC rfl fun R r=>?_;simp only[go_sem, e1];refine r _ rfl ?_;clear r R)
    exact .one (.c (ler_err0 (by rw [← hs, List.drop_length]; rfl)))
set_option maxHeartbeats 800000 in
theorem places_fa (o : List Int) (ho : Perm0 o) (hl : o.length ≤ 24) : Fa Try.prog 90 [.c (is false o)] (.c (is true (placesL o))) := by
  refine fa_of_body Try.func90 rfl rfl (by simp [Try.ntmps90]) fun C hC => ?_
  simp only [initS, Nat.reduceAdd]
  repeat first|apply wa1|apply wa2|apply wa3|apply wa4|apply wa5 rfl|apply wa6|apply wa7|(refine wb1 rfl fun R r=>?_;simp only[go_sem];with_reducible refine r _ _ ?_;clear r R)
  refine aw_make (n := o.length) (c := o.length) (size := 1) (z := [.int .i64 0]) rfl rfl rfl (by simp only[go_sem]<;>rfl) (by simp only[go_sem]<;>rfl) rfl (by omega) (by simp only[go_sem]<;>rfl) (by simp only[go_sem]<;>rfl) rfl rfl (by omega) (by omega) (by omega) fun g hg => ?_
  rw [make_is o.length]
  (try simp only[go_sem])
  repeat first|apply wa1|apply wa2|apply wa3|apply wa4|apply wa5 rfl|apply wa6|apply wa7|(refine wb1 rfl fun R r=>?_;simp only[go_sem];with_reducible refine r _ _ ?_;clear r R)
  refine aw_lp (fun x : Nat × List Int => [(3, .c (.osl g 1 0 o.length)), (9, .c (is false o)), (10, .c (.int .i64 o.length)), (11, .c (.int .i64 x.1))]) (fun x => [(g, .cells 3 o.length (isF x.2))])
    (fun x => x.1 ≤ o.length ∧ x.2.length = o.length ∧ ∀ k, k < x.1 → x.2.getD (o.getD k 0).toNat 0 = k) (fun x => o.length - x.1) (0, List.replicate o.length 0) (by simp only[go_sem]<;>and_intros<;>first|exact True.intro|(with_reducible rfl)|exact c_int (by omega)|rfl) (List.Sublist.refl _) ⟨Nat.zero_le _, by simp, fun k hk => by omega⟩ ?_
  rintro ⟨i, zs⟩ ⟨hi, hzl, hz⟩
  dsimp only at hi hzl hz ⊢
  repeat first|apply wa1|apply wa2|apply wa3|apply wa4|apply wa5 rfl|apply wa6|apply wa7|(refine wb1 rfl fun R r=>?_;simp only[go_sem];with_reducible refine r _ _ ?_;clear r R)
  refine aw_cond (by simp only[go_sem]<;>rfl) (fun hb1 => ?_) (fun hb1 => ?_)
  · have hin : i < o.length := by have := of_decide_eq_true hb1; omega
    have hr := ho.range (o.getD i 0) (by rw [getDZ hin]; exact List.getElem_mem hin)
    repeat first|apply wa1|apply wa2|apply wa3|apply wa4|apply wa5 rfl|apply wa6|apply wa7|(refine wb1 rfl fun R r=>?_;simp only[go_sem];with_reducible refine r _ _ ?_;clear r R)
    refine aw_store rfl rfl rfl rfl (by simp only[go_sem]<;>rfl) (by simp only[go_sem]<;>rfl) (by simp only[go_sem]<;>rfl) (by simp only[go_sem]<;>rfl) (fun _ e => by cases e) (by rfl) (by rfl) (by first|omega|simp) rfl ?_
    (try simp only[go_sem])
    rw [updF_is (by omega)]
    repeat first|apply wa1|apply wa2|apply wa3|apply wa4|apply wa5 rfl|apply wa6|apply wa7|(refine wb1 rfl fun R r=>?_;simp only[go_sem];with_reducible refine r _ _ ?_;clear r R)
    refine aw_stop ⟨(i + 1, zs.set (o.getD i 0).toNat i), by dsimp only; omega, (by simp only[go_sem]<;>and_intros<;>first|exact True.intro|(with_reducible rfl)|exact c_int (by omega)|rfl), (List.Sublist.refl _), by dsimp only; omega, by simpa using hzl, fun k hk => ?_⟩
    dsimp only at hk ⊢
    rw [List.getD_eq_getElem?_getD]
    by_cases hki : k = i
    · subst hki
      rw [List.getElem?_set_self (by omega)]; rfl
    · have hrk := ho.range (o.getD k 0) (by rw [getDZ (by omega)]; exact List.getElem_mem _)
      rw [List.getElem?_set_ne, ← List.getD_eq_getElem?_getD, hz k (by omega)]
      intro e
      have e2 : o.getD i 0 = o.getD k 0 := by omega
      have p1 := place_get ho.nodup hin
      have p2 := place_get ho.nodup (show k < o.length from by omega)
      rw [e2, p2] at p1
      omega
  · have hin : i = o.length := by have := of_decide_eq_false hb1; omega
    subst hin
    repeat first|apply wa1|apply wa2|apply wa3|apply wa4|apply wa5 rfl|apply wa6|apply wa7|(refine wb1 rfl fun R r=>?_;simp only[go_sem];with_reducible refine r _ _ ?_;clear r R)
    (refine aw_retq hC rfl fun R r=>?_;simp only[go_sem];refine r _ rfl ?_;clear r R)
    rw [← places_end ho hzl hz]
    exact .one (.c (ler_oslis (by simp only[go_sem]<;>rfl) hzl.symm))
set_option maxHeartbeats 800000 in
theorem positions_fa (o : List Int) (hl : o.length ≤ 1099511627776) : Fa Try.prog 68 [.c (is false o)] (.tup [.c (is true (if ocode o o.length = 0 then placesL o else [])), .c (errA (ocode o o.length))]) := by
  refine fa_of_body Try.func68 rfl rfl (by simp [Try.ntmps68]) fun C hC => ?_
  simp only [initS, Nat.reduceAdd]
  repeat first|apply wa1|apply wa2|apply wa3|apply wa4|apply wa5 rfl|apply wa6|apply wa7|(refine wb1 rfl fun R r=>?_;simp only[go_sem];with_reducible refine r _ _ ?_;clear r R)
  refine aw_callq (ocheck_fa o o.length hl) rfl rfl rfl (by first|exact True.intro|simp only[go_sem]<;>and_intros<;>first|exact True.intro|exact .c (.refl _)|exact .c wl2|exact .agg (lel_refl _)|exact .agg (by simp only[LeL];and_intros<;>first|exact True.intro|exact .refl _|exact wl2)|exact .c .nils) ?_
  (try simp only[go_sem])
  repeat first|apply wa1|apply wa2|apply wa3|apply wa4|apply wa5 rfl|apply wa6|apply wa7|(refine wb1 rfl fun R r=>?_;simp only[go_sem];with_reducible refine r _ _ ?_;clear r R)
  refine aw_cond (by simp only[go_sem]<;>rfl) (fun hb => ?_) (fun hb => ?_)
  · have hne : ocode o o.length ≠ 0 := by simpa using hb
    repeat first|apply wa1|apply wa2|apply wa3|apply wa4|apply wa5 rfl|apply wa6|apply wa7|(refine wb1 rfl fun R r=>?_;simp only[go_sem];with_reducible refine r _ _ ?_;clear r R)
    (refine aw_retq hC rfl fun R r=>?_;simp only[go_sem];refine r _ rfl ?_;clear r R)
    rw [if_neg hne]
    exact .tup ⟨.c .nils, .c ler_err, trivial⟩
  · have he : ocode o o.length = 0 := by simpa using hb
    obtain ⟨h1, h2⟩ := ocode_ok he
    repeat first|apply wa1|apply wa2|apply wa3|apply wa4|apply wa5 rfl|apply wa6|apply wa7|(refine wb1 rfl fun R r=>?_;simp only[go_sem];with_reducible refine r _ _ ?_;clear r R)
    refine aw_callq (places_fa o h1 h2) rfl rfl rfl (by first|exact True.intro|simp only[go_sem]<;>and_intros<;>first|exact True.intro|exact .c (.refl _)|exact .c wl2|exact .agg (lel_refl _)|exact .agg (by simp only[LeL];and_intros<;>first|exact True.intro|exact .refl _|exact wl2)|exact .c .nils) ?_
    (try simp only[go_sem])
    repeat first|apply wa1|apply wa2|apply wa3|apply wa4|apply wa5 rfl|apply wa6|apply wa7|(refine wb1 rfl fun R r=>?_;simp only[go_sem];with_reducible refine r _ _ ?_;clear r R)
    (refine aw_retq hC rfl fun R r=>?_;simp only[go_sem];refine r _ rfl ?_;clear r R)
    rw [if_pos he]
    exact .tup ⟨.c ler_is, .c (ler_err0 he), trivial⟩
end Go.Proofs.Ytmkomfdiggcloaa
