/- Blocks of one proof, laid one behind the other by a program (merge2.py). -/
import Derived.Test.YtcoflhkcpnoaaaaGreatDoorM29
import Derived.Test.YtcoflhkcpnoaaaaGreatDoorM31
set_option linter.unusedSimpArgs false
set_option linter.unusedVariables false
namespace Go.Proofs.YtcoflhkcpnoaaaaGreatDoor
open Go.AI Go.PN
theorem rd_prob {q : Rat} (h0 : 0 ≤ q) (h1 : q ≤ 1) : (rd q).prob = true := by
  unfold RD.prob
  rw [rd_q, decide_eq_true h0, decide_eq_true h1, rd_valid]
  rfl
end Go.Proofs.YtcoflhkcpnoaaaaGreatDoor
namespace Go.Proofs.YtcoflhkcpnoaaaaGreatDoor
open Go.AI Go.PN
attribute [local irreducible] aw Fa Fh DrK
theorem is_fa (c d : Int) (hd : d ≠ 0) : Fa Tryz.prog 22 [.c (errA c), .c (.int .i64 d)] (.c (.bool (decide (c = d)))) := by
  by_cases h : c = 0
  · have e : errA c = .nilI := by unfold errA errC; rw [if_pos h]
    rw [e, decide_eq_false (by omega)]
    refine fa_of_body Tryz.func22 rfl rfl (by simp [Tryz.ntmps22]) fun C hC => ?_
    simp only [initS, Nat.reduceAdd]
    refine xG ?_
    refine xT hC ?_
    exact .one (.c (.bool _))
  · have e : errA c = .ifc 53 (.int .i64 c) := by unfold errA errC; rw [if_neg h]
    rw [e]
    refine fa_of_body Tryz.func22 rfl rfl (by simp [Tryz.ntmps22]) fun C hC => ?_
    simp only [initS, Nat.reduceAdd]
    refine xG ?_
    refine xT hC ?_
    exact .one (.c (ler_bool (by by_cases e : c = d <;> simp [e])))
end Go.Proofs.YtcoflhkcpnoaaaaGreatDoor
namespace Go.Proofs.YtcoflhkcpnoaaaaGreatDoor
open Go.AI Go.PN
attribute [local irreducible] aw Fa Fh DrK
noncomputable def topP (f : FM) (p : List RD) : Rat := sumQ p (formTo f (2 ^ f.vars.toNat)) (2 ^ p.length)
theorem topP_fits {f : FM} {p : List RD} (h6 : p.length ≤ 6) (hw : ∀ r ∈ p, r.wf 16) : fits (topP f p) 14000 := by
  have := fits_sum (ps := p) (tb := formTo f (2 ^ f.vars.toNat)) (L := 16) (by omega) hw (2 ^ p.length)
  refine fits_mono this ?_
  have h2 : 2 ^ p.length ≤ 64 := by
    have : 2 ^ p.length ≤ 2 ^ 6 := Nat.pow_le_pow_right (by omega) h6
    omega
  have h3 : ((2 * 16 + 2) * p.length + 2) * 2 ^ p.length ≤ 206 * 64 := Nat.mul_le_mul (by omega) h2
  omega
theorem topP_ex {f : FM} {p : List RD} (hl : f.vars.toNat = p.length) : topP f p = exQ (prP p) p.length (fun t => evB (valF f t f.top)) := by
  unfold topP
  rw [sumQ_ex]
  refine ex_congr _ _ _ fun t ht => ?_
  rw [form_range, List.getD_eq_getElem?_getD, List.getElem?_map, List.getElem?_range (by rw [hl]; exact ht)]
  rfl
theorem topP_fa {f : FM} {p : List RD} (hn : f.nodes.length ≤ 1099511627776) (ha : ArgsOk f) (hc : fcode f = 0) (h6 : f.vars ≤ 6) (hl : (p.length : Int) = f.vars) (hw : ∀ r ∈ p, r.wf 16) (hp : ∀ r ∈ p, r.prob = true) : Fa Tryz.prog 17 [.agg (fmc false f), .c (rats false p)] (.tup [.agg (rdc (rd (topP f p))), .c .nilI]) := by
  refine fa_of_fh ?_ (stop_fh f p hn ha hc h6 hw (pcode_mk hl hp) hl) ?_
  · exact ⟨tags_rd _, trivial, trivial⟩
  · rintro y hh ⟨rfl, D, hD, hDl, rfl⟩
    refine ⟨rfl, ?_⟩
    rw [form_tab hD (by omega)]
    rfl
end Go.Proofs.YtcoflhkcpnoaaaaGreatDoor
namespace Go.PN
open Go.AI
def inL (s : List SD) (at' : List Nat) (k : Nat) : List RD := (List.range k).map fun i => rd (inQ (s.getD i sd0) (at'.getD i 0))
theorem inL_len (s : List SD) (a : List Nat) (k : Nat) : (inL s a k).length = k := by simp [inL]
theorem inL_succ (s : List SD) (a : List Nat) (k : Nat) : inL s a (k + 1) = inL s a k ++ [rd (inQ (s.getD k sd0) (a.getD k 0))] := by simp [inL, List.range_succ]
theorem inL_get {s : List SD} {a : List Nat} {k i : Nat} (h : i < k) : (inL s a k).getD i rd0 = rd (inQ (s.getD i sd0) (a.getD i 0)) := by
  unfold inL; rw [List.getD_eq_getElem?_getD, List.getElem?_map, List.getElem?_range h]; rfl
end Go.PN
namespace Go.Proofs.YtcoflhkcpnoaaaaGreatDoor
open Go.AI Go.PN
attribute [local irreducible] aw Fa Fh DrK
theorem inL_ok {f : FM} {s : List SD} (ok : UOk f s) (h4 : ∀ y ∈ s, y.wf 4) {a : List Nat} (hb : ∀ b ∈ a, b ≤ 255) : ∀ r ∈ inL s a s.length, r.wf 16 ∧ r.prob = true := fun r hr => by
  obtain ⟨i, hi, rfl⟩ := List.mem_map.1 hr
  have hi' := List.mem_range.1 hi
  have hk := getD_byte hb i
  obtain ⟨e1, e2, e3⟩ := ok_ends (ok.getOk hi').1
  obtain ⟨i1, i2⟩ := in_ends e2 hk
  exact ⟨rd_wf (in_fits hk (swf_get h4 hi')), rd_prob (by grind) (by grind)⟩
theorem inL_box {f : FM} {s : List SD} (ok : UOk f s) {a : List Nat} (hb : ∀ b ∈ a, b ≤ 255) : vloQ f s ≤ topP f (inL s a s.length) ∧ topP f (inL s a s.length) ≤ vhiQ f s := by
  have hl := ok.len
  rw [topP_ex (by rw [inL_len]; omega), inL_len]
  refine in_box ok fun i hi => ?_
  have hk := getD_byte hb i
  obtain ⟨e1, e2, e3⟩ := ok_ends (ok.getOk hi).1
  unfold prP
  rw [inL_get hi, rd_q]
  exact in_ends e2 hk
set_option maxRecDepth 100000 in
set_option maxHeartbeats 6400000 in
theorem lawContains_fa (f : FM) (s : List SD) (a : List Nat) (hby : ∀ b ∈ a, b ≤ 255) (hal : a.length ≤ 1099511627776) (hw : SWordsOk s) (hlw : SLensOk s) (hl : s.length ≤ 1099511627776) (hn : f.nodes.length ≤ 1099511627776) (ha : ArgsOk f) (ht0 : -9223372036854775808 ≤ f.top) (ht : f.top ≤ 9223372036854775807) :
    Fa Tryz.prog 4 [.agg (fmc false f), .c (sps false s), .c (u8s false a)] (.c (.bool true)) := by
  have haw := awake44_fa
  refine fa_of_body Tryz.func4 rfl rfl (by simp [Tryz.ntmps4]) fun C hC => ?_
  simp only [initS, Nat.reduceAdd]
  refine xG ?_
  refine xB fun g3 hn_g3=>?_
  refine yG hn_g3 ?_
  refine yC hn_g3 (haw) ?_
  refine yG hn_g3 ?_
  refine yC hn_g3 (heavy_fa f s hn ha hl hlw) ?_
  refine yG hn_g3 ?_
  cases hv : heavyB f s
  rotate_left
  · refine yG hn_g3 ?_
    refine yP hn_g3 ?_
    refine yG hn_g3 ?_
    refine yC hn_g3 (haw) ?_
    refine yG hn_g3 ?_
    refine yT hC hn_g3 ?_
    exact .one (.c (.bool _))
  obtain ⟨hw4', hv6⟩ := light hw hv
  have hw4 : ∀ y ∈ s, y.wf 16 := fun y hy => ⟨wf_mono (hw4' y hy).1 (by omega), wf_mono (hw4' y hy).2 (by omega)⟩
  refine yG hn_g3 ?_
  refine yC hn_g3 (ready_fa f s hn ha ht0 ht (fun y hy => ⟨wf_mono (hw4 y hy).1 ?_, wf_mono (hw4 y hy).2 ?_⟩) hl) ?_
  · omega
  · omega
  refine yG hn_g3 ?_
  cases hr : decide (ucode f s = 0)
  · refine yG hn_g3 ?_
    refine yP hn_g3 ?_
    refine yG hn_g3 ?_
    refine yC hn_g3 (haw) ?_
    refine yG hn_g3 ?_
    refine yT hC hn_g3 ?_
    exact .one (.c (.bool _))
  have hr' : ucode f s = 0 := by simpa using hr
  have ok := uok_of hn ha hw4 hv6 hr'
  have hlen := ok.len
  have h6 := ok.v6
  refine yG hn_g3 ?_
  refine yF hn_g3 (fun h30=>?_) fun h30=>?_
  · refine yG hn_g3 ?_
    refine yC hn_g3 (haw) ?_
    refine yG hn_g3 ?_
    refine yT hC hn_g3 ?_
    exact .one (.c (.bool _))
  refine yG hn_g3 ?_
  refine aw_lp (fun x : Option Nat × Nat => [(1, .c (sps false s)), (2, .c (u8s false a)), (3, .c (.optr g3 0)), (7, .c (gs x.1 3 x.2)), (38, .c (sps false s)), (39, .c (.int .i64 s.length)), (40, .c (.int .i64 x.2))]) (fun x => (g3, .cells 24 3 (ofL (fmc false f))) :: gh x.1 30 (x.2 * 3) (ratsF (inL s a x.2)))
    (fun x => x.2 ≤ s.length ∧ (x.1 = none → x.2 = 0)) (fun x => s.length - x.2) (none, 0) (zB hn_g3) zZ ⟨Nat.zero_le _, fun _ => rfl⟩ ?_
  rintro ⟨og, k⟩ ⟨hk, hog⟩
  dsimp only at hk hog ⊢
  refine yG hn_g3 ?_
  refine yF hn_g3 (fun h2=>?_) fun h2=>?_
  · have h2' : k < s.length := by have := of_decide_eq_true h2; omega
    have e1 := inL_succ s a k
    have hy := swf_get hw4' h2'
    have hkb := getD_byte hby k
    refine yG hn_g3 ?_
    refine yA hn_g3 fun g9 hn_g9=>?_
    generalize s.getD k sd0 = y at *
    refine yG (oj hn_g3 hn_g9) ?_
    refine yW (oj hn_g3 hn_g9) ?_
    refine yS (oj hn_g3 hn_g9) ?_
    refine aw_conv1 (f' := ofL (spc y)) (fun j hj => by match j, hj with | 0, _ => rfl | 1, _ => rfl | 2, _ => rfl | 3, _ => rfl | 4, _ => rfl | 5, _ => rfl) ?_
    have hin := in_fa y (a.getD k 0) hkb hy
    refine yG (oj hn_g3 hn_g9) ?_
    refine yF (oj hn_g3 hn_g9) (fun hlt=>?_) fun hlt=>?_
    · have hlt' : k < a.length := by have := of_decide_eq_true hlt; omega
      refine yG (oj hn_g3 hn_g9) ?_
      refine yC (oj hn_g3 hn_g9) (hin) ?_
      refine yG (oj hn_g3 hn_g9) ?_
      refine aw_push (pre := [(g9, .cells 32 6 (ofL (spc y))), (g3, .cells 24 3 (ofL (fmc false f)))]) rfl rfl rfl rfl rfl rfl rfl (zE (oj hn_g3 hn_g9)) (zE (oj hn_g3 hn_g9)) (by rfl) (by omega) (by omega) (zE (oj hn_g3 hn_g9)) (by omega) (by exact hog) (zE (oj hn_g3 hn_g9)) (by rfl) (by rfl) (by first | rfl | simp only [Nat.mul_one, List.nil_append, List.cons_append] <;> rfl) (by unfold maxLen; omega) (by omega) (by exact rats_push (inL_len s a k) _) fun g hn_g => ?_
      replace hn_g := Heap.ne_of hn_g
      first | dsimp only [Heap.ne, gh] at hn_g | dsimp only [Heap.ne] at hn_g | skip
      refine yS (oj hn_g3 (oj hn_g9 hn_g)) ?_
      refine yG (oj hn_g3 (oj hn_g9 hn_g)) ?_
      rw [← e1]
      exact aw_stop ⟨(some g, k + 1), by dsimp only; omega, (zB (oj hn_g3 (oj hn_g9 hn_g))), .cons _ (.refl _), by dsimp only; omega, some_ne⟩
    · have hge : a.length ≤ k := by have := of_decide_eq_false hlt; omega
      have e0 : a.getD k 0 = 0 := by rw [List.getD_eq_getElem?_getD, List.getElem?_eq_none hge]; rfl
      rw [e0] at hin e1
      have hin' : Fa Tryz.prog 16 [.agg (spc y), .c (.int .u8 0)] (.agg (rdc (rd (inQ y 0)))) := hin
      refine yG (oj hn_g3 hn_g9) ?_
      refine yC (oj hn_g3 hn_g9) (hin') ?_
      refine yG (oj hn_g3 hn_g9) ?_
      refine aw_push (pre := [(g9, .cells 32 6 (ofL (spc y))), (g3, .cells 24 3 (ofL (fmc false f)))]) rfl rfl rfl rfl rfl rfl rfl (zE (oj hn_g3 hn_g9)) (zE (oj hn_g3 hn_g9)) (by rfl) (by omega) (by omega) (zE (oj hn_g3 hn_g9)) (by omega) (by exact hog) (zE (oj hn_g3 hn_g9)) (by rfl) (by rfl) (by first | rfl | simp only [Nat.mul_one, List.nil_append, List.cons_append] <;> rfl) (by unfold maxLen; omega) (by omega) (by exact rats_push (inL_len s a k) _) fun g hn_g => ?_
      replace hn_g := Heap.ne_of hn_g
      first | dsimp only [Heap.ne, gh] at hn_g | dsimp only [Heap.ne] at hn_g | skip
      refine yS (oj hn_g3 (oj hn_g9 hn_g)) ?_
      refine yG (oj hn_g3 (oj hn_g9 hn_g)) ?_
      rw [← e1]
      exact aw_stop ⟨(some g, k + 1), by dsimp only; omega, (zB (oj hn_g3 (oj hn_g9 hn_g))), .cons _ (.refl _), by dsimp only; omega, some_ne⟩
  have h2' : k = s.length := by have := of_decide_eq_false h2; omega
  subst h2'
  refine aw_perm (h' := gh og 30 (s.length * 3) (ratsF (inL s a s.length)) ++ [(g3, .cells 24 3 (ofL (fmc false f)))]) (List.perm_append_comm (l₁ := [_])) ?_
  refine aw_frzGT (t := 7) (f' := ratsF (inL s a s.length)) hog (inL_len s a s.length).symm (zE hn_g3) (fun g _ => hC g) (fun _ _ => rfl) rfl ?_
  refine yS hn_g3 ?_
  have hpl := inL_len s a s.length
  have hpo := inL_ok ok hw4' hby
  obtain ⟨bx1, bx2⟩ := inL_box ok hby
  generalize inL s a s.length = p at *
  have tp := topP_fa (f := f) (p := p) hn ha ok.fc h6 (by omega) (fun r hr => (hpo r hr).1) (fun r hr => (hpo r hr).2)
  have ft := topP_fits (f := f) (p := p) (by omega) (fun r hr => (hpo r hr).1)
  generalize topP f p = V at *
  have um := uvert_fa f s hn ha ht0 ht hw4 hl hv6
  rw [uvS_ok hr', hr', show errA 0 = CV.nilI from rfl] at um
  have uo := umono_fa f s hn ha ht0 ht hw4 hl hv6
  have fl := vlo_fits ok
  have fh := vhi_fits ok
  have hcv := contains_v bx1 bx2
  have hce := coh_ends ok
  have hcn : cohTo f f.nodes.length = false → umonC f s = 7 := fun h => by unfold umonC; rw [if_neg (by simp [hr']), if_neg (by simp [h])]
  have hvl := rd_validS (vlo_le f s)
  obtain ⟨y1, y2⟩ := umonS_wf (f := f) (s := s) (fun _ => ok)
  generalize vloQ f s = A at *
  generalize vhiQ f s = B at *
  have vd := spvalid_fa ⟨rd A, rd B⟩ ⟨wf_mono (rd_wf fl) (by omega), wf_mono (rd_wf fh) (by omega)⟩
  rw [hvl] at vd
  have ct := spcontains_fa ⟨rd A, rd B⟩ (rd V) ⟨wf_mono (rd_wf fl) (by omega), wf_mono (rd_wf fh) (by omega)⟩ (wf_mono (rd_wf ft) (by omega))
  rw [rd_q, hcv] at ct
  have tx := sptext_fa ⟨rd A, rd B⟩ ⟨wf_mono (rd_wf fl) (by omega), wf_mono (rd_wf fh) (by omega)⟩
  refine yG hn_g3 ?_
  refine yC hn_g3 (tp) ?_
  refine yG hn_g3 ?_
  refine yA hn_g3 fun g11 hn_g11=>?_
  refine yG (oj hn_g3 hn_g11) ?_
  refine yW (oj hn_g3 hn_g11) ?_
  refine yS (oj hn_g3 hn_g11) ?_
  refine yG (oj hn_g3 hn_g11) ?_
  refine yC (oj hn_g3 hn_g11) (um) ?_
  refine yG (oj hn_g3 hn_g11) ?_
  refine yA (oj hn_g3 hn_g11) fun g13 hn_g13=>?_
  refine yG (oj hn_g3 (oj hn_g11 hn_g13)) ?_
  refine yW (oj hn_g3 (oj hn_g11 hn_g13)) ?_
  refine yS (oj hn_g3 (oj hn_g11 hn_g13)) ?_
  refine aw_conv1 (f' := ofL (spc ⟨rd A, rd B⟩)) (fun j hj => by match j, hj with | 0, _ => rfl | 1, _ => rfl | 2, _ => rfl | 3, _ => rfl | 4, _ => rfl | 5, _ => rfl) ?_
  refine yG (oj hn_g3 (oj hn_g11 hn_g13)) ?_
  refine yC (oj hn_g3 (oj hn_g11 hn_g13)) (vd) ?_
  refine yG (oj hn_g3 (oj hn_g11 hn_g13)) ?_
  refine yC (oj hn_g3 (oj hn_g11 hn_g13)) (ct) ?_
  refine yG (oj hn_g3 (oj hn_g11 hn_g13)) ?_
  refine yN (oj hn_g3 (oj hn_g11 hn_g13)) ?_
  refine yG (oj hn_g3 (oj hn_g11 hn_g13)) ?_
  refine yC (oj hn_g3 (oj hn_g11 hn_g13)) (csyntax_fa f hn ha ok.fc) ?_
  refine yG (oj hn_g3 (oj hn_g11 hn_g13)) ?_
  refine yC (oj hn_g3 (oj hn_g11 hn_g13)) (uo) ?_
  refine yG (oj hn_g3 (oj hn_g11 hn_g13)) ?_
  refine yA (oj hn_g3 (oj hn_g11 hn_g13)) fun g17 hn_g17=>?_
  refine yG (oj hn_g3 (oj hn_g11 (oj hn_g13 hn_g17))) ?_
  refine yW (oj hn_g3 (oj hn_g11 (oj hn_g13 hn_g17))) ?_
  refine yS (oj hn_g3 (oj hn_g11 (oj hn_g13 hn_g17))) ?_
  refine aw_conv1 (f' := ofL (spc (umonS f s))) (fun j hj => by match j, hj with | 0, _ => rfl | 1, _ => rfl | 2, _ => rfl | 3, _ => rfl | 4, _ => rfl | 5, _ => rfl) ?_
  refine yG (oj hn_g3 (oj hn_g11 (oj hn_g13 hn_g17))) ?_
  refine yN (oj hn_g3 (oj hn_g11 (oj hn_g13 hn_g17))) ?_
  refine yG (oj hn_g3 (oj hn_g11 (oj hn_g13 hn_g17))) ?_
  cases hco : cohTo f f.nodes.length
  · have ia := is_fa 7 7 (by decide)
    rw [decide_eq_true rfl] at ia
    rw [hcn hco]
    refine yG (oj hn_g3 (oj hn_g11 (oj hn_g13 hn_g17))) ?_
    refine yP (oj hn_g3 (oj hn_g11 (oj hn_g13 hn_g17))) ?_
    refine yG (oj hn_g3 (oj hn_g11 (oj hn_g13 hn_g17))) ?_
    refine yC (oj hn_g3 (oj hn_g11 (oj hn_g13 hn_g17))) (ia) ?_
    refine yG (oj hn_g3 (oj hn_g11 (oj hn_g13 hn_g17))) ?_
    refine yT hC (oj hn_g3 (oj hn_g11 (oj hn_g13 hn_g17))) ?_
    exact .one (.c (.bool _))
  obtain ⟨c1, c2⟩ := hce hco
  rw [c1, c2, show errA 0 = CV.nilI from rfl]
  refine yG (oj hn_g3 (oj hn_g11 (oj hn_g13 hn_g17))) ?_
  refine yN (oj hn_g3 (oj hn_g11 (oj hn_g13 hn_g17))) ?_
  refine yG (oj hn_g3 (oj hn_g11 (oj hn_g13 hn_g17))) ?_
  refine aw_dr 14 ty_mixed (by kernel_rfl) ?_
  refine yG (oj hn_g3 (oj hn_g11 (oj hn_g13 hn_g17))) ?_
  refine yD (oj hn_g3 (oj hn_g11 (oj hn_g13 hn_g17))) (ct) ?_
  refine yG (oj hn_g3 (oj hn_g11 (oj hn_g13 hn_g17))) ?_
  refine yD (oj hn_g3 (oj hn_g11 (oj hn_g13 hn_g17))) (tx) ?_
  refine yG (oj hn_g3 (oj hn_g11 (oj hn_g13 hn_g17))) ?_
  refine yD (oj hn_g3 (oj hn_g11 (oj hn_g13 hn_g17))) (tx) ?_
  refine yG (oj hn_g3 (oj hn_g11 (oj hn_g13 hn_g17))) ?_
  refine yT hC (oj hn_g3 (oj hn_g11 (oj hn_g13 hn_g17))) ?_
  exact .one (.c (ler_bool (strEq_self _)))
end Go.Proofs.YtcoflhkcpnoaaaaGreatDoor
