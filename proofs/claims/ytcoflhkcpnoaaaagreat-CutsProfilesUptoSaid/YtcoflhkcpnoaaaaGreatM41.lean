/- Blocks of one proof, laid one behind the other by a program (merge2.py). -/
import Derived.Test.YtcoflhkcpnoaaaaGreatM32
import Derived.Test.YtcoflhkcpnoaaaaGreatM33
import Derived.Test.YtcoflhkcpnoaaaaGreatM35
set_option linter.unusedSimpArgs false
set_option linter.unusedVariables false
namespace Go.Proofs.YtcoflhkcpnoaaaaGreat
open Go.AI Go.PN
attribute [local irreducible] aw Fa Fh DrK
set_option maxHeartbeats 800000 in
theorem hasR_fa (l : List Int) (n : Int) (hl : l.length ≤ 1099511627776) : Fa Tryz.prog 36 [.c (is false l), .c (.int .i64 n)] (.c (.bool (decide (n ∈ l)))) := by
  refine fa_of_body Tryz.func36 rfl rfl (by simp [Tryz.ntmps36]) fun C hC => ?_
  simp only [initS, Nat.reduceAdd]
  refine xG ?_
  refine xC (place_fa l n hl) ?_
  refine xG ?_
  refine xT hC ?_
  refine .one (.c (ler_bool ?_))
  unfold placeZ
  by_cases h : n ∈ l
  · rw [if_pos h, decide_eq_true h]; exact decide_eq_true (by omega)
  · rw [if_neg h, decide_eq_false h]; rfl
end Go.Proofs.YtcoflhkcpnoaaaaGreat
namespace Go.PN
open Go.AI Go.Proofs.YtcoflhkcpnoaaaaGreat
def ctA (l : List Nat) (i : Nat) : Nat := l.countP fun s => decide (popN s < i)
def ctB (l : List Nat) (k : Int) (i : Nat) : Nat := l.countP fun s => decide (popN s < i) && decide ((popN s : Int) ≤ k)
theorem ctA_succ (l : List Nat) (i : Nat) : ctA l (i + 1) = ctA l i + cntJ l i := by
  unfold ctA cntJ
  induction l with
  | nil => rfl
  | cons x l ih =>
    rw [List.countP_cons, List.countP_cons, List.countP_cons, ih]
    by_cases h1 : popN x < i
    · rw [decide_eq_true h1, decide_eq_true (show popN x < i + 1 by omega), show (popN x == i) = false from by simp; omega]; simp; omega
    · by_cases h2 : popN x = i
      · rw [decide_eq_false h1, decide_eq_true (show popN x < i + 1 by omega), show (popN x == i) = true from by simpa using h2]; simp; omega
      · rw [decide_eq_false h1, decide_eq_false (show ¬ popN x < i + 1 by omega), show (popN x == i) = false from by simpa using h2]; simp
theorem ctB_succ (l : List Nat) (k : Int) (i : Nat) : ctB l k (i + 1) = if (i : Int) ≤ k then ctB l k i + cntJ l i else ctB l k i := by
  unfold ctB cntJ
  induction l with
  | nil => simp
  | cons x l ih =>
    rw [List.countP_cons, List.countP_cons, List.countP_cons, ih]
    by_cases h1 : popN x < i
    · rw [decide_eq_true h1, decide_eq_true (show popN x < i + 1 by omega), show (popN x == i) = false from by simp; omega]
      split <;> simp <;> omega
    · by_cases h2 : popN x = i
      · rw [decide_eq_false h1, decide_eq_true (show popN x < i + 1 by omega), show (popN x == i) = true from by simpa using h2, h2]
        split
        · rename_i hk
          rw [decide_eq_true hk]; simp; omega
        · rename_i hk
          rw [decide_eq_false hk]; simp
      · rw [decide_eq_false h1, decide_eq_false (show ¬ popN x < i + 1 by omega), show (popN x == i) = false from by simpa using h2]
        split <;> simp
theorem ctA_le (l : List Nat) (i : Nat) : ctA l i ≤ l.length := List.countP_le_length
theorem ctB_le (l : List Nat) (k : Int) (i : Nat) : ctB l k i ≤ l.length := List.countP_le_length
theorem ctA_end {l : List Nat} {n : Nat} (h : ∀ s ∈ l, popN s ≤ n) : ctA l (n + 1) = l.length := by
  unfold ctA
  rw [List.countP_eq_length]
  exact fun s hs => decide_eq_true (by have := h s hs; omega)
theorem ctB_end {l : List Nat} {n : Nat} {k : Int} (h : ∀ s ∈ l, popN s ≤ n) : ctB l k (n + 1) = (upToN l k).length := by
  unfold ctB upToN
  rw [← List.countP_eq_length_filter]
  refine List.countP_congr fun s hs => ?_
  rw [decide_eq_true (show popN s < n + 1 by have := h s hs; omega), Bool.true_and]
end Go.PN
namespace Go.Proofs.YtcoflhkcpnoaaaaGreat
open Go.AI Go.PN
attribute [local irreducible] aw Fa Fh DrK
set_option maxRecDepth 100000 in
set_option maxHeartbeats 6400000 in
theorem lawCProfiles_fa (f : FM) (o : List Int) (k : Int) (hn : f.nodes.length ≤ 1099511627776) (ha : ArgsOk f) (ht0 : -9223372036854775808 ≤ f.top) (ht : f.top ≤ 9223372036854775807) (hol : o.length ≤ 1099511627776) :
    Fa Tryz.prog 7 [.agg (fmc false f), .c (is false o), .c (.int .i64 k)] (.c (.bool true)) := by
  refine fa_of_body Tryz.func7 rfl rfl (by simp [Tryz.ntmps7]) fun C hC => ?_
  simp only [initS, Nat.reduceAdd]
  refine xG ?_
  refine xB fun g3 hn_g3=>?_
  refine yG hn_g3 ?_
  refine yC hn_g3 (awake33_fa) ?_
  refine yG hn_g3 ?_
  refine yC hn_g3 (valid33_fa f o hn ha ht0 ht hol) ?_
  cases hv : valid33 f o
  · refine yS hn_g3 ?_
    refine yG hn_g3 ?_
    refine yP hn_g3 ?_
    refine yG hn_g3 ?_
    refine yC hn_g3 (awake33_fa) ?_
    refine yG hn_g3 ?_
    refine yT hC hn_g3 ?_
    exact .one (.c (.bool _))
  obtain ⟨h100, hk, h10⟩ := valid_of hv
  have ok := fr_ok hk.c
  have v0 := ok.v0
  have n128 := ok.n128
  refine yS hn_g3 ?_
  refine yG hn_g3 ?_
  by_cases k0 : k < 0
  · have e1 : decide (k < 0) = true := decide_eq_true k0
    refine yS (oj hn_g3 e1) ?_
    refine yG (oj hn_g3 e1) ?_
    refine yP (oj hn_g3 e1) ?_
    refine yG (oj hn_g3 e1) ?_
    refine yC (oj hn_g3 e1) (awake33_fa) ?_
    refine yG (oj hn_g3 e1) ?_
    refine yT hC (oj hn_g3 e1) ?_
    exact .one (.c (.bool _))
  have e1 : decide (k < 0) = false := decide_eq_false k0
  refine yS (oj hn_g3 e1) ?_
  refine yG (oj hn_g3 e1) ?_
  by_cases k1 : k > 24
  · have e2 : decide (k > 24) = true := decide_eq_true k1
    refine yS (oj hn_g3 (oj e1 e2)) ?_
    refine yG (oj hn_g3 (oj e1 e2)) ?_
    refine yP (oj hn_g3 (oj e1 e2)) ?_
    refine yG (oj hn_g3 (oj e1 e2)) ?_
    refine yC (oj hn_g3 (oj e1 e2)) (awake33_fa) ?_
    refine yG (oj hn_g3 (oj e1 e2)) ?_
    refine yT hC (oj hn_g3 (oj e1 e2)) ?_
    exact .one (.c (.bool _))
  have e2 : decide (k > 24) = false := decide_eq_false k1
  have ho2 := ocode_len hk.oc
  have hoo : ocode o o.length = 0 := by rw [ho2]; exact hk.oc
  refine yS (oj hn_g3 (oj e1 e2)) ?_
  refine yG (oj hn_g3 (oj e1 e2)) ?_
  refine yN (oj hn_g3 (oj e1 e2)) ?_
  refine yG (oj hn_g3 (oj e1 e2)) ?_
  refine aw_callh (hc := []) (hr := [(g3, .cells 50 3 (ofL (fmc false f)))]) (Cuts_fh f o hk h10 hn ha) rfl rfl rfl (.refl _) (zL (oj hn_g3 (oj e1 e2))) ?_
  rintro _ _ ⟨rfl, l, hcl, hll, hlt, rfl⟩ _
  refine yS (oj hn_g3 (oj e1 e2)) ?_
  refine yG (oj hn_g3 (oj e1 e2)) ?_
  refine aw_callh (hc := []) (hr := [(g3, .cells 50 3 (ofL (fmc false f)))]) (UpToC_fh f o k hk h10 hn ha) rfl rfl rfl (.refl _) (zL (oj hn_g3 (oj e1 e2))) ?_
  rintro _ _ ⟨rfl, ⟨hkr, rfl⟩ | ⟨_, _, m, hms, hmm, hml, hmt, rfl⟩⟩ _
  · omega
  have hup := upto_is hcl hms hmm
  refine yS (oj hn_g3 (oj e1 e2)) ?_
  refine yG (oj hn_g3 (oj e1 e2)) ?_
  refine aw_callh (hc := []) (hr := [(g3, .cells 50 3 (ofL (fmc false f)))]) (build_fh f hn ha hk.c o hoo (by omega) (by omega)) rfl rfl rfl (.refl _) (zL (oj hn_g3 (oj e1 e2))) ?_
  rintro _ _ ⟨rfl, D, hD, rfl⟩ _
  have hDl : D.order.length = f.vars.toNat := by rw [hD.order]; omega
  have hDf : (fun s => evalD D.nodes s D.root) = fun s => valF f s f.top := funext hD.ev
  refine yS (oj hn_g3 (oj e1 e2)) ?_
  refine yG (oj hn_g3 (oj e1 e2)) ?_
  refine yA (oj hn_g3 (oj e1 e2)) fun g11 hn_g11=>?_
  refine yG (oj hn_g3 (oj e1 (oj e2 hn_g11))) ?_
  refine yW (oj hn_g3 (oj e1 (oj e2 hn_g11))) ?_
  refine yS (oj hn_g3 (oj e1 (oj e2 hn_g11))) ?_
  refine yG (oj hn_g3 (oj e1 (oj e2 hn_g11))) ?_
  refine aw_callh (hc := []) (hr := [(g11, .cells 25 3 (ofL (dgc true D))), (g3, .cells 50 3 (ofL (fmc false f)))]) (Profile_fh D hD.code (by omega)) rfl rfl rfl (.refl _) (zL (oj hn_g3 (oj e1 (oj e2 hn_g11)))) ?_
  rintro _ _ ⟨rfl, hpf⟩ _
  rw [hDf, hDl] at hpf
  rcases hpf with ⟨hnm, rfl⟩ | ⟨hm, l', hcl', hl', hlt', rfl⟩
  · exact absurd (coh_monoF ok hk.coh _) hnm
  obtain rfl : l = l' := cut_same hcl hcl'
  have hpl := profN_len l f.vars.toNat
  have hpop : ∀ s ∈ l, popN s ≤ f.vars.toNat := fun s hs => pop_le (hlt s hs)
  have hA := ctA_end hpop
  have hB := ctB_end (k := k) hpop
  rw [hup] at hB
  have z3 : (((f.vars.toNat + 1 : Nat) : Int) != f.vars + 1) = false := by
    rw [show ((f.vars.toNat + 1 : Nat) : Int) = f.vars + 1 from by omega]; simp
  refine yS (oj hn_g3 (oj e1 (oj e2 (oj hn_g11 (oj hpl z3))))) ?_
  refine yG (oj hn_g3 (oj e1 (oj e2 (oj hn_g11 (oj hpl z3))))) ?_
  refine yN (oj hn_g3 (oj e1 (oj e2 (oj hn_g11 (oj hpl z3))))) ?_
  refine yG (oj hn_g3 (oj e1 (oj e2 (oj hn_g11 (oj hpl z3))))) ?_
  refine aw_lp (fun i : Nat => [(2, .c (.int .i64 k)), (7, .c (is true (zL l))), (9, .c (is true (zL m))), (13, .c (is true (profN l f.vars.toNat))), (15, .c (.int .i64 (ctA l i))), (16, .c (.int .i64 (ctB l k i))), (17, .c (.int .i64 i))]) (fun _ => []) (fun i => i ≤ f.vars.toNat + 1) (fun i => f.vars.toNat + 1 - i) 0 (by
    rw [show ctA l 0 = 0 from by unfold ctA; simp, show ctB l k 0 = 0 from by unfold ctB; simp]
    exact (zB (oj hn_g3 (oj e1 (oj e2 (oj hn_g11 (oj hpl z3))))))) (List.nil_sublist _) (Nat.zero_le _) ?_
  rintro i hi
  refine yG (oj hn_g3 (oj e1 (oj e2 (oj hn_g11 (oj hpl z3))))) ?_
  refine yF (oj hn_g3 (oj e1 (oj e2 (oj hn_g11 (oj hpl z3))))) (fun h1=>?_) fun h1=>?_
  · have hin : i < f.vars.toNat + 1 := by have := of_decide_eq_true h1; omega
    have e3 := profN_get (l := l) hin
    have ca := ctA_le l i
    have cb := ctB_le l k i
    have cj := cntJ_le l i
    have sA := ctA_succ l i
    have sB := ctB_succ l k i
    refine yG (oj hn_g3 (oj e1 (oj e2 (oj hn_g11 (oj hpl (oj z3 e3)))))) ?_
    refine yF (oj hn_g3 (oj e1 (oj e2 (oj hn_g11 (oj hpl (oj z3 e3)))))) (fun h2=>?_) fun h2=>?_
    · rw [if_pos (of_decide_eq_true h2)] at sB
      refine yG (oj hn_g3 (oj e1 (oj e2 (oj hn_g11 (oj hpl (oj z3 e3)))))) ?_
      exact aw_stop ⟨i + 1, by omega, by rw [sA, sB]; exact (zB (oj hn_g3 (oj e1 (oj e2 (oj hn_g11 (oj hpl (oj z3 e3))))))), List.nil_sublist _, by omega⟩
    · rw [if_neg (of_decide_eq_false h2)] at sB
      refine yG (oj hn_g3 (oj e1 (oj e2 (oj hn_g11 (oj hpl (oj z3 e3)))))) ?_
      exact aw_stop ⟨i + 1, by omega, by rw [sA, sB]; exact (zB (oj hn_g3 (oj e1 (oj e2 (oj hn_g11 (oj hpl (oj z3 e3))))))), List.nil_sublist _, by omega⟩
  · have hin : i = f.vars.toNat + 1 := by have := of_decide_eq_false h1; omega
    subst hin
    rw [hA, hB]
    have hzm := zL_len m
    have hzl := zL_len l
    refine yG (oj hn_g3 (oj e1 (oj e2 (oj hn_g11 (oj hpl (oj z3 (oj hzm hzl))))))) ?_
    refine aw_lp (fun i : Nat => [(2, .c (.int .i64 k)), (7, .c (is true (zL l))), (9, .c (is true (zL m))), (15, .c (.int .i64 l.length)), (16, .c (.int .i64 m.length)), (18, .c (.int .i64 i))]) (fun _ => []) (fun i => i ≤ m.length) (fun i => m.length - i) 0 (zB (oj hn_g3 (oj e1 (oj e2 (oj hn_g11 (oj hpl (oj z3 (oj hzm hzl)))))))) (List.nil_sublist _) (Nat.zero_le _) ?_
    rintro i hi
    refine yG (oj hn_g3 (oj e1 (oj e2 (oj hn_g11 (oj hpl (oj z3 (oj hzm hzl))))))) ?_
    refine yF (oj hn_g3 (oj e1 (oj e2 (oj hn_g11 (oj hpl (oj z3 (oj hzm hzl))))))) (fun h3=>?_) fun h3=>?_
    · have hin : i < m.length := by have := of_decide_eq_true h3; omega
      have hx : m.getD i 0 ∈ m := by rw [List.getD_eq_getElem?_getD, List.getElem?_eq_getElem hin]; exact List.getElem_mem _
      have hx2 := (hmm _).1 hx
      have hxl := (hcl.2 _).2 hx2.1
      have hh := hasR_fa (zL l) ((m.getD i 0 : Nat) : Int) (by rw [zL_len]; omega)
      rw [decide_eq_true (show ((m.getD i 0 : Nat) : Int) ∈ zL l from List.mem_map.2 ⟨_, hxl, rfl⟩)] at hh
      have hb := bitsR_fa (m.getD i 0) (lt24 (by omega) (hmt _ hx))
      have e4 := zL_get m i
      have e5 : decide ((popN (m.getD i 0) : Int) > k) = false := decide_eq_false (by have := hx2.2; omega)
      refine yG (oj hn_g3 (oj e1 (oj e2 (oj hn_g11 (oj hpl (oj z3 (oj hzm (oj hzl (oj e4 e5))))))))) ?_
      refine yC (oj hn_g3 (oj e1 (oj e2 (oj hn_g11 (oj hpl (oj z3 (oj hzm (oj hzl (oj e4 e5))))))))) (hh) ?_
      refine yG (oj hn_g3 (oj e1 (oj e2 (oj hn_g11 (oj hpl (oj z3 (oj hzm (oj hzl (oj e4 e5))))))))) ?_
      refine yC (oj hn_g3 (oj e1 (oj e2 (oj hn_g11 (oj hpl (oj z3 (oj hzm (oj hzl (oj e4 e5))))))))) (hb) ?_
      refine yG (oj hn_g3 (oj e1 (oj e2 (oj hn_g11 (oj hpl (oj z3 (oj hzm (oj hzl (oj e4 e5))))))))) ?_
      refine yN (oj hn_g3 (oj e1 (oj e2 (oj hn_g11 (oj hpl (oj z3 (oj hzm (oj hzl (oj e4 e5))))))))) ?_
      refine yG (oj hn_g3 (oj e1 (oj e2 (oj hn_g11 (oj hpl (oj z3 (oj hzm (oj hzl (oj e4 e5))))))))) ?_
      exact aw_stop ⟨i + 1, by omega, (zB (oj hn_g3 (oj e1 (oj e2 (oj hn_g11 (oj hpl (oj z3 (oj hzm (oj hzl (oj e4 e5)))))))))), List.nil_sublist _, by omega⟩
    · have hin : i = m.length := by have := of_decide_eq_false h3; omega
      subst hin
      have q1 : ((l.length : Int) == (l.length : Int)) = true := by simp
      have q2 : ((m.length : Int) == (m.length : Int)) = true := by simp
      refine yG (oj hn_g3 (oj e1 (oj e2 (oj hn_g11 (oj hpl (oj z3 (oj hzm (oj hzl (oj q1 q2))))))))) ?_
      refine yT hC (oj hn_g3 (oj e1 (oj e2 (oj hn_g11 (oj hpl (oj z3 (oj hzm (oj hzl (oj q1 q2))))))))) ?_
      exact .one (.c (.bool _))
end Go.Proofs.YtcoflhkcpnoaaaaGreat
