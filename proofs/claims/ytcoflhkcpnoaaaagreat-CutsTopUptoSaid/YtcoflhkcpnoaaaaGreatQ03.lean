/- Blocks of one proof, laid one behind the other by a program (merge2.py). -/
import Derived.Test.YtcoflhkcpnoaaaaGreatQ01
set_option linter.unusedSimpArgs false
set_option linter.unusedVariables false
namespace Go.PN
open Go.AI Go.Proofs.YtcoflhkcpnoaaaaGreat
theorem mask_lt {x : Nat} (h : x < 16777216) : maskB (x : Int) = true := by
  unfold maskB
  rw [decide_eq_true (show (x : Int) ≥ 0 by omega), decide_eq_true (show (x : Int) < 16777216 by omega)]
  rfl
theorem zL_back (l : List Nat) : (zL l).map Int.toNat = l := by
  unfold zL
  rw [List.map_map]
  conv => rhs; rw [← List.map_id l]
  exact List.map_congr_left fun x _ => rfl
theorem fails_is {l : List Nat} {s : Nat} (hl : l.length ≤ 1024) (hm : ∀ x ∈ l, x < 16777216) (hs : s < 16777216) : fcodeL (zL l) (s : Int) = 0 ∧ failsV (zL l) (s : Int) = failsB l s := by
  have h0 : fcodeL (zL l) (s : Int) = 0 := fcode_ok (by rw [zL_len]; exact hl) fun x hx => by
    rcases List.mem_cons.1 hx with h | h
    · subst h; exact mask_lt hs
    · obtain ⟨y, hy, rfl⟩ := List.mem_map.1 h
      exact mask_lt (hm y hy)
  refine ⟨h0, ?_⟩
  unfold failsV
  rw [if_pos h0, zL_back]
  rfl
theorem fails_val {f : FM} {l : List Nat} (ok : FrOk f) (hc : cohTo f f.nodes.length = true) (hl : CutL (fun s => valF f s f.top) l) (s : Nat) : failsB l s = valF f s f.top := by
  rw [Bool.eq_iff_iff]
  unfold failsB
  rw [List.any_eq_true]
  constructor
  · rintro ⟨t, ht, hts⟩
    exact coh_mono ok hc (subT_iff.1 hts) ((hl.2 t).1 ht).1
  · intro h
    obtain ⟨t, ht, hm⟩ := min_ex (f := fun s => valF f s f.top) s h
    exact ⟨t, (hl.2 t).2 hm, subT_iff.2 ht⟩
end Go.PN
namespace Go.Proofs.YtcoflhkcpnoaaaaGreat
open Go.AI Go.PN
attribute [local irreducible] aw Fa Fh DrK
set_option maxRecDepth 100000 in
set_option maxHeartbeats 6400000 in
theorem lawCTop_fa (f : FM) (o : List Int) (u : Int) (hn : f.nodes.length ≤ 1099511627776) (ha : ArgsOk f) (ht0 : -9223372036854775808 ≤ f.top) (ht : f.top ≤ 9223372036854775807) (hol : o.length ≤ 1099511627776) :
    Fa Tryz.prog 9 [.agg (fmc false f), .c (is false o), .c (.int .i64 u)] (.c (.bool true)) := by
  refine fa_of_body Tryz.func9 rfl rfl (by simp [Tryz.ntmps9]) fun C hC => ?_
  simp only [initS, Nat.reduceAdd]
  refine xG ?_
  refine xB fun g3 hn_g3=>?_
  refine yG hn_g3 ?_
  refine yC hn_g3 (awake33_fa) ?_
  refine yG hn_g3 ?_
  refine yC hn_g3 (valid33_fa f o hn ha ht0 ht hol) ?_
  cases hv : valid33 f o
  · refine yS hn_g3 ?_
    refine yG hn_g3 ?_
    refine yP hn_g3 ?_
    refine yG hn_g3 ?_
    refine yC hn_g3 (awake33_fa) ?_
    refine yG hn_g3 ?_
    refine yT hC hn_g3 ?_
    exact .one (.c (.bool _))
  obtain ⟨h100, hk, h10⟩ := valid_of hv
  have ok := fr_ok hk.c
  have v0 := ok.v0
  have n128 := ok.n128
  have e0 := shl_one f.vars.toNat (by omega)
  rw [show ((f.vars.toNat : Nat) : Int) = f.vars from by omega] at e0
  refine yS hn_g3 ?_
  refine yG hn_g3 ?_
  by_cases k0 : u < 0
  · have e1 : decide (u < 0) = true := decide_eq_true k0
    refine yS (oj hn_g3 e1) ?_
    refine yG (oj hn_g3 e1) ?_
    refine yP (oj hn_g3 e1) ?_
    refine yG (oj hn_g3 e1) ?_
    refine yC (oj hn_g3 e1) (awake33_fa) ?_
    refine yG (oj hn_g3 e1) ?_
    refine yT hC (oj hn_g3 e1) ?_
    exact .one (.c (.bool _))
  have e1 : decide (u < 0) = false := decide_eq_false k0
  refine yS (oj hn_g3 (oj e0 e1)) ?_
  refine yG (oj hn_g3 (oj e0 e1)) ?_
  by_cases k1 : u ≥ ((2 ^ f.vars.toNat : Nat) : Int)
  · have e2 : decide (u ≥ ((2 ^ f.vars.toNat : Nat) : Int)) = true := decide_eq_true k1
    refine yS (oj hn_g3 (oj e0 (oj e1 e2))) ?_
    refine yG (oj hn_g3 (oj e0 (oj e1 e2))) ?_
    refine yP (oj hn_g3 (oj e0 (oj e1 e2))) ?_
    refine yG (oj hn_g3 (oj e0 (oj e1 e2))) ?_
    refine yC (oj hn_g3 (oj e0 (oj e1 e2))) (awake33_fa) ?_
    refine yG (oj hn_g3 (oj e0 (oj e1 e2))) ?_
    refine yT hC (oj hn_g3 (oj e0 (oj e1 e2))) ?_
    exact .one (.c (.bool _))
  have e2 : decide (u ≥ ((2 ^ f.vars.toNat : Nat) : Int)) = false := decide_eq_false k1
  obtain ⟨s, rfl⟩ : ∃ s : Nat, u = s := ⟨u.toNat, by omega⟩
  have hs : s < 2 ^ f.vars.toNat := by omega
  refine yS (oj hn_g3 (oj e0 (oj e1 e2))) ?_
  refine yG (oj hn_g3 (oj e0 (oj e1 e2))) ?_
  refine yN (oj hn_g3 (oj e0 (oj e1 e2))) ?_
  refine yG (oj hn_g3 (oj e0 (oj e1 e2))) ?_
  refine aw_callh (hc := []) (hr := [(g3, .cells 50 3 (ofL (fmc false f)))]) (Cuts_fh f o hk h10 hn ha) rfl rfl rfl (.refl _) (zL (oj hn_g3 (oj e0 (oj e1 e2)))) ?_
  rintro _ _ ⟨rfl, l, hcl, hll, hlt, rfl⟩ _
  obtain ⟨fc, fv⟩ := fails_is (s := s) hll (fun x hx => lt24 (by omega) (hlt x hx)) (lt24 (n := f.vars.toNat) (by omega) hs)
  have hcf := cFails_fa (zL l) (s : Int) (by rw [zL_len]; omega)
  rw [fv, fails_val ok hk.coh hcl s] at hcf
  have z0 := ieq_t fc
  have qe : (valF f s f.top == valF f s f.top) = true := by simp
  refine yS (oj hn_g3 (oj e0 (oj e1 (oj e2 (oj z0 qe))))) ?_
  refine yG (oj hn_g3 (oj e0 (oj e1 (oj e2 (oj z0 qe))))) ?_
  refine yC (oj hn_g3 (oj e0 (oj e1 (oj e2 (oj z0 qe))))) (hcf) ?_
  refine yG (oj hn_g3 (oj e0 (oj e1 (oj e2 (oj z0 qe))))) ?_
  refine yC (oj hn_g3 (oj e0 (oj e1 (oj e2 (oj z0 qe))))) (fval_fa f s hn ha hk.c hs) ?_
  refine yG (oj hn_g3 (oj e0 (oj e1 (oj e2 (oj z0 qe))))) ?_
  refine yT hC (oj hn_g3 (oj e0 (oj e1 (oj e2 (oj z0 qe))))) ?_
  exact .one (.c (.bool _))
end Go.Proofs.YtcoflhkcpnoaaaaGreat
