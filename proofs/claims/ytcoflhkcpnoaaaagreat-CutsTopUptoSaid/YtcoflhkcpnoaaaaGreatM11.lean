/- Blocks of one proof, laid one behind the other by a program (merge2.py). -/
import Derived.Test.YtcoflhkcpnoaaaaGreatM10
set_option linter.unusedSimpArgs false
set_option linter.unusedVariables false
namespace Go.PN
open Go.AI
abbrev DK := { l : List Int // l.length = 3 }
def dk (x : DN) : DK := ⟨[x.v, x.lo, x.hi], rfl⟩
def dkV (k : DK) : Value := keyZ k.1
theorem dk_inj {x y : DN} : dk x = dk y ↔ x = y := by
  cases x; cases y
  simp [dk]
def dkL (ns : List DN) : List (DK × Value) := ns.map fun x => (dk x, .bool true)
theorem dkL_get (x : DN) : ∀ ns : List DN, kvGet (dk x) (dkL ns) = if x ∈ ns then some (.bool true) else none
  | [] => rfl
  | y :: ns => by
    have ih := dkL_get x ns
    show (if dk x = dk y then some (Value.bool true) else kvGet (dk x) (dkL ns)) = _
    by_cases h : x = y
    · subst h; simp
    · rw [if_neg (fun e => h (dk_inj.1 e)), ih]; simp [h]
theorem dkL_cst (x : DN) (ns : List DN) : cstC ((kvGet (dk x) (dkL ns)).getD (.bool false)) = .bool (decide (x ∈ ns)) := by
  rw [dkL_get]
  by_cases h : x ∈ ns <;> simp [h, cstC]
theorem dkL_push (ns : List DN) (x : DN) : dkL (ns ++ [x]) = dkL ns ++ [(dk x, .bool true)] := by simp [dkL]
theorem dk_rep {x : DN} : ∀ (S : Bool → Nat → Prop) (w : World) (u : Value), Rep S w (.agg [.int .i64 x.v, .int .i64 x.lo, .int .i64 x.hi]) u → u = dkV (dk x) := by
  rintro S w u ⟨us, rfl, h⟩
  match us, h with
  | [a, b, c], ⟨h1, h2, h3, _⟩ =>
    have h1 : a = _ := h1
    have h2 : b = _ := h2
    have h3 : c = _ := h3
    rw [h1, h2, h3]; rfl
theorem takeDN_push {ns : List DN} {i : Nat} (h : i < ns.length) : ns.take (i + 1) = ns.take i ++ [ns.getD i dn0] := by
  rw [List.take_succ_eq_append_getElem h, getDN h]
end Go.PN
namespace Go.Proofs.YtcoflhkcpnoaaaaGreat
open Go.AI Go.PN
attribute [local irreducible] aw Fa Fh DrK
theorem ty_mz : tZ1 Tryz.prog 4 = some (.bool false) := by kernel_rfl
theorem ty_key : tEqS Tryz.prog 88 = some 3 := by kernel_rfl
theorem dk_ok : KeyOk Tryz.prog 88 dkV := keyZ_ok ty_key
set_option maxRecDepth 100000 in
set_option maxHeartbeats 3200000 in
theorem dcheck_fa (d : DG) (hl : d.order.length ≤ 1099511627776) (hl2 : d.nodes.length ≤ 1099511627776) : Fa Tryz.prog 77 [.agg (dgc false d)] (.c (errA (dcode d))) := by
  unfold dcode
  refine fa_of_body Tryz.func77 rfl rfl (by simp [Tryz.ntmps77]) fun C hC => ?_
  simp only [initS, Nat.reduceAdd]
  refine xG ?_
  refine xB fun g1 hn_g1=>?_
  refine yG hn_g1 ?_
  refine yC hn_g1 (positions_fa d.order hl) ?_
  refine yG hn_g1 ?_
  refine yF hn_g1 (fun hb=>?_) fun hb=>?_
  · have hb' : ocode d.order d.order.length ≠ 0 := by simpa using hb
    rw [if_pos hb']
    refine yG hn_g1 ?_
    refine yT hC hn_g1 ?_
    exact .one (.c ler_err)
  · have hb' : ocode d.order d.order.length = 0 := by simpa using hb
    obtain ⟨hperm, h24⟩ := ocode_ok hb'
    rw [if_neg (by simp [hb']), if_pos hb']
    refine yG hn_g1 ?_
    refine yF hn_g1 (fun hc=>?_) fun hc=>?_
    · have hc' := of_decide_eq_true hc
      rw [if_pos (by omega)]
      refine yG hn_g1 ?_
      refine yT hC hn_g1 ?_
      exact .one (.c (ler_errN rfl (by omega)))
    · have hc' := of_decide_eq_false hc
      rw [if_neg (by omega)]
      refine yG hn_g1 ?_
      refine aw_makeMap (Kf := dkV) rfl rfl rfl fun gm hn_gm => ?_
      replace hn_gm := Heap.ne_of hn_gm
      dsimp only [Heap.ne] at hn_gm
      refine yS (oj hn_g1 hn_gm) ?_
      refine yG (oj hn_g1 hn_gm) ?_
      refine aw_lp (fun i : Nat => [(1, .c (.optr g1 0)), (3, .c (is true (placesL d.order))), (5, .c (.raw (.map (some gm)))), (25, .c (dns false d.nodes)), (26, .c (.int .i64 d.nodes.length)), (27, .c (.int .i64 i))]) (fun i => [(gm, .gen (MapI dkV (dkL (d.nodes.take i)))), (g1, .cells 25 3 (ofL (dgc false d)))]) (fun x => x ≤ d.nodes.length ∧ (∀ j, j < x → ncode d j = 0) ∧ nfirst d x (d.nodes.length - x) = nfirst d 0 d.nodes.length) (fun x => d.nodes.length - x) 0 (zB (oj hn_g1 hn_gm)) zZ ⟨Nat.zero_le _, by omega, rfl⟩ ?_
      rintro i ⟨hi, hz, hf⟩
      refine yG (oj hn_g1 hn_gm) ?_
      refine yF (oj hn_g1 hn_gm) (fun h1=>?_) fun h1=>?_
      · have h1' : i < d.nodes.length := by have := of_decide_eq_true h1; omega
        have hno : ∀ j, j < i → NodeOk d.order.length j (d.nodes.getD j dn0) := fun j hj => by
          refine nok_of (d := d) (i := j) fun hr => ?_
          have := hz j hj
          unfold ncode at this
          rw [if_pos hr] at this
          cases this
        have hnA := ncode_A d i
        refine yG (oj hn_g1 hn_gm) ?_
        refine yA (oj hn_g1 hn_gm) fun g7 hn_g7=>?_
        refine yG (oj hn_g1 (oj hn_gm hn_g7)) ?_
        refine yW (oj hn_g1 (oj hn_gm hn_g7)) ?_
        refine yS (oj hn_g1 (oj hn_gm hn_g7)) ?_
        refine yG (oj hn_g1 (oj hn_gm hn_g7)) ?_
        refine yC (oj hn_g1 (oj hn_gm hn_g7)) (checkNode_fa d i h1' h24 ?_ hno) ?_
        · omega
        refine yG (oj hn_g1 (oj hn_gm hn_g7)) ?_
        refine yF (oj hn_g1 (oj hn_gm hn_g7)) (fun h2=>?_) fun h2=>?_
        · have h2' : ncodeA d i ≠ 0 := by simpa using h2
          rw [if_pos h2'] at hnA
          refine yG (oj hn_g1 (oj hn_gm hn_g7)) ?_
          refine yT hC (oj hn_g1 (oj hn_gm hn_g7)) ?_
          have h3 : ncode d i ≠ 0 := by rw [hnA]; exact h2'
          rw [nfirst_at h1' h3] at hf
          rw [← hf, if_pos h3, hnA]
          exact .one (.c ler_err)
        · have h2' : ncodeA d i = 0 := by simpa using h2
          rw [if_neg (by simp [h2'])] at hnA
          refine yG (oj hn_g1 (oj hn_gm hn_g7)) ?_
          refine aw_lookup (a := dk (d.nodes.getD i dn0)) (kv := dkL (d.nodes.take i)) (Kf := dkV) (z := .bool false) rfl rfl rfl (kt := 88) (et := 4) (by kernel_rfl) dk_ok ty_mz (zE (oj hn_g1 (oj hn_gm hn_g7))) (zE (oj hn_g1 (oj hn_gm hn_g7))) (zE (oj hn_g1 (oj hn_gm hn_g7))) dk_rep ?_
          rw [dkL_cst]
          refine yS (oj hn_g1 (oj hn_gm hn_g7)) ?_
          refine yG (oj hn_g1 (oj hn_gm hn_g7)) ?_
          refine yF (oj hn_g1 (oj hn_gm hn_g7)) (fun h3=>?_) fun h3=>?_
          · have h3' := of_decide_eq_true h3
            rw [if_pos h3'] at hnA
            refine yG (oj hn_g1 (oj hn_gm hn_g7)) ?_
            refine yT hC (oj hn_g1 (oj hn_gm hn_g7)) ?_
            have h4 : ncode d i ≠ 0 := by rw [hnA]; decide
            rw [nfirst_at h1' h4] at hf
            rw [← hf, if_pos h4, hnA]
            exact .one (.c (ler_errN rfl (by omega)))
          · have h3' := of_decide_eq_false h3
            rw [if_neg h3'] at hnA
            refine yG (oj hn_g1 (oj hn_gm hn_g7)) ?_
            refine aw_mapNew (a := dk (d.nodes.getD i dn0)) (kv := dkL (d.nodes.take i)) (Kf := dkV) (v := .bool true) rfl rfl rfl (kt := 88) (et := 4) (by kernel_rfl) dk_ok (zE (oj hn_g1 (oj hn_gm hn_g7))) (zE (oj hn_g1 (oj hn_gm hn_g7))) (zE (oj hn_g1 (oj hn_gm hn_g7))) dk_rep (cv := .c (.bool true)) (zE (oj hn_g1 (oj hn_gm hn_g7))) (fun S w u h => h) (by rw [dkL_get, if_neg h3']) (zE (oj hn_g1 (oj hn_gm hn_g7))) ?_
            rw [← dkL_push, ← takeDN_push h1']
            refine yS (oj hn_g1 (oj hn_gm hn_g7)) ?_
            refine yG (oj hn_g1 (oj hn_gm hn_g7)) ?_
            rw [nfirst_step h1' hnA] at hf
            refine aw_stop ⟨i + 1, by omega, (zB (oj hn_g1 (oj hn_gm hn_g7))), List.Sublist.cons _ (List.Sublist.refl _), by omega, fun j hj => ?_, hf⟩
            rcases Nat.lt_succ_iff_lt_or_eq.1 hj with h | h
            · exact hz j h
            · rw [h]; exact hnA
      · have h1' : i = d.nodes.length := by have := of_decide_eq_false h1; omega
        subst h1'
        have hns := nok_all hz
        rw [Nat.sub_self, nfirst] at hf
        rw [← hf, if_neg (by simp)]
        refine yG (oj hn_g1 hn_gm) ?_
        refine aw_split 50 (zE (oj hn_g1 hn_gm)) (fun h3 => ?_) (fun h3 => ?_) <;> refine yS (oj hn_g1 hn_gm) ?_
        · have h3' := of_decide_eq_true h3
          rw [if_pos (.inl h3')]
          refine yG (oj hn_g1 hn_gm) ?_
          refine yP (oj hn_g1 hn_gm) ?_
          refine yG (oj hn_g1 hn_gm) ?_
          refine yT hC (oj hn_g1 hn_gm) ?_
          exact .one (.c (ler_errN rfl (by omega)))
        · have h3' := of_decide_eq_false h3
          refine yG (oj hn_g1 hn_gm) ?_
          refine yF (oj hn_g1 hn_gm) (fun h4=>?_) fun h4=>?_
          · have h4' := of_decide_eq_true h4
            rw [if_pos (.inr h4')]
            refine yG (oj hn_g1 hn_gm) ?_
            refine yT hC (oj hn_g1 hn_gm) ?_
            exact .one (.c (ler_errN rfl (by omega)))
          · have h4' := of_decide_eq_false h4
            rw [if_neg (by omega)]
            refine yG (oj hn_g1 hn_gm) ?_
            refine yC (oj hn_g1 hn_gm) (numbered_fa d hns ?_ ?_ ?_) ?_
            · omega
            · omega
            · omega
            refine yG (oj hn_g1 hn_gm) ?_
            refine yF (oj hn_g1 hn_gm) (fun h5=>?_) fun h5=>?_
            · have h5' : ¬ (numF d.nodes d.root.toNat d.root [] = numsL d.nodes.length) := by simpa using h5
              rw [if_neg h5']
              refine yG (oj hn_g1 hn_gm) ?_
              refine yT hC (oj hn_g1 hn_gm) ?_
              exact .one (.c (ler_errN rfl (by omega)))
            · have h5' : numF d.nodes d.root.toNat d.root [] = numsL d.nodes.length := by simpa using h5
              rw [if_pos h5']
              refine yG (oj hn_g1 hn_gm) ?_
              refine yT hC (oj hn_g1 hn_gm) ?_
              exact .one (.c (ler_err0 rfl))
end Go.Proofs.YtcoflhkcpnoaaaaGreat
namespace Go.Proofs.YtcoflhkcpnoaaaaGreat
open Go.AI Go.PN
structure DgOk (d : DG) : Prop where
  perm : Perm0 d.order
  o24 : d.order.length ≤ 24
  n4096 : d.nodes.length ≤ 4096
  ns : NsOk d.order.length d.nodes
  beh : ∀ i, i < d.nodes.length → behindB d (d.nodes.getD i dn0).lo (d.nodes.getD i dn0).v = true ∧ behindB d (d.nodes.getD i dn0).hi (d.nodes.getD i dn0).v = true
  r0 : 0 ≤ d.root
  r1 : d.root < d.nodes.length + 2
theorem nfirst_zero {d : DG} : ∀ (k i : Nat), nfirst d i k = 0 → ∀ j, i ≤ j → j < i + k → ncode d j = 0
  | 0, i, _, j, h1, h2 => by omega
  | k + 1, i, h, j, h1, h2 => by
    rw [nfirst] at h
    split at h
    · rename_i hn; exact absurd h hn
    · rename_i hn
      rcases Nat.eq_or_lt_of_le h1 with e | e
      · rw [← e]; simpa using hn
      · exact nfirst_zero k (i + 1) h j (by omega) (by omega)
theorem dg_ok {d : DG} (h : dcode d = 0) : DgOk d := by
  unfold dcode at h
  split at h
  · rename_i h1; exact absurd h h1
  · rename_i h1
    split at h
    · cases h
    · rename_i h2
      split at h
      · rename_i h3; exact absurd h h3
      · rename_i h3
        split at h
        · cases h
        · rename_i h4
          obtain ⟨hp, h24⟩ := ocode_ok (by simpa using h1)
          have hz : ∀ j, j < d.nodes.length → ncode d j = 0 := fun j hj => nfirst_zero d.nodes.length 0 (by simpa using h3) j (by omega) (by omega)
          refine ⟨hp, h24, by omega, nok_all hz, fun i hi => ?_, by omega, by omega⟩
          have hc := hz i hi
          unfold ncode at hc
          split at hc
          · cases hc
          · split at hc
            · cases hc
            · split at hc
              · cases hc
              · rename_i hb
                simpa using hb
theorem behind_lt {d : DG} {r e : Int} (h : behindB d r e = true) (h2 : 2 ≤ r) : placeZ d.order e < placeZ d.order (d.nodes.getD (r - 2).toNat dn0).v := by
  unfold behindB at h
  rw [decide_eq_false (by omega), Bool.false_or] at h
  have := of_decide_eq_true h
  omega
theorem evalD_indep {d : DG} (ok : DgOk d) {s t : Nat} {P : Int} (hb : ∀ j : Nat, j < d.order.length → P < placeZ d.order j → s.testBit j = t.testBit j) : ∀ (n : Nat) (r : Int), r.toNat ≤ n → 0 ≤ r → r < d.nodes.length + 2 → (2 ≤ r → P < placeZ d.order (d.nodes.getD (r - 2).toNat dn0).v) → evalD d.nodes s r = evalD d.nodes t r := by
  intro n
  induction n with
  | zero => intro r hn h0 hr hP; rw [evalD_leaf (by omega), evalD_leaf (by omega)]
  | succ n ih =>
    intro r hn h0 hr hP
    by_cases h2 : 2 ≤ r
    · have hP' := hP h2
      obtain ⟨v0, v1, l0, l1, q0, q1⟩ := ok.ns (r - 2).toNat (by omega)
      obtain ⟨b1, b2⟩ := ok.beh (r - 2).toNat (by omega)
      have hkid : kid d.nodes s r = kid d.nodes t r := by
        unfold kid
        rw [hb (d.nodes.getD (r - 2).toNat dn0).v.toNat (by omega) (by rw [show (((d.nodes.getD (r - 2).toNat dn0).v.toNat : Nat) : Int) = (d.nodes.getD (r - 2).toNat dn0).v from by omega]; exact hP')]
      have hk := kid_lt ok.ns (s := t) h2 hr
      rw [evalD_step ok.ns h2 hr, evalD_step ok.ns h2 hr, hkid]
      refine ih _ (by omega) hk.1 (by omega) fun hk2 => ?_
      unfold kid at hk2 ⊢
      split at hk2
      · rename_i hbit
        rw [if_pos hbit]
        have := behind_lt b2 hk2
        omega
      · rename_i hbit
        rw [if_neg hbit]
        have := behind_lt b1 hk2
        omega
    · rw [evalD_leaf (by omega), evalD_leaf (by omega)]
def hgt (d : DG) (r : Int) : Nat := if r < 2 then 0 else (d.order.length - placeZ d.order (d.nodes.getD (r - 2).toNat dn0).v).toNat
theorem place_lt {o : List Int} {v : Int} : placeZ o v < o.length := by
  unfold placeZ
  split
  · rename_i h
    have := List.idxOf_lt_length_of_mem h
    omega
  · omega
end Go.Proofs.YtcoflhkcpnoaaaaGreat
namespace Go.Proofs.YtcoflhkcpnoaaaaGreat
open Go.AI Go.PN
attribute [local irreducible] aw Fa Fh DrK
structure Small (d : DG) (p : List RD) : Prop where
  w : ∀ r ∈ p, r.wf 4
  l : p.length ≤ 100
  o : d.order.length ≤ 100
  n : d.nodes.length ≤ 1099511627776
  o6 : dpcode d p = 0 → d.order.length ≤ 6
theorem Small.w5 {d : DG} {p : List RD} (h : Small d p) : ∀ r ∈ p, r.wf 500000000 := fun r hr => wf_mono (h.w r hr) (by omega)
end Go.Proofs.YtcoflhkcpnoaaaaGreat
namespace Go.Proofs.YtcoflhkcpnoaaaaGreat
open Go.AI Go.PN Go.ChangeShapes Go.WideShapes Go.RowKit
theorem glue_laid : laidOutB Tryz.prog = true := by kernel_rfl
theorem own : ownKnob Tryz.prog.godebug = none := by kernel_rfl
section
variable {H : Type} {enc : TypeId × Value → H} {P : Program}
theorem trodAll_stays (hl : laidOutB P = true) {W W' : World} {sp : Nat → Bool} : ∀ {ts : List TypeId} {vs : List Value} {ds : List (DataW H)} {p : List MemPlace}, (∀ t ∈ ts, P.readableRec t = true ∧ t < P.types.size) → DataW.TrodAll enc P W 0 (fun _ => true) true ts vs ds p → (∀ x ∈ p, W.sameAt W' x) → (∀ x ∈ p, sp x.block = true) → DataW.TrodAll enc P W' 0 sp true ts vs ds p
  | [], _, _, _, _, h, _, _ => by
    obtain ⟨rfl, rfl, rfl⟩ := trodAll_nil h
    exact rfl
  | t :: ts, _, _, _, hts, h, hs, hp => by
    obtain ⟨v, vs, d, ds, a, b, rfl, rfl, rfl, h1, h2⟩ := trodAll_cons h
    exact ⟨a, b, WideElems.Trod_stays hl (hts t (List.mem_cons_self ..)).1 (hts t (List.mem_cons_self ..)).2 h1 (fun x hx => hs x (List.mem_append_left _ hx)) (fun x hx => hp x (List.mem_append_left _ hx)),
      trodAll_stays hl (fun t' ht => hts t' (List.mem_cons_of_mem _ ht)) h2 (fun x hx => hs x (List.mem_append_right _ hx)) (fun x hx => hp x (List.mem_append_right _ hx)), rfl⟩
theorem post_of_below {fn : Func} {s : ChangeSpec} {W W' : World} {args : Array Value} {ds gs : List (DataW H)} {before : List MemPlace} {tb : TypeId} (hl : laidOutB P = true) (hts : ∀ t ∈ fn.params.toList, P.readableRec t = true ∧ t < P.types.size) (hrt : fn.resultTypes = #[tb]) (hbt : P.underlying tb = some .bool) (hvars : s.vars = [])
    (hW : DataW.Whole enc P fn.params.toList s.vars false W args.toList ds gs before) (hfn : ∀ gs' : List (DataW H), gs' = [] → s.fn H (ds ++ gs') = { results := [.lit (.bool true)], args := ds }) (hb : Below W.heap.size W W') : s.post enc P fn false true false false W args (.bool true) W' := by
  have hWk := hW
  obtain ⟨p, q, hA, hV, rfl, hfz, _⟩ := hW
  rw [hvars] at hV
  obtain ⟨rfl, rfl⟩ := trodVars_none hV
  have hlt : ∀ x ∈ p ++ [], x.block < W.heap.size := fun x hx => by simpa using hWk.lt x hx
  have hlt' : ∀ x ∈ p, x.block < W.heap.size := fun x hx => hlt x (List.mem_append_left _ hx)
  have hres : ∀ (b : Nat) (sp : Nat → Bool) (hd : Bool), DataW.TrodAll enc P W' b sp hd fn.resultTypes.toList ((Value.bool true).resultList fn.resultTypes.size) (s.fn H (ds ++ [])).results [] := fun b sp hd => by
    rw [hrt, hfn [] rfl]
    exact trodAll_cons_mk (shut_bool hbt _) trodAll_mk0
  have hargs : ∀ sp : Nat → Bool, (∀ x ∈ p, sp x.block = true) → DataW.TrodAll enc P W' 0 sp true fn.params.toList args.toList (s.fn H (ds ++ [])).args p := fun sp hsp => by
    rw [hfn [] rfl]
    exact trodAll_stays hl hts hA (fun x hx => hb.same (hlt' x hx)) hsp
  have hvr : ∀ sp : Nat → Bool, DataW.TrodVars enc P W' sp s.vars (s.fn H (ds ++ [])).vars [] := fun sp => by
    rw [hvars, hfn [] rfl]; exact rfl
  refine ⟨ds, [], p ++ [], [], p, [], hWk, hres _ _ _, hargs _ (fun x hx => by simpa using hlt' x hx), hvr _, hb.frame _, fun _ => ?_⟩
  refine ⟨ok_one hrt rfl (okWide_bool_mk hbt _), _, _, ([] ++ p) ++ [], ⟨[] ++ p, [], trodAll_append (hargs _ (fun _ _ => rfl)) (hres _ _ _), hvr _, rfl, ?_, fun h => by cases h⟩, ?_⟩
  · intro b off hp
    have hp' : MemPlace.cell b off ∈ p ++ [] := by simpa using hp
    rw [Below.frozen hb (hlt _ hp')]
    exact hfz b off hp'
  · intro x hx _
    simpa using hx
end
theorem rdr_ints : Rdr Tryz.prog 22 (fun xs : List Int => [is false xs]) (fun xs n => xs.length ≤ n ∧ ∀ x ∈ xs, (Lit.int .i64 x).wf = true) :=
  (rdr_slice (0 : Int) false Tryz.underlying22 (s := 1) (by kernel_rfl) (by omega) (fun _ _ _ h _ => h) (rdr_int Tryz.underlying3)).to id (fun ys => by
    show [CV.row false 1 ys.length _] = [CV.row false 1 ys.length _]
    congr 2
    funext j
    show _ = ofL [CV.int .i64 (ys.getD (j / 1) 0)] (j % 1)
    rw [Nat.div_one, Nat.mod_one]
    rfl) (fun _ _ h => h)
end Go.Proofs.YtcoflhkcpnoaaaaGreat
namespace Go.PN
open Go.AI
def ofB (f : FM) (vs : List Bool) (s : Nat) (a : Int) : Bool := if a < f.vars then s.testBit a.toNat else vs.getD (a - f.vars).toNat false
def cntB (f : FM) (vs : List Bool) (s : Nat) (az : List Int) : Nat := (az.filter fun a => ofB f vs s a).length
noncomputable def nodeB (f : FM) (vs : List Bool) (s : Nat) (x : FN) : Bool :=
  if x.kind == 0 then x.k == 1 else if x.kind == 1 then ((cntB f vs s x.args : Nat) : Int) == 0 else if x.kind == 2 then ((cntB f vs s x.args : Nat) : Int) == (x.args.length : Int)
  else if x.kind == 3 then decide (((cntB f vs s x.args : Nat) : Int) > 0) else if x.kind == 4 then decide (((cntB f vs s x.args : Nat) : Int) ≥ x.k) else remZ ((cntB f vs s x.args : Nat) : Int) 2 == 1
noncomputable def fvTo (f : FM) (s : Nat) : Nat → List Bool
  | 0 => List.replicate f.nodes.length false
  | k + 1 => (fvTo f s k).set k (nodeB f (fvTo f s k) s (f.nodes.getD k fn0))
theorem fvTo_len (f : FM) (s : Nat) : ∀ k, (fvTo f s k).length = f.nodes.length
  | 0 => by simp [fvTo]
  | k + 1 => by simp [fvTo, fvTo_len f s k]
structure FmOk (f : FM) : Prop where
  v0 : 0 ≤ f.vars
  v1 : f.vars ≤ 62
  n : f.nodes.length ≤ 1000000
  a : ∀ x ∈ f.nodes, x.args.length ≤ 1000000 ∧ ∀ y ∈ x.args, 0 ≤ y ∧ y < f.vars + f.nodes.length
  t0 : 0 ≤ f.top
  t1 : f.top < f.vars + f.nodes.length
theorem le_oslbs {h : Heap} {g n : Nat} {ty : TypeId} {ys : List Bool} (hg : h.get g = some (.cells ty n (bsF ys))) (hn : n = ys.length) : LeC h (.osl g 1 0 n) (bs false ys) := by
  subst hn
  exact .osl hg (by omega) (fun j _ => by rw [Nat.zero_add]; exact .refl _)
theorem ler_oslbs {h : Heap} {t : Bool} {g n : Nat} {ty : TypeId} {ys : List Bool} (hg : h.get g = some (.cells ty n (bsF ys))) (hn : n = ys.length) : LeR h (.osl g 1 0 n) (bs t ys) := by
  subst hn
  exact .osl hg (by omega) (fun j _ => by rw [Nat.zero_add]; exact .bool _)
theorem cnt_take {f : FM} {vs : List Bool} {s : Nat} {az : List Int} {j : Nat} (h : j < az.length) : cntB f vs s (az.take (j + 1)) = cntB f vs s (az.take j) + if ofB f vs s (az.getD j 0) then 1 else 0 := by
  unfold cntB
  rw [List.take_succ_eq_append_getElem h, List.filter_append, List.length_append, getDZ h]
  congr 1
  by_cases hb : ofB f vs s az[j] = true
  · simp [hb]
  · simp [hb]
theorem cnt_le {f : FM} {vs : List Bool} {s : Nat} {az : List Int} : cntB f vs s az ≤ az.length := List.length_filter_le _ _
theorem getFN {xs : List FN} {i : Nat} (h : i < xs.length) : xs.getD i fn0 = xs[i] := by
  rw [List.getD_eq_getElem?_getD, List.getElem?_eq_getElem h]; rfl
end Go.PN
namespace Go.Proofs.YtcoflhkcpnoaaaaGreat
open Go.AI Go.PN
attribute [local irreducible] aw Fa Fh DrK
set_option maxHeartbeats 800000 in
theorem fof_fa (f : FM) (hf : FmOk f) (vs : List Bool) (s : Nat) (a : Int) (hs : s < 9223372036854775808) (hv : vs.length = f.nodes.length) (h0 : 0 ≤ a) (h1 : a < f.vars + f.nodes.length) : Fa Tryz.prog 138 [.agg (fmc false f), .c (bs false vs), .c (.int .i64 s), .c (.int .i64 a)] (.c (.bool (ofB f vs s a))) := by
  have f1 := hf.v0
  have f2 := hf.v1
  have f3 := hf.n
  unfold ofB
  refine fa_of_body Tryz.func138 rfl rfl (by simp [Tryz.ntmps138]) fun C hC => ?_
  simp only [initS, Nat.reduceAdd]
  refine xG ?_
  refine xB fun g4 hn_g4=>?_
  refine yG hn_g4 ?_
  refine yF hn_g4 (fun hb=>?_) fun hb=>?_
  · have hb' := of_decide_eq_true hb
    obtain ⟨k, rfl⟩ : ∃ k : Nat, a = k := ⟨a.toNat, by omega⟩
    have b1 := shrZ_nat s k (by omega)
    have b2 := and_one_nat (s / 2 ^ k) (Nat.lt_of_le_of_lt (Nat.div_le_self _ _) hs)
    have b3 := bit_eq s k
    refine yG (oj hn_g4 (oj b1 (oj b2 b3))) ?_
    refine yT hC (oj hn_g4 (oj b1 (oj b2 b3))) ?_
    exact .one (.c (ler_bool (by rw [if_pos hb']; rfl)))
  · have hb' := of_decide_eq_false hb
    refine yG hn_g4 ?_
    refine yT hC hn_g4 ?_
    exact .one (.c (ler_bool (by rw [if_neg hb'])))
set_option maxRecDepth 100000 in
set_option maxHeartbeats 3200000 in
theorem fvalues_fa (f : FM) (hf : FmOk f) (s : Nat) (hs : s < 9223372036854775808) : Fa Tryz.prog 139 [.agg (fmc false f), .c (.int .i64 s)] (.c (bs true (fvTo f s f.nodes.length))) := by
  have f1 := hf.v0
  have f2 := hf.v1
  have f3 := hf.n
  refine fa_of_body Tryz.func139 rfl rfl (by simp [Tryz.ntmps139]) fun C hC => ?_
  simp only [initS, Nat.reduceAdd]
  refine xG ?_
  refine xB fun g2 hn_g2=>?_
  refine yG hn_g2 ?_
  refine aw_make (n := f.nodes.length) (c := f.nodes.length) (size := 1) (z := [.bool false]) rfl rfl rfl (zE hn_g2) (zE hn_g2) rfl (by omega) (zE hn_g2) (zE hn_g2) rfl rfl (by omega) (by omega) (by omega) fun g hn_g => ?_
  replace hn_g := Heap.ne_of hn_g
  dsimp only [Heap.ne] at hn_g
  rw [make_bs f.nodes.length]
  refine yS (oj hn_g2 hn_g) ?_
  refine yG (oj hn_g2 hn_g) ?_
  refine aw_lp (fun i : Nat => [(1, .c (.int .i64 s)), (2, .c (.optr g2 0)), (5, .c (.osl g 1 0 f.nodes.length)), (16, .c (fns false f.nodes)), (17, .c (.int .i64 f.nodes.length)), (18, .c (.int .i64 i))]) (fun i => [(g, .cells 4 f.nodes.length (bsF (fvTo f s i))), (g2, .cells 50 3 (ofL (fmc false f)))]) (fun i => i ≤ f.nodes.length) (fun i => f.nodes.length - i) 0 (zB (oj hn_g2 hn_g)) zZ (Nat.zero_le _) ?_
  rintro i hi
  have hvl := fvTo_len f s i
  refine yG (oj hn_g2 hn_g) ?_
  refine yF (oj hn_g2 hn_g) (fun h1=>?_) fun h1=>?_
  · have h1' : i < f.nodes.length := by have := of_decide_eq_true h1; omega
    obtain ⟨ha1, ha2⟩ := hf.a (f.nodes.getD i fn0) (by rw [getFN h1']; exact List.getElem_mem h1')
    refine yG (oj hn_g2 hn_g) ?_
    refine yA (oj hn_g2 hn_g) fun g7 hn_g7=>?_
    refine yG (oj hn_g2 (oj hn_g hn_g7)) ?_
    refine yW (oj hn_g2 (oj hn_g hn_g7)) ?_
    refine yS (oj hn_g2 (oj hn_g hn_g7)) ?_
    have hst : fvTo f s (i + 1) = (fvTo f s i).set i (nodeB f (fvTo f s i) s (f.nodes.getD i fn0)) := rfl
    generalize f.nodes.getD i fn0 = x at *
    generalize fvTo f s i = vs at *
    refine yG (oj hn_g2 (oj hn_g hn_g7)) ?_
    refine aw_lp (fun j : Nat => [(1, .c (.int .i64 s)), (2, .c (.optr g2 0)), (5, .c (.osl g 1 0 f.nodes.length)), (6, .c (.int .i64 i)), (7, .c (.optr g7 0)), (8, .c (.int .i64 (cntB f vs s (x.args.take j)))), (16, .c (fns false f.nodes)), (17, .c (.int .i64 f.nodes.length)), (18, .c (.int .i64 i)), (24, .c (is true x.args)), (25, .c (.int .i64 x.args.length)), (26, .c (.int .i64 j))]) (fun j => [(g7, .cells 101 3 (ofL [.int .i64 x.kind, .int .i64 x.k, is true x.args])), (g, .cells 4 f.nodes.length (bsF vs)), (g2, .cells 50 3 (ofL (fmc false f)))]) (fun j => j ≤ x.args.length) (fun j => x.args.length - j) 0 (zB (oj hn_g2 (oj hn_g hn_g7))) zZ (Nat.zero_le _) ?_
    rintro j hj
    have hc1 := cnt_le (f := f) (vs := vs) (s := s) (az := x.args.take j)
    rw [List.length_take] at hc1
    refine yG (oj hn_g2 (oj hn_g hn_g7)) ?_
    refine yF (oj hn_g2 (oj hn_g hn_g7)) (fun h2=>?_) fun h2=>?_
    · have h2' : j < x.args.length := by have := of_decide_eq_true h2; omega
      obtain ⟨y0, y1⟩ := ha2 (x.args.getD j 0) (by rw [getDZ h2']; exact List.getElem_mem h2')
      have hct := cnt_take (f := f) (vs := vs) (s := s) h2'
      refine yG (oj hn_g2 (oj hn_g hn_g7)) ?_
      refine aw_callq (fof_fa f hf vs s (x.args.getD j 0) hs hvl y0 y1) rfl rfl rfl (by refine yS (oj hn_g2 (oj hn_g hn_g7)) ?_; exact ⟨.agg (lel_refl _), .c (le_oslbs (zE (oj hn_g2 (oj hn_g hn_g7))) hvl.symm), .c (.refl _), .c (.refl _)⟩) ?_
      refine yS (oj hn_g2 (oj hn_g hn_g7)) ?_
      refine yG (oj hn_g2 (oj hn_g hn_g7)) ?_
      refine yF (oj hn_g2 (oj hn_g hn_g7)) (fun h3=>?_) fun h3=>?_
      · rw [h3, if_pos rfl] at hct
        refine yG (oj hn_g2 (oj hn_g hn_g7)) ?_
        exact aw_stop ⟨j + 1, by omega, (by rw [hct]; exact (zB (oj hn_g2 (oj hn_g hn_g7)))), zZ, by omega⟩
      · rw [h3, if_neg (by simp), Nat.add_zero] at hct
        refine yG (oj hn_g2 (oj hn_g hn_g7)) ?_
        exact aw_stop ⟨j + 1, by omega, (by rw [hct]; exact (zB (oj hn_g2 (oj hn_g hn_g7)))), zZ, by omega⟩
    · have h2' : j = x.args.length := by have := of_decide_eq_false h2; omega
      subst h2'
      rw [List.take_length]
      have hc2 := cnt_le (f := f) (vs := vs) (s := s) (az := x.args)
      refine yG (oj hn_g2 (oj hn_g hn_g7)) ?_
      refine yF (oj hn_g2 (oj hn_g hn_g7)) (fun k0=>?_) fun k0=>?_
      · refine yG (oj hn_g2 (oj hn_g hn_g7)) ?_
        refine yW (oj hn_g2 (oj hn_g hn_g7)) ?_
        refine yS (oj hn_g2 (oj hn_g hn_g7)) ?_
        rw [updF_bs (by omega)]
        refine yG (oj hn_g2 (oj hn_g hn_g7)) ?_
        exact aw_stop ⟨i + 1, by omega, (zB (oj hn_g2 (oj hn_g hn_g7))), List.Sublist.cons _ (by rw [hst, nodeB, if_pos k0]; exact zZ), by omega⟩
      · refine yG (oj hn_g2 (oj hn_g hn_g7)) ?_
        refine yF (oj hn_g2 (oj hn_g hn_g7)) (fun k1=>?_) fun k1=>?_
        · refine yG (oj hn_g2 (oj hn_g hn_g7)) ?_
          refine yW (oj hn_g2 (oj hn_g hn_g7)) ?_
          refine yS (oj hn_g2 (oj hn_g hn_g7)) ?_
          rw [updF_bs (by omega)]
          refine yG (oj hn_g2 (oj hn_g hn_g7)) ?_
          exact aw_stop ⟨i + 1, by omega, (zB (oj hn_g2 (oj hn_g hn_g7))), List.Sublist.cons _ (by rw [hst, nodeB, if_neg (by rw [k0]; simp), if_pos k1]; exact zZ), by omega⟩
        · refine yG (oj hn_g2 (oj hn_g hn_g7)) ?_
          refine yF (oj hn_g2 (oj hn_g hn_g7)) (fun k2=>?_) fun k2=>?_
          · refine yG (oj hn_g2 (oj hn_g hn_g7)) ?_
            refine yW (oj hn_g2 (oj hn_g hn_g7)) ?_
            refine yS (oj hn_g2 (oj hn_g hn_g7)) ?_
            rw [updF_bs (by omega)]
            refine yG (oj hn_g2 (oj hn_g hn_g7)) ?_
            exact aw_stop ⟨i + 1, by omega, (zB (oj hn_g2 (oj hn_g hn_g7))), List.Sublist.cons _ (by rw [hst, nodeB, if_neg (by rw [k0]; simp), if_neg (by rw [k1]; simp), if_pos k2]; exact zZ), by omega⟩
          · refine yG (oj hn_g2 (oj hn_g hn_g7)) ?_
            refine yF (oj hn_g2 (oj hn_g hn_g7)) (fun k3=>?_) fun k3=>?_
            · refine yG (oj hn_g2 (oj hn_g hn_g7)) ?_
              refine yW (oj hn_g2 (oj hn_g hn_g7)) ?_
              refine yS (oj hn_g2 (oj hn_g hn_g7)) ?_
              rw [updF_bs (by omega)]
              refine yG (oj hn_g2 (oj hn_g hn_g7)) ?_
              exact aw_stop ⟨i + 1, by omega, (zB (oj hn_g2 (oj hn_g hn_g7))), List.Sublist.cons _ (by rw [hst, nodeB, if_neg (by rw [k0]; simp), if_neg (by rw [k1]; simp), if_neg (by rw [k2]; simp), if_pos k3]; exact zZ), by omega⟩
            · refine yG (oj hn_g2 (oj hn_g hn_g7)) ?_
              refine yF (oj hn_g2 (oj hn_g hn_g7)) (fun k4=>?_) fun k4=>?_
              · refine yG (oj hn_g2 (oj hn_g hn_g7)) ?_
                refine yW (oj hn_g2 (oj hn_g hn_g7)) ?_
                refine yS (oj hn_g2 (oj hn_g hn_g7)) ?_
                rw [updF_bs (by omega)]
                refine yG (oj hn_g2 (oj hn_g hn_g7)) ?_
                exact aw_stop ⟨i + 1, by omega, (zB (oj hn_g2 (oj hn_g hn_g7))), List.Sublist.cons _ (by rw [hst, nodeB, if_neg (by rw [k0]; simp), if_neg (by rw [k1]; simp), if_neg (by rw [k2]; simp), if_neg (by rw [k3]; simp), if_pos k4]; exact zZ), by omega⟩
              · refine yG (oj hn_g2 (oj hn_g hn_g7)) ?_
                refine yW (oj hn_g2 (oj hn_g hn_g7)) ?_
                refine yS (oj hn_g2 (oj hn_g hn_g7)) ?_
                rw [updF_bs (by omega)]
                refine yG (oj hn_g2 (oj hn_g hn_g7)) ?_
                exact aw_stop ⟨i + 1, by omega, (zB (oj hn_g2 (oj hn_g hn_g7))), List.Sublist.cons _ (by rw [hst, nodeB, if_neg (by rw [k0]; simp), if_neg (by rw [k1]; simp), if_neg (by rw [k2]; simp), if_neg (by rw [k3]; simp), if_neg (by rw [k4]; simp)]; exact zZ), by omega⟩
  · have h1' : i = f.nodes.length := by have := of_decide_eq_false h1; omega
    subst h1'
    refine yG (oj hn_g2 hn_g) ?_
    refine yT hC (oj hn_g2 hn_g) ?_
    exact .one (.c (ler_oslbs (zE (oj hn_g2 hn_g)) hvl.symm))
noncomputable def fvalB (f : FM) (s : Nat) : Bool := ofB f (fvTo f s f.nodes.length) s f.top
set_option maxHeartbeats 800000 in
theorem fvalue_fa (f : FM) (hf : FmOk f) (s : Nat) (hs : s < 9223372036854775808) : Fa Tryz.prog 116 [.agg (fmc false f), .c (.int .i64 s)] (.c (.bool (fvalB f s))) := by
  refine fa_of_body Tryz.func116 rfl rfl (by simp [Tryz.ntmps116]) fun C hC => ?_
  simp only [initS, Nat.reduceAdd]
  refine xG ?_
  refine xB fun g2 hn_g2=>?_
  refine yG hn_g2 ?_
  refine aw_dr 9 ty_mixed (by kernel_rfl) ?_
  refine yG hn_g2 ?_
  refine yD hn_g2 (fvalues_fa f hf s hs) ?_
  refine yG hn_g2 ?_
  refine yD hn_g2 (fof_fa f hf (fvTo f s f.nodes.length) s f.top hs (fvTo_len f s _) hf.t0 hf.t1) ?_
  refine yG hn_g2 ?_
  refine yT hC hn_g2 ?_
  exact .one (.c (.bool _))
end Go.Proofs.YtcoflhkcpnoaaaaGreat
namespace Go.AI
section
variable {P : Program}
def keyI (n : Int) : Value := .int .i64 n
theorem keyI_ok {kt : TypeId} (ht : P.underlying kt = some (.int .i64)) : KeyOk P kt keyI := by
  refine ⟨fun b a w => ?_, fun a ks es w h => ?_⟩
  · unfold Instr.checkKey keyI
    simp only [Sem.run_bind, run_underlying ht, Result.andThen_ok]
    rfl
  · unfold Instr.findKey
    simp only [Sem.run_bind, run_underlying ht, Result.andThen_ok]
    have hn : ∀ (ks : List Int) (es : List MapEntry) (i : Nat), es.map (·.key) = ks.map keyI → Instr.findNow (.int .i64) (keyI a) es i = some (fAsk a ks es i) := by
      intro ks
      induction ks with
      | nil =>
        intro es i h
        cases es with
        | nil => rfl
        | cons e es => simp at h
      | cons k ks ih =>
        intro es i h
        cases es with
        | nil => simp at h
        | cons e es =>
          simp only [List.map_cons, List.cons.injEq] at h
          simp only [Instr.findNow, fAsk, h.1, keyI, Instr.sameNow, if_true]
          by_cases hk : a = k
          · subst hk; simp
          · have : (a == k) = false := by simpa using hk
            rw [this, if_neg hk]
            exact ih es (i + 1) h.2
    rw [hn ks es 0 h]
    rfl
def key3 (k : Int × Int × Int) : Value := .agg #[.int .i64 k.1, .int .i64 k.2.1, .int .i64 k.2.2]
theorem key3_ok {kt e : TypeId} (ht : P.underlying kt = some (.array 3 e)) (he : P.underlying e = some (.int .i64)) {inf : TypeInfo} (hi : P.info? e = some inf) (hs : inf.size = 1) : KeyOk P kt key3 := by
  have hag : ∀ w, (isAgg e).run P w = .ok false w := fun w => by simp [isAgg, run_underlying he]
  have hsz : ∀ w, (sizeOf e).run P w = .ok 1 w := fun w => by simp [sizeOf, typeInfo, hi, hs]
  have hp : ∀ (a b c : Int) w, (part e #[.int .i64 a, .int .i64 b, .int .i64 c] 0).run P w = .ok (.int .i64 a) w ∧ (part e #[.int .i64 a, .int .i64 b, .int .i64 c] 1).run P w = .ok (.int .i64 b) w ∧ (part e #[.int .i64 a, .int .i64 b, .int .i64 c] 2).run P w = .ok (.int .i64 c) w := fun a b c w => by
    unfold part
    simp only [Sem.run_bind, hag, Result.andThen_ok, Bool.false_eq_true, if_false]
    exact ⟨rfl, rfl, rfl⟩
  have hck : ∀ b n x w, (Instr.checkKey b (n + 1) e (.int .i64 x)).run P w = .ok () w := fun b n x w => by simp [Instr.checkKey, run_underlying he]
  have heq1 : ∀ d x y w, (Op.equalIn (d + 1) e (.int .i64 x) (.int .i64 y)).run P w = .ok (x == y) w := fun d x y w => by simp [Op.equalIn, run_underlying he]
  refine ⟨fun b a w => ?_, fun a ks es w h => ?_⟩
  · obtain ⟨x, y, z⟩ := a
    obtain ⟨p0, p1, p2⟩ := hp x y z w
    show (Instr.checkKey b (9998 + 1 + 1) kt (key3 (x, y, z))).run P w = _
    unfold Instr.checkKey key3
    have hck9 : ∀ x w, (Instr.checkKey b 9999 e (.int .i64 x)).run P w = .ok () w := fun x w => hck b 9998 x w
    simp [run_underlying ht]
    rw [show List.range' 0 3 = [0, 1, 2] from rfl]
    simp [hsz, p0, p1, p2, hck9]
  · have hfeq : ∀ a b w, (Op.equal kt (key3 a) (key3 b)).run P w = .ok (decide (a = b)) w := fun a b w => by
      obtain ⟨x, y, z⟩ := a
      obtain ⟨x', y', z'⟩ := b
      have hp0 := fun a b c w => (hp a b c w).1
      have hp1 := fun a b c w => (hp a b c w).2.1
      have hp2 := fun a b c w => (hp a b c w).2.2
      show (Op.equalIn (9998 + 1 + 1) kt (key3 (x, y, z)) (key3 (x', y', z'))).run P w = _
      unfold Op.equalIn key3
      have heq9 : ∀ x y w, (Op.equalIn 9999 e (.int .i64 x) (.int .i64 y)).run P w = .ok (x == y) w := fun x y w => heq1 9998 x y w
      simp [run_underlying ht, hsz]
      rw [show List.range' 0 3 = [0, 1, 2] from rfl]
      by_cases e0 : x = x' <;> by_cases e1 : y = y' <;> by_cases e2 : z = z' <;> simp [hp0, hp1, hp2, heq9, e0, e1, e2]
    have hn : ∀ e' es', es = e' :: es' → Instr.findNow (.array 3 e) (key3 a) es 0 = none := fun e' es' he' => by
      subst he'; simp [Instr.findNow, Instr.sameNow]
    unfold Instr.findKey
    simp only [Sem.run_bind, run_underlying ht, Result.andThen_ok]
    cases es with
    | nil =>
      cases ks with
      | nil => simp [Instr.findNow, fAsk]
      | cons k ks => simp at h
    | cons e' es' =>
      rw [hn e' es' rfl]
      exact run_findAsking hfeq a ks (e' :: es') 0 w h
end
section
variable {P : Program}
variable {E : Env} {K : List It} {σ σ' : Sl} {h : Heap} {all rest : List Oper} {o : Oper}
theorem aw_lookup2 {α : Type} [DecidableEq α] {Kf : α → Value} {t kt et g : TypeId} {kv : List (α × Value)} {x ky : Operand} {ck : AV} {a : α} {z : Value} (hop : o.op = .lookup t x ky true) (hw : wantA all σ o = some true) (hd : dstOk E.N o.dst = true)
    (ht : tMap E.P t = some (kt, et)) (hK : KeyOk E.P kt Kf) (hz : tZ1 E.P et = some z) (hx : ev σ x = .c (.raw (.map (some g)))) (hg : h.get g = some (.gen (MapI Kf kv))) (hk : ev σ ky = ck) (hka : ∀ S w v, Rep S w ck v → v = Kf a)
    (k : aw E (.ops all rest :: K) (σ.setO o.dst (.tup [.c (cstC ((kvGet a kv).getD z)), .c (.bool (kvGet a kv).isSome)])) h) : aw E (.ops all (o :: rest) :: K) σ h := by
  refine aw_step hw (fun ac w s => ?_) k
  have h1 := ev_rep s x
  rw [hx] at h1
  have h1' : ac.eval x = .map (some g) := h1
  have h2 := ev_rep s ky
  rw [hk] at h2
  have h2' := hka _ _ _ h2
  obtain ⟨ob, hb, es, c, rfl, hes⟩ := s.heap g _ (Heap.get_mem hg)
  have hkeys : es.toList.map (·.key) = (kv.map (·.1)).map Kf := by
    have := congrArg (List.map Prod.fst) hes
    rw [List.map_map, List.map_map] at this
    rw [List.map_map]
    exact this
  have hfind := hK.find a (kv.map (·.1)) es.toList w hkeys
  have hget := fAsk_get (K := Kf) a kv es.toList 0 hes
  refine ⟨.tuple #[(kvGet a kv).getD z, .bool (kvGet a kv).isSome], w, .inl ?_, s.put hd ⟨[_, _], rfl, cstC_rep _ _ _, rfl, trivial⟩⟩
  have hlk : (Instr.lookup t (ac.eval x) (ac.eval ky) true).run E.P w = .ok (.tuple #[(kvGet a kv).getD z, .bool (kvGet a kv).isSome]) w := by
    rw [h1', h2']
    unfold Instr.lookup
    simp only [Sem.run_bind, run_underlying (tMap_spec ht), Result.andThen_ok, runGet hb, Sem.run_pure, hK.check, hfind]
    rw [← hget]
    cases hf : fAsk a (kv.map (·.1)) es.toList 0 with
    | none => simp [tZ1_run hz]
    | some p => obtain ⟨i, v⟩ := p; simp
  simp only [execOp, hop, Sem.run_bind, hlk, Result.andThen_ok]
  rfl
theorem Calm.lookup2 {l : List Oper} {α : Type} [DecidableEq α] {Kf : α → Value} {t kt et g : TypeId} {kv : List (α × Value)} {x ky : Operand} {ck : AV} {a : α} {z : Value} (hop : o.op = .lookup t x ky true) (hw : wantA l σ o = some true) (hd : dstOk E.N o.dst = true)
    (ht : tMap E.P t = some (kt, et)) (hK : KeyOk E.P kt Kf) (hz : tZ1 E.P et = some z) (hx : ev σ x = .c (.raw (.map (some g)))) (hg : h.get g = some (.gen (MapI Kf kv))) (hk : ev σ ky = ck) (hka : ∀ S w v, Rep S w ck v → v = Kf a) :
    Calm E h l σ o (.tup [.c (cstC ((kvGet a kv).getD z)), .c (.bool (kvGet a kv).isSome)]) := by
  refine ⟨hd, fun σ' ac w Q hs s => ?_⟩
  rw [if_pos (s.wanted ((want_same hs).trans hw))]
  have h1 := ev_rep s x
  rw [ev_same (by rw [hop]; simp [Op.operands]) hs, hx] at h1
  have h1' : ac.eval x = .map (some g) := h1
  have h2 := ev_rep s ky
  rw [ev_same (by rw [hop]; simp [Op.operands]) hs, hk] at h2
  have h2' := hka _ _ _ h2
  obtain ⟨ob, hb, es, c, rfl, hes⟩ := s.heap g _ (Heap.get_mem hg)
  have hkeys : es.toList.map (·.key) = (kv.map (·.1)).map Kf := by
    have := congrArg (List.map Prod.fst) hes
    rw [List.map_map, List.map_map] at this
    rw [List.map_map]
    exact this
  have hfind := hK.find a (kv.map (·.1)) es.toList w hkeys
  have hget := fAsk_get (K := Kf) a kv es.toList 0 hes
  have hlk : (Instr.lookup t (ac.eval x) (ac.eval ky) true).run E.P w = .ok (.tuple #[(kvGet a kv).getD z, .bool (kvGet a kv).isSome]) w := by
    rw [h1', h2']
    unfold Instr.lookup
    simp only [Sem.run_bind, run_underlying (tMap_spec ht), Result.andThen_ok, runGet hb, Sem.run_pure, hK.check, hfind]
    rw [← hget]
    cases hf : fAsk a (kv.map (·.1)) es.toList 0 with
    | none => simp [tZ1_run hz]
    | some p => obtain ⟨i, v⟩ := p; simp
  have hrun : (execOp ac.eval o).run E.P w = .ok (.value (.tuple #[(kvGet a kv).getD z, .bool (kvGet a kv).isSome])) w := by
    simp only [execOp, hop, Sem.run_bind, hlk, Result.andThen_ok]
    rfl
  unfold Oper.wp
  rw [hrun]
  exact s.put hd ⟨[_, _], rfl, cstC_rep _ _ _, rfl, trivial⟩
theorem drk_lookup2 {l : List Oper} {n : Nat} {α : Type} [DecidableEq α] {Kf : α → Value} {t kt et g : TypeId} {kv : List (α × Value)} {x ky : Operand} {ck : AV} {a : α} {z : Value} (hop : o.op = .lookup t x ky true) (hw : wantA l σ o = some true) (hd : dstOk E.N o.dst = true)
    (ht : tMap E.P t = some (kt, et)) (hK : KeyOk E.P kt Kf) (hz : tZ1 E.P et = some z) (hx : ev σ x = .c (.raw (.map (some g)))) (hg : h.get g = some (.gen (MapI Kf kv))) (hk : ev σ ky = ck) (hka : ∀ S w v, Rep S w ck v → v = Kf a)
    (k : DrK E h l K n rest (σ.setO o.dst (.tup [.c (cstC ((kvGet a kv).getD z)), .c (.bool (kvGet a kv).isSome)]))) : DrK E h l K (n + 1) (o :: rest) σ := drk_cons (Calm.lookup2 hop hw hd ht hK hz hx hg hk hka) k
end
end Go.AI
namespace Go.AI
section
variable {E : Env} {K : List It} {σ σ' : Sl} {h : Heap} {all rest : List Oper} {o : Oper}
theorem aw_min3 {x y z : Operand} {ts : Array TypeId} {a b c : Int} (hop : o.op = .call { callee := .builtin .min, args := #[x, y, z], argTypes := ts }) (hw : wantA all σ o = some true) (hd : dstOk E.N o.dst = true)
    (hx : ev σ x = .c (.int .i64 a)) (hy : ev σ y = .c (.int .i64 b)) (hz : ev σ z = .c (.int .i64 c)) (k : aw E (.ops all rest :: K) (σ.setO o.dst (.c (.int .i64 (min a (min b c))))) h) : aw E (.ops all (o :: rest) :: K) σ h := by
  refine aw_step hw (fun ac w s => ?_) k
  have h1 : ac.eval x = .int .i64 a := by have := ev_rep s x; rw [hx] at this; exact this
  have h2 : ac.eval y = .int .i64 b := by have := ev_rep s y; rw [hy] at this; exact this
  have h3 : ac.eval z = .int .i64 c := by have := ev_rep s z; rw [hz] at this; exact this
  have hrun : (execOp ac.eval o).run E.P w = .ok (.value (.int .i64 (min a (min b c)))) w := by
    simp only [execOp, hop, resolve, invoke, Go.builtin, Sem.run_bind, Sem.run_pure, Result.andThen_ok, List.map_toArray, List.map_cons, List.map_nil, h1, h2, h3]
    have hm : (if c < (if b < a then b else a) then c else (if b < a then b else a)) = min a (min b c) := by
      simp only [Int.min_def]; split <;> split <;> (try split) <;> (try split) <;> omega
    simp [Builtin.min_, Builtin.min2, hm]
  exact ⟨_, w, .inl hrun, s.put hd rfl⟩
end
end Go.AI
namespace Go.AI
section
variable {E : Env} {K : List It} {σ σ' : Sl} {h : Heap} {all l rest : List Oper} {o o1 o2 : Oper}
theorem aw_push2 {t e size bytes n d1 s gt : Nat} {z : List CV} {og : Option Nat} {f f' : Nat → CV} {pre : Heap} {v : AV} (hop2 : o2.op = .call { callee := .builtin .append, args := #[.tmp s, .tmp d1], argTypes := #[t, t] })
    (hg2 : o2.guard = none) (hd2 : dstOk E.N o2.dst = true)
    (ht : tElem E.P t = some (e, size, bytes)) (hz : tZero E.P e = some z) (hzl : z.length = size) (hs0 : 0 < size) (hsz : size ≤ 16777216)
    (hevs : ev σ (.tmp s) = .c (gs og size n)) (hev1 : ev σ (.tmp d1) = .c (.osl gt size 0 1)) (hog : og = none → n = 0) (hok : okPart v = true) (hvl : v.cells.length = size) (hh : h = (gt, .cells e (1 * size) (ofL v.cells)) :: (pre ++ gh og e (n * size) f))
    (h63 : n + 1 ≤ maxLen) (hby : (n + 1) * bytes ≤ 140737488355328) (hf : ∀ j, j < (n + 1) * size → appF f (n * size) (ofL v.cells) j = f' j)
    (kk : ∀ g', g' ∉ pre.keys → aw E (.ops all rest :: K) ((σ.set d1 (.c .any)).setO o2.dst (.c (gs (some g') size (n + 1)))) (pre ++ gh (some g') e ((n + 1) * size) f')) : aw E (.ops all (o2 :: rest) :: K) σ h := by
  subst hh
  obtain ⟨ok1, ok2⟩ := okPart_spec hok
  have hw2 : ∀ σ2, wantA all σ2 o2 = some true := fun σ2 => by unfold wantA; rw [hg2]
  have hsrc : ∀ h0 : Heap, Src ((gt, .cells e (1 * size) (ofL v.cells)) :: h0) size (.osl gt size 0 1) 1 (ofL v.cells) := fun h0 => by
    refine .osl (f' := ofL v.cells) (m := 1 * size) (ty := e) (by simp [Heap.get]) (by omega) (fun j _ => by rw [Nat.zero_add])
  have hle : ∀ (B : AV) (g' : Nat), Sl.le ((σ.set d1 (.c .any)).setO o2.dst B) (σ.setO o2.dst B) := fun B g' t' => by
    rw [setO_get, setO_get]
    by_cases e1 : o2.dst = some t'
    · rw [if_pos e1, if_pos e1]; exact .inr rfl
    · rw [if_neg e1, if_neg e1]
      simp only [Sl.get_set]
      by_cases e2 : d1 = t'
      · rw [if_pos e2]; exact .inl rfl
      · rw [if_neg e2]; exact .inr rfl
  have hkp : ∀ g' : Nat, g' ∉ Heap.keys ((gt, .cells e (1 * size) (ofL v.cells)) :: pre) → g' ∉ pre.keys := fun g' hg' hm => hg' (by simp only [Heap.keys, List.map_cons, List.mem_cons]; exact .inr hm)
  have hperm : ∀ g' : Nat, (pre ++ gh (some g') e ((n + 1) * size) f').Sublist ((pre ++ [(g', .cells e ((n + 1) * size) f')])) := fun g' => List.Sublist.refl _
  cases og with
  | none =>
    have hn0 : n = 0 := hog rfl
    subst hn0
    refine aw_appendN (cx := .osl gt size 0 1) (k := 1) (f2 := ofL v.cells) hop2 (hw2 _) hd2 ht hz hzl hs0 hevs hev1 (hsrc _) (by omega) (by omega) (by omega) fun g' hg' => ?_
    refine aw_conv1 (f' := f') (fun j hj => ?_) ?_
    · have := hf j (by omega)
      rw [← this]; simp [appF]
    · have hnew : g' ∉ pre.keys := fun hm => hg' (by simp only [Heap.keys, List.map_cons, List.mem_cons, gh, List.append_nil]; exact .inr hm)
      refine aw_perm (h' := (gt, .cells e (1 * size) (ofL v.cells)) :: (pre ++ [(g', .cells e (1 * size) f')])) ?_ ?_
      · have : (pre ++ gh none e (0 * size) f) = pre := by simp [gh]
        rw [this]
        refine (List.Perm.swap _ _ _).trans (List.Perm.cons _ ?_)
        exact (List.perm_append_singleton _ _).symm
      · refine aw_weak (hle _ g') (List.Sublist.cons _ (List.Sublist.refl _)) ?_
        have := kk g' hnew
        simpa [gh, gs] using this
  | some g =>
    refine aw_nd fun hnd => ?_
    have hnp : g ∉ pre.keys := fun hm => by
      simp only [Heap.keys, gh, List.map_cons, List.map_append, List.map_nil, List.nodup_cons] at hnd
      have := (List.nodup_append.1 hnd.2).2.2 g hm g (by simp)
      exact this rfl
    have hgtg : gt ≠ g := fun e => by
      subst e
      simp [Heap.keys, gh] at hnd
    refine aw_append (cx := .osl gt size 0 1) (k := 1) (f2 := ofL v.cells) (g := g) (m := n * size) (f := f) (h2 := (gt, .cells e (1 * size) (ofL v.cells)) :: pre) hop2 (hw2 _) hd2 ht hz hzl hs0 hevs ?_ (Nat.le_refl _) hev1 (hsrc _) ?_ (by omega) h63 hby ?_ fun g' hg' => ?_
    · show Heap.get ((gt, _) :: (pre ++ [(g, _)])) g = _
      simp only [Heap.get, if_neg hgtg]
      exact Heap.get_app hnp
    · intro j hj
      have hjl : j < v.cells.length := by omega
      rw [ofL_get v.cells j v.cells[j] (List.getElem?_eq_getElem hjl)]
      exact List.all_eq_true.1 ok2 _ (List.getElem_mem hjl)
    · show Heap.del ((gt, _) :: (pre ++ [(g, _)])) g = _
      rw [Heap.del_ne hgtg, Heap.del_app hnp]
    · refine aw_conv1 (f' := f') hf ?_
      refine aw_perm (h' := (gt, .cells e (1 * size) (ofL v.cells)) :: (pre ++ [(g', .cells e ((n + 1) * size) f')])) ?_ ?_
      · refine (List.Perm.swap _ _ _).trans (List.Perm.cons _ ?_)
        exact (List.perm_append_singleton _ _).symm
      · refine aw_weak (hle _ g') (List.Sublist.cons _ (List.Sublist.refl _)) ?_
        exact kk g' (hkp g' hg')
theorem NewX.buildSlice {t e size bytes len : Nat} {xs : List Operand} {cells : List CV} (hop : o.op = .buildSlice t len (enumO 0 xs).toArray) (hw : wantA l σ o = some true) (hd : dstOk E.N o.dst = true) (ht : tElem E.P t = some (e, size, bytes))
    (hz : (tZero E.P e).isSome = true) (hl : xs.length = len) (hsm : len * size ≤ 16777216) (hlm : len ≤ 16777216) (hx : ∀ x ∈ xs, (ev σ x).flat = true ∧ (ev σ x).cells.all CV.solid = true ∧ (ev σ x).cells.length = size) (hc : (xs.map (ev σ)).flatMap AV.cells = cells) (hops : ∀ x ∈ xs, x ∈ o.op.operands) :
    NewX E h l σ o (fun g => .c (.osl g size 0 len)) (.cells e (len * size) (ofL cells)) := by
  subst hc
  refine NewX.of_run hw hd fun σ' ext a w he s => ?_
  have hmap : xs.map (ev σ') = xs.map (ev σ) := List.map_congr_left fun x hx' => he x (hops x hx')
  have hx2 : ∀ x ∈ xs, (ev σ' x).flat = true ∧ (ev σ' x).cells.all CV.solid = true ∧ (ev σ' x).cells.length = size := fun x hx' => by rw [he x (hops x hx')]; exact hx x hx'
  rw [← hmap]
  obtain ⟨hu, inf, hi, hsz, _⟩ := tElem_spec ht
  obtain ⟨z, hz'⟩ := Option.isSome_iff_exists.1 hz
  obtain ⟨i', zv, hi', hzv, _⟩ := tZero_spec hz'
  rw [hi] at hi'
  injection hi' with hi'
  subst hi'
  obtain ⟨hL, hcs⟩ := parts_rep s size xs hx2
  have hnk : w.heap.size ∉ (ext ++ h).keys := fun hm => Nat.lt_irrefl _ (s.klt hm)
  generalize hvs : xs.map a.eval = vs at hL hcs
  have hlv : vs.length = len := by rw [← hvs]; simpa using hl
  have hfl : (vs.flatMap fun v => v.cells.toList).length = len * size := by
    rw [← hlv]
    clear hL hvs hlv
    induction vs with
    | nil => simp
    | cons v vs ih => simp only [List.flatMap_cons, List.length_append, List.length_cons, ih (fun x hx => hcs x (List.mem_cons_of_mem _ hx)), Nat.add_mul]; have := hcs v (by simp); simp [this]; omega
  refine ⟨.slice (some ⟨w.heap.size, 0, none⟩) len len, w.alloc (.cells (vs.flatMap fun v => v.cells.toList).toArray e), ?_, Fr.alloc _ _ _, by simp, ?_, ?_⟩
  · have hm : (Array.map (fun x : Nat × Operand => (x.1, a.eval x.2)) (enumO 0 xs).toArray).toList = enumL 0 vs := by
      rw [← hvs, ← enum_map]; simp
    have hfill : ∀ zc : Array Value, Instr.fill (fun i => some (i * size, size)) ((Array.range (len * size)).map (fun x => zc[x % zc.size]!)) (enumL 0 vs) = some (vs.flatMap fun v => v.cells.toList).toArray := fun zc => by
      rw [fill_seq size vs 0 _ hcs (by simp [hlv])]
      rw [Nat.zero_mul, putL_full _ _ (by simp [hfl])]
    simp only [execOp, hop, Instr.buildSlice, Sem.run_bind, run_underlying hu, Result.andThen_ok, sizeOf, typeInfo, Sem.run_pure]
    simp only [run_program, hi, Result.andThen_ok, Sem.run_pure, hsz]
    rw [if_neg (by omega)]
    rw [hm]
    by_cases h0 : len * size = 0
    · rw [if_pos h0]
      simp only [Sem.run_bind, Sem.run_pure, Result.andThen_ok, hfill]
      rfl
    · rw [if_neg h0]
      simp only [Sem.run_bind, Sem.run_pure, Result.andThen_ok, zeroValue, typeInfo, run_program, hi, hzv, hfill]
      rfl
  · have hr := orep_new (C := E.C) (w := w) (ty := e) (h' := ((w.heap.size, AObj.cells e (len * size) (ofL ((xs.map (ev σ')).flatMap AV.cells))) :: (ext ++ h))) (hL.keep (keeps_alloc hnk))
    have hcl : ((xs.map (ev σ')).flatMap AV.cells).length = len * size := by rw [← hL.length, hfl]
    rw [hcl] at hr
    exact hr
  · exact ⟨len, rfl, Nat.le_refl _, by unfold maxLen; omega, (vs.flatMap fun v => v.cells.toList).toArray, e, ⟨_, heap_alloc_new w _⟩, by simp [hfl]⟩
end
end Go.AI
namespace Go.AI
theorem permL {α : Type} (l : List α) (is js : List Nat) (h : is.Perm js) : (is.filterMap fun i => l[i]?).Perm (js.filterMap fun i => l[i]?) := h.filterMap _
theorem eI {P : Prop} (k : P := by (repeat' first|exact has0_nil|refine has0_cons ?_ ?_)<;>simp) : P := k
theorem Fh.mono {P : Program} {f : FuncId} {hc : Heap} {args : List AV} {Q Q' : AV → Heap → Prop} (hf : Fh P f hc args Q) (h : ∀ r h', Q r h' → Q' r h') : Fh P f hc args Q' :=
  ⟨hf.1, fun C vs h1 h2 h3 h4 => (hf.2 C vs h1 h2 h3 h4).mono (by
    rintro e w ⟨v, r, h', he, hq, rest⟩
    exact ⟨v, r, h', he, h _ _ hq, rest⟩)⟩
def neA (a : Nat) : List Nat → Prop
  | [] => True
  | b :: l => ((a = b) = False ∧ (b = a) = False) ∧ neA a l
def ndP : List Nat → Prop
  | [] => True
  | a :: l => neA a l ∧ ndP l
theorem neA_of {a : Nat} : ∀ {l : List Nat}, a ∉ l → neA a l
  | [], _ => trivial
  | b :: l, h => by
    rw [List.mem_cons, not_or] at h
    exact ⟨⟨eq_false h.1, eq_false fun e => h.1 e.symm⟩, neA_of h.2⟩
theorem ndP_of : ∀ {l : List Nat}, l.Nodup → ndP l
  | [], _ => trivial
  | a :: l, h => by
    rw [List.nodup_cons] at h
    exact ⟨neA_of h.1, ndP_of h.2⟩
section
variable {E : Env} {K : List It} {l : List Oper} {FP : Heap} {σ σ' : Sl} {h : Heap} {o : Oper} {i : Nat} {cs : List (Nat × Nat)}
theorem cw_callhv {FP' : Heap} {m : Nat} {f : FuncId} {x : Operand} {gs : List Nat} {xs : List Operand} {ts : Array TypeId} {hc hr : Heap} {args : List AV} {Q : AV → Heap → Prop} (ho : l[i]? = some o) (hf : Fh E.P f hc (args ++ gs.map fun g => .c (.optr g 0)) Q) (hop : o.op = .call { callee := .value x, args := xs.toArray, argTypes := ts }) (hw : wantA l σ o = some true) (hd : dstOk E.N o.dst = true) (hx : ev σ x = .c (fnC f gs))
    (hp : h.Perm (hc ++ hr)) (le : LeA [] (xs.map (ev σ)) args) (hFP : ∀ r h', Q r h' → Has0 FP' (h' ++ hr)) (k : ∀ r h', Q r h' → (∀ g ∈ h'.keys, g ∉ hr.keys) → CW E l K FP' cs (σ.setO o.dst r) (h' ++ hr)) (hm : m = 2 ∨ m = 1 ∧ FP' = FP := by first | exact .inl rfl | exact .inr ⟨rfl, rfl⟩) : CW E l K FP ((i, m) :: cs) σ h := by
  refine .pin ho hm (R := fun r h2 => ∃ h', Q r h' ∧ (∀ g ∈ h'.keys, g ∉ hr.keys) ∧ h2 = h' ++ hr) (fun σ' K hs => ?_) ?_ ?_
  · have he : xs.map (ev σ') = xs.map (ev σ) := evs_same (fun x hx => by rw [hop]; simp [Op.operands, Call.operands, hx]) hs
    exact aw_callhv hf hop ((want_same hs).trans hw) hd ((ev_same (by rw [hop]; simp [Op.operands, Call.operands]) hs).trans hx) hp (by rw [he]; exact le) fun r h' hq hfr => aw_ops_nil (aw_stop ⟨r, ⟨h', hq, hfr, rfl⟩, rfl⟩)
  · rintro r h2 ⟨h', hq, _, rfl⟩; exact hFP r h' hq
  · rintro r h2 ⟨h', hq, hfr, rfl⟩; exact k r h' hq hfr
theorem aw_insNew {rest : List Oper} {α : Type} [DecidableEq α] {Kf : α → Value} {t kt et g : TypeId} {kv : List (α × Value)} {x ky vl : Operand} {ck cv : AV} {a : α} {v : Value} (hop : o.op = .insert t x ky vl) (hdn : o.dst = none) (hw : wantA l σ o = some true)
    (ht : tMap E.P t = some (kt, et)) (hK : KeyOk E.P kt Kf) (hx : ev σ x = .c (.raw (.map (some g)))) (hg : h.get g = some (.gen (MapI Kf kv))) (hk : ev σ ky = ck) (hka : ∀ S w u, Rep S w ck u → u = Kf a) (hv : ev σ vl = cv) (hva : ∀ S w u, Rep S w cv u → u = v)
    (hnew : kvGet a kv = none) {h' : Heap} (hh : h.set g (.gen (MapI Kf (kv ++ [(a, v)]))) = h') (k : aw E (.ops l rest :: K) σ h') : aw E (.ops l (o :: rest) :: K) σ h := by
  subst hh
  refine aw_step hw (fun ac w s => ?_) k
  have h1 := ev_rep s x
  rw [hx] at h1
  have h1' : ac.eval x = .map (some g) := h1
  have h2 := ev_rep s ky
  rw [hk] at h2
  have h2' := hka _ _ _ h2
  have h3 := ev_rep s vl
  rw [hv] at h3
  have h3' := hva _ _ _ h3
  obtain ⟨ob, hb, es, c, rfl, hes⟩ := s.heap g _ (Heap.get_mem hg)
  have hkeys : es.toList.map (·.key) = (kv.map (·.1)).map Kf := by
    have := congrArg (List.map Prod.fst) hes
    rw [List.map_map, List.map_map] at this
    rw [List.map_map]
    exact this
  have hfind := hK.find a (kv.map (·.1)) es.toList w hkeys
  have hget := fAsk_get (K := Kf) a kv es.toList 0 hes
  have hnone : fAsk a (kv.map (·.1)) es.toList 0 = none := by
    cases hf : fAsk a (kv.map (·.1)) es.toList 0 with
    | none => rfl
    | some p => rw [hf, hnew] at hget; cases hget
  have hgl : g < w.heap.size := (Array.getElem?_eq_some_iff.1 hb).1
  let w' : World := { w with heap := w.heap.setIfInBounds g (.map (es.push { key := Kf a, val := v, born := c }) (c + 1)) }
  have hrun : (Instr.mapUpdate t (ac.eval x) (ac.eval ky) (ac.eval vl)).run E.P w = .ok () w' := by
    rw [h1', h2', h3']
    unfold Instr.mapUpdate
    simp only [Sem.run_bind, run_underlying (tMap_spec ht), Result.andThen_ok, runGet hb, hK.check, hfind, hnone, runSet _ hb]
    rfl
  refine ⟨undef, w', .inr ⟨?_, rfl⟩, ?_⟩
  · simp only [execOp, hop, Sem.run_bind, hrun, Result.andThen_ok]
    rfl
  · rw [hdn]
    have hfr : Fr (fun b => b = g) w w' := by
      refine ⟨rfl, rfl, rfl, by simp [w'], Nat.le_refl _, fun b _ hne => ?_, fun g' m hh => ?_⟩
      · simp only [w']; rw [Array.getElem?_setIfInBounds_ne (fun e => hne e.symm)]
      · obtain ⟨cs, ty, ⟨fr, hc⟩, hs⟩ := hh
        refine ⟨cs, ty, ⟨fr, ?_⟩, hs⟩
        have hne : g' ≠ g := fun e => by rw [e, hb] at hc; cases hc
        simp only [w']
        rw [Array.getElem?_setIfInBounds_ne (fun e => hne e.symm)]; exact hc
    refine s.setObj hg hfr ⟨_, by simp only [w']; rw [Array.getElem?_setIfInBounds_self_of_lt hgl], _, _, rfl, ?_⟩
    simp only [Array.toList_push, List.map_append, List.map_cons, List.map_nil, hes]
theorem cw_perm {h' : Heap} (hp : h.Perm h') (k : CW E l K FP cs σ h') : CW E l K FP cs σ h := by
  induction cs generalizing σ h h' with
  | nil =>
    cases k with
    | nil k => exact .nil (aw_perm hp k)
  | cons c cs ih =>
    cases k with
    | flt ho hf k => exact .flt ho hf (ih hp k)
    | pin ho hmk hpn hfp k => exact .pin ho hmk (fun σ' K hs => aw_perm hp (hpn σ' K hs)) hfp k
theorem NewX.makeMap {α : Type} {Kf : α → Value} {t : TypeId} (hop : o.op = .makeMap t none) (hw : wantA l σ o = some true) (hd : dstOk E.N o.dst = true) : NewX E h l σ o (fun g => .c (.raw (.map (some g)))) (.gen (MapI Kf [])) := by
  refine NewX.of_run hw hd fun σ' ext a w he s => ?_
  refine ⟨.map (some w.heap.size), w.alloc (.map #[] 0), ?_, Fr.alloc _ _ _, by simp, ⟨_, heap_alloc_new w _, _, _, rfl, rfl⟩, rfl⟩
  simp only [execOp, hop]
  rfl
theorem fill_congr {f g : Nat → Option (Nat × Nat)} : ∀ (vs : List (Nat × Value)) (us : Array Value), (∀ p ∈ vs, g p.1 = f p.1) → Instr.fill g us vs = Instr.fill f us vs
  | [], _, _ => rfl
  | (i, v) :: vs, us, h => by
    simp only [Instr.fill]
    rw [h (i, v) (List.mem_cons_self ..)]
    cases f i with
    | none => rfl
    | some p =>
      simp only
      rw [fill_congr vs _ fun p hp => h p (List.mem_cons_of_mem _ hp)]
def arrFl (n s : Nat) : List (Nat × Nat) := (List.range n).map fun i => (i * s, s)
theorem buildArr_ok {P : Program} {ρ : Operand → AV} {t el : TypeId} {n s : Nat} {ag : Bool} {ps : List (Nat × Operand)} {out z : List CV} (hu : P.underlying t = some (.array n el)) (hsz : tSz P el = some (ag, s)) (hz : tZero P t = some z) (hf : fillC (arrFl n s) z (mapCells ρ ps) = some out) (hps : ∀ p ∈ ps, p.1 < n) (hreq : okParts ρ ps = true) :
    POk P h ρ (.build t ps.toArray) (.agg out) := by
  intro S w e hS ho _
  obtain ⟨i, zv, hi, hzv, rfl⟩ := tZero_spec hz
  have hreq' := okParts_spec hreq
  rw [mapCells_eq] at hf
  obtain ⟨us', h1, h2⟩ := fillC_ok (S := S) (w := w) (arrFl n s) (ps.map fun p => (p.1, (ρ p.2).cells)) (ps.map fun p => (p.1, e p.2)) (zv.cells.toList.map cstC) zv.cells out (by simp)
    (fun j p q hp hq => by
      rw [List.getElem?_map] at hp hq
      cases hj : ps[j]? with
      | none => rw [hj] at hp; cases hp
      | some y =>
        rw [hj] at hp hq
        simp only [Option.map_some, Option.some.injEq] at hp hq
        subst hp
        subst hq
        have hm : y ∈ ps := List.mem_of_getElem? hj
        obtain ⟨hnt, hsol⟩ := hreq' y hm
        exact (rep_cells hnt hsol (ho y.2 (by simp only [Op.operands, List.mem_toArray, List.mem_map]; exact ⟨y, hm, rfl⟩))).1)
    (cstL_rep S w _) hf
  refine ⟨.agg us', fun o hop => ?_, us'.toList, by simp, h2⟩
  have hmap : (Array.map (fun x : Nat × Operand => (x.1, e x.2)) ps.toArray).toList = ps.map fun p => (p.1, e p.2) := by simp
  have hfc : Instr.fill (fun i => some (i * s, s)) zv.cells (ps.map fun p => (p.1, e p.2)) = some us' := by
    rw [← h1]
    refine fill_congr _ _ fun p hp => ?_
    obtain ⟨q, hq, rfl⟩ := List.mem_map.1 hp
    have := hps q hq
    simp [arrFl, this]
  simp only [execOp, hop, Instr.build, Sem.run_bind, zeroValue, typeInfo, run_program, hi, hzv, Result.andThen_ok, Sem.run_pure, run_underlying hu, (tSz_run hsz w).2]
  rw [hmap, hfc]
  rfl
end
end Go.AI
