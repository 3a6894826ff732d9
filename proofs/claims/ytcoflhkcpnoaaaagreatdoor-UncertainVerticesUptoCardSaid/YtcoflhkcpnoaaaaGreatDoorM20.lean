/- Blocks of one proof, laid one behind the other by a program (merge2.py). -/
import Derived.Test.YtcoflhkcpnoaaaaGreatDoorM19
set_option linter.unusedSimpArgs false
set_option linter.unusedVariables false
namespace Go.AI
@[go_sem] theorem one_map (m : Option Nat) : (Value.map m).oneCell' = true := rfl
@[go_sem] theorem one_ptr (m : Option Addr) : (Value.pointer m).oneCell' = true := rfl
section
variable {E : Env} {K : List It} {σ σ' : Sl} {h : Heap}
theorem aw_frzC {gT gP m n n' j0 : Nat} {ty tp : TypeId} {f f' fp : Nat → CV} (hf : f j0 = .osl gP 1 0 n') (hn : n' ≤ n) (hf' : f' j0 = .row true 1 n' fp) (hfo : ∀ j, j < m → j ≠ j0 → f' j = f j) (ho : ¬ E.C.own0 gP)
    (k : aw E K σ ((gT, .cells ty m f') :: h)) : aw E K σ ((gT, .cells ty m f) :: (gP, .cells tp n fp) :: h) := fun a w st => by
  refine k a w ?_
  have hnd := st.nodup
  simp only [Heap.keys, List.map_cons, List.nodup_cons, List.mem_cons, not_or] at hnd
  obtain ⟨⟨hTP, hTh⟩, hPh, hh⟩ := hnd
  have hgm : (gP, AObj.cells tp n fp) ∈ (gT, AObj.cells ty m f) :: (gP, .cells tp n fp) :: h := List.mem_cons_of_mem _ (List.mem_cons_self ..)
  have hkg : gP ∈ Heap.keys ((gT, AObj.cells ty m f) :: (gP, .cells tp n fp) :: h) := List.mem_map.2 ⟨_, hgm, rfl⟩
  have hks : ∀ b, b ∈ Heap.keys ((gT, AObj.cells ty m f') :: h) → b ∈ Heap.keys ((gT, AObj.cells ty m f) :: (gP, .cells tp n fp) :: h) := fun b hb => by
    simp only [Heap.keys, List.map_cons, List.mem_cons] at hb ⊢
    exact hb.imp id .inr
  have kp : Keeps (Stab E.C ((gT, .cells ty m f) :: (gP, .cells tp n fp) :: h) w) (Stab E.C ((gT, .cells ty m f') :: h) w) w w := ⟨fun t b hb => ⟨hb.1, hb.2.1, fun hm => hb.2.2 (hks b hm)⟩, fun _ _ _ => rfl, fun _ _ e => e⟩
  refine ⟨st.size, st.defers, fun t => Rep.keep kp (st.slots t), fun g ob hm => ?_, ?_, fun g hg => st.keys g (hks g hg), st.frame⟩
  · rcases List.mem_cons.1 hm with e | hm
    · rw [Prod.mk.injEq] at e
      obtain ⟨e1, e2⟩ := e
      rw [e1, e2]
      clear hm e1 e2
      obtain ⟨cs, hb, hcs, hj⟩ := st.heap gT _ (List.mem_cons_self ..)
      refine ⟨cs, hb, hcs, fun j hjm => ?_⟩
      obtain ⟨u, hu, hr⟩ := hj j hjm
      refine ⟨u, hu, ?_⟩
      by_cases e : j = j0
      · subst e
        rw [hf] at hr
        rw [hf']
        obtain ⟨c, hv, hc, _, _⟩ := hr
        obtain ⟨cs2, hb2, hcs2, hj2⟩ := st.heap gP _ hgm
        refine ⟨some ⟨gP, 0, none⟩, c, hv, hc, fun _ => ⟨⟨gP, 0, none⟩, rfl, ⟨.inr ((st.keys gP hkg).resolve_left ho), st.klt hkg, ?_⟩, fun q hq => ?_⟩⟩
        · simp only [Heap.keys, List.map_cons, List.mem_cons, not_or]
          exact ⟨fun e => hTP e.symm, hPh⟩
        · obtain ⟨u2, hu2, hr2⟩ := hj2 q (by omega)
          exact ⟨u2, by rw [add_mk, Nat.zero_add, cell_own hb2]; exact hu2, hr2.keep kp⟩
      · rw [hfo j hjm e]
        exact hr.keep kp
    · exact ORep.keep kp rfl (st.heap g ob (List.mem_cons_of_mem _ (List.mem_cons_of_mem _ hm)))
  · simp only [Heap.keys, List.map_cons, List.nodup_cons]
    exact ⟨hTh, hh⟩
end
end Go.AI
namespace Go.Proofs.YtcoflhkcpnoaaaaGreatDoor
open Go.AI Go.PN
attribute [local irreducible] aw Fa Fh DrK
theorem make_is' (n : Nat) : (fun j => [CV.int .i64 0][j % 1]?.getD .any) = isF (List.replicate n 0) := by
  have := make_is n
  simpa only [ofL_at] using this
theorem pl_ok {o : List Int} (hp : Perm0 o) : PlOk o (placesL o) := ⟨placesL_len o, fun _ hv => placesL_get hv⟩
set_option maxRecDepth 100000 in
set_option maxHeartbeats 3200000 in
theorem new_fh (o : List Int) (hp : Perm0 o) (h24 : o.length ≤ 24) :
    Fh Tryz.prog 89 [] [.c (is false o)] (fun x h => ∃ gT gU gM, x = .c (.optr gT 0) ∧ h = THp gT gU gM none o (placesL o) [] []) := by
  refine fh_of_body Tryz.func89 rfl rfl (by simp [Tryz.ntmps89]) fun C hC => ?_
  simp only [initS, Nat.reduceAdd]
  refine xG ?_
  refine aw_drB 7 ty_mixed (by kernel_rfl) ?_
  repeat first | (refine drb_2q true rfl (fun R hR => ?_); simp only [go_sem]; (with_reducible refine hR _ _ ?_ ?_); (focus (((try simp only [inRange]) <;> and_intros <;> first | exact True.intro | omega | trivial); done)); clear hR R) | fail
  refine drb_calm (CalmX.copy (size := 1) (z := [.int .i64 0]) rfl rfl rfl eE eE rfl (by omega) eE eE .row (by unfold maxLen; omega) (by omega)) ?_
  refine xS ?_
  repeat first | (refine drb_2q true rfl (fun R hR => ?_); simp only [go_sem]; (with_reducible refine hR _ _ ?_ ?_); (focus (((try simp only [inRange]) <;> and_intros <;> first | exact True.intro | omega | trivial); done)); clear hR R) | fail
  refine drb_new rfl (NewX.make (n := o.length) (c := o.length) (size := 1) (z := [.int .i64 0]) rfl rfl rfl eE eE rfl (by omega) eE eE rfl rfl (by omega) (by omega) (by omega)) (by kernel_rfl) ?_
  refine xS ?_
  refine drb_new rfl (NewX.makeMap (Kf := dkV) rfl rfl rfl) (by kernel_rfl) ?_
  refine xS ?_
  refine drb_new rfl (NewX.makeMap (Kf := key3) rfl rfl rfl) (by kernel_rfl) ?_
  refine xS ?_
  refine drb_nil fun γ => ?_
  refine xS ?_
  rw [make_is' o.length]
  generalize γ 4 = gP
  generalize γ 5 = gU
  generalize γ 6 = gM
  refine xG ?_
  refine xB fun gT hn_gT=>?_
  refine yG hn_gT ?_
  refine aw_nd fun hnd => ?_
  simp only [Heap.keys, List.map_cons, List.map_nil] at hnd
  replace hnd := ndP_of hnd
  dsimp only [ndP, neA] at hnd
  clear hn_gT
  refine aw_lp (fun x : Nat × List Int => [(0, .c (is false o)), (3, .c (.optr gT 0)), (15, .c (is false o)), (16, .c (.int .i64 o.length)), (17, .c (.int .i64 x.1))]) (fun x => [(gT, .cells 156 5 (ofL [is true o, .osl gP 1 0 o.length, .nils, .raw (.map (some gU)), .raw (.map (some gM))])), (gP, .cells 3 o.length (isF x.2)), (gU, .gen (MapI dkV [])), (gM, .gen (MapI key3 []))])
    (fun x => x.1 ≤ o.length ∧ x.2.length = o.length ∧ ∀ j, j < x.1 → x.2.getD (o.getD j 0).toNat 0 = j) (fun x => o.length - x.1) (0, List.replicate o.length 0) (zB hnd) zZ ⟨Nat.zero_le _, List.length_replicate .., fun j hj => by omega⟩ ?_
  rintro ⟨k, zs⟩ ⟨hk, hzl, hz⟩
  dsimp only at hk hzl hz ⊢
  refine yG hnd ?_
  refine yF hnd (fun h1=>?_) fun h1=>?_
  · have h1' : k < o.length := by have := of_decide_eq_true h1; omega
    have hrg := hp.range (o.getD k 0) (by rw [getDZ h1']; exact List.getElem_mem h1')
    refine yG hnd ?_
    refine yW hnd ?_
    refine yS hnd ?_
    obtain ⟨v, hv⟩ : ∃ v : Nat, o.getD k 0 = v := ⟨(o.getD k 0).toNat, by omega⟩
    rw [hv, Int.toNat_natCast, updF_is (by omega)]
    refine yG hnd ?_
    refine aw_stop ⟨(k + 1, zs.set v k), by dsimp only; omega, (zB hnd), zZ, by dsimp only; omega, by simpa using hzl, fun j hj => ?_⟩
    dsimp only at hj ⊢
    by_cases e : j = k
    · subst e
      rw [hv, Int.toNat_natCast, List.getD_eq_getElem?_getD, List.getElem?_set_self (by omega)]
      rfl
    · have hne : (o.getD j 0).toNat ≠ v := fun e2 => by
        have hj' : j < o.length := by omega
        have hr2 := hp.range (o.getD j 0) (by rw [getDZ hj']; exact List.getElem_mem hj')
        have p1 := place_get hp.nodup hj'
        have p2 := place_get hp.nodup h1'
        rw [show o.getD j 0 = o.getD k 0 from by omega] at p1
        omega
      rw [List.getD_eq_getElem?_getD, List.getElem?_set_ne (fun e => hne e.symm), ← List.getD_eq_getElem?_getD]
      exact hz j (by omega)
  · have h1' : k = o.length := by have := of_decide_eq_false h1; omega
    subst h1'
    have hpl := places_end hp hzl hz
    subst hpl
    refine yG hnd ?_
    refine aw_frzC (j0 := 1) (n' := o.length) (f' := ofL [is true o, is true (placesL o), .nils, .raw (.map (some gU)), .raw (.map (some gM))]) rfl (Nat.le_refl _) (by show CV.row true 1 (placesL o).length _ = _; rw [placesL_len]) (fun j hj hne => ?_) ?_ ?_
    · match j, hj, hne with
      | 0, _, _ => rfl
      | 1, _, hne => exact absurd rfl hne
      | 2, _, _ => rfl
      | 3, _, _ => rfl
      | 4, _, _ => rfl
    · exact fun h => by have := (hC gP).1 h; simp [Heap.keys] at this
    refine yU hnd ?_
    exact ⟨gT, gU, gM, rfl, rfl⟩
theorem getZset {l : List Int} {i : Nat} {v : Int} (h : i < l.length) : (l.set i v).getD i 0 = v := by
  rw [List.getD_eq_getElem?_getD, List.getElem?_set_self h]; rfl
theorem getZset' {l : List Int} {i j : Nat} {v : Int} (h : j ≠ i) : (l.set i v).getD j 0 = l.getD j 0 := by
  rw [List.getD_eq_getElem?_getD, List.getElem?_set_ne (fun e => h e.symm), ← List.getD_eq_getElem?_getD]
structure ImOk (d : DG) (ns : List DN) (rs : List Int) (k : Nat) : Prop where
  ref : ∀ r : Nat, r < k + 2 → RefOk ns (rs.getD r 0) ∧ lvZ d.order d.nodes r ≤ lvZ d.order ns (rs.getD r 0) ∧ ∀ s, evalD ns s (rs.getD r 0) = evalD d.nodes s r
end Go.Proofs.YtcoflhkcpnoaaaaGreatDoor
namespace Go.PN
open Go.AI
def cntH (ns : List DN) (refs : List Int) (s : Nat) : Nat := (refs.filter fun r => evalD ns s r).length
theorem cntH_push (ns : List DN) (refs : List Int) (r : Int) (s : Nat) : cntH ns (refs ++ [r]) s = cntH ns refs s + if evalD ns s r then 1 else 0 := by
  unfold cntH
  rw [List.filter_append, List.length_append, List.filter_cons]
  split <;> simp
structure NeedOk (ns0 : List DN) (refs : List Int) (ns : List DN) (zs : List Int) (k i jj : Nat) : Prop where
  len : zs.length = k + 1
  at' : ∀ q, q ≤ k → RefOk ns (zs.getD q 0) ∧ ∀ s, evalD ns s (zs.getD q 0) = decide (q ≤ cntH ns0 (refs.take (if jj < q then i + 1 else i)) s)
end Go.PN
namespace Go.Proofs.YtcoflhkcpnoaaaaGreatDoor
open Go.AI Go.PN
attribute [local irreducible] aw Fa Fh DrK
theorem need_start {ns : List DN} {refs : List Int} {k : Nat} : NeedOk ns refs ns ((List.replicate (k + 1) 0).set 0 1) k 0 k := by
  refine ⟨by simp, fun q hq => ?_⟩
  rw [if_neg (by omega), List.take_zero]
  by_cases h : q = 0
  · subst h
    rw [getZset (by simp)]
    exact ⟨ref1, fun s => by rw [ev1]; simp⟩
  · rw [getZset' h]
    have : (List.replicate (k + 1) (0 : Int)).getD q 0 = 0 := by
      rw [List.getD_eq_getElem?_getD, List.getElem?_replicate]; split <;> rfl
    rw [this]
    exact ⟨ref0, fun s => by rw [ev0]; show false = decide (q ≤ 0); exact (decide_eq_false (by omega)).symm⟩
theorem need_round {ns0 ns : List DN} {refs zs : List Int} {k i : Nat} (h : NeedOk ns0 refs ns zs k i 0) : NeedOk ns0 refs ns zs k (i + 1) k := by
  refine ⟨h.len, fun q hq => ?_⟩
  obtain ⟨h1, h2⟩ := h.at' q hq
  refine ⟨h1, fun s => ?_⟩
  rw [h2 s, if_neg (show ¬ k < q by omega)]
  by_cases e : q = 0
  · subst e; simp
  · rw [if_pos (by omega)]
theorem need_step {o : List Int} {ns0 ns ns2 : List DN} {refs zs : List Int} {k i q n m : Nat} (ht0 : TabOk o ns0) (hl0 : Later o ns0 ns m) (ht : TabOk o ns) (hl : Later o ns ns2 n) (h : NeedOk ns0 refs ns zs k i (q + 1)) (hq : q + 1 ≤ k) (hi : i < refs.length) (hr : RefOk ns0 (refs.getD i 0)) {r : Int} (hr2 : RefOk ns2 r)
    (he : ∀ s, evalD ns2 s r = if evalD ns s (refs.getD i 0) then evalD ns s (zs.getD q 0) else evalD ns s (zs.getD (q + 1) 0)) : NeedOk ns0 refs ns2 (zs.set (q + 1) r) k i q := by
  have hzl := h.len
  refine ⟨by rw [List.length_set]; exact hzl, fun p hp => ?_⟩
  by_cases e : p = q + 1
  · subst e
    rw [getZset (by omega)]
    refine ⟨hr2, fun s => ?_⟩
    rw [he s, hl0.eval ht0 hr, (h.at' q (by omega)).2 s, (h.at' (q + 1) (by omega)).2 s, if_pos (show q < q + 1 by omega), if_neg (show ¬ q + 1 < q by omega), if_neg (show ¬ q + 1 < q + 1 by omega), List.take_succ_eq_append_getElem hi, cntH_push, ← getDZ hi]
    cases evalD ns0 s (refs.getD i 0) <;> simp
  · rw [getZset' e]
    obtain ⟨h1, h2⟩ := h.at' p hp
    refine ⟨hl.ref h1, fun s => ?_⟩
    rw [hl.eval ht h1, h2 s]
    by_cases e2 : q < p
    · rw [if_pos e2, if_pos (show q + 1 < p by omega)]
    · rw [if_neg e2, if_neg (show ¬ q + 1 < p by omega)]
set_option maxRecDepth 100000 in
set_option maxHeartbeats 6400000 in
theorem vote_fh (gT gU gM : Nat) {o pl : List Int} (ho : OdOk o pl) {og : Option Nat} {ns : List DN} {mm : Mem3} (hs : TS o og ns mm) (refs : List Int) (hl : refs.length ≤ 1000) (k : Nat) (hk : k ≤ 1000) (hn : ns.length + refs.length * (k * 2 ^ (o.length + 1)) + 2 ^ (o.length + 1) ≤ 1000000000) (hr : ∀ r ∈ refs, RefOk ns r) :
    Fh Tryz.prog 131 (THp gT gU gM og o pl ns mm) [.c (.optr gT 0), .c (is true refs), .c (.int .i64 k)] (OpQ gT gU gM o pl ns (refs.length * (k * 2 ^ (o.length + 1))) fun s => decide (k ≤ cntH ns refs s)) := by
  refine fh_of_body Tryz.func131 rfl rfl (by simp [Tryz.ntmps131]) fun C hC => ?_
  simp only [initS, Nat.reduceAdd]
  refine xG ?_
  refine aw_make (n := k + 1) (c := k + 1) (size := 1) (bytes := 8) (z := [.int .i64 0]) rfl rfl rfl eE eE rfl (by omega) eE eE (by omega) (by omega) (by omega) (by omega) (by omega) fun gN hn_gN => ?_
  clear hn_gN
  simp only [Nat.mul_one]
  rw [make_is]
  simp only [THp, TH, List.cons_append, List.nil_append]
  refine aw_nd fun hnd => ?_
  simp only [Heap.keys, List.map_cons] at hnd
  replace hnd := ndP_of hnd
  dsimp only [ndP, neA] at hnd
  refine yS hnd ?_
  refine yG hnd ?_
  refine yW hnd ?_
  refine yS hnd ?_
  rw [updF_is (zs := List.replicate (k + 1) 0) (i := 0) (v := 1) (by rw [List.length_replicate]; omega)]
  refine yG hnd ?_
  have hcost : ∀ i j : Nat, i * (k * 2 ^ (o.length + 1)) + j * 2 ^ (o.length + 1) + 2 ^ (o.length + 1) = i * (k * 2 ^ (o.length + 1)) + (j + 1) * 2 ^ (o.length + 1) := fun i j => by rw [Nat.succ_mul]; omega
  refine aw_lp (fun y : Nat × Option Nat × List DN × Mem3 × List Int => [(0, .c (.optr gT 0)), (2, .c (.int .i64 k)), (7, .c (.osl gN 1 0 (k + 1))), (16, .c (is true refs)), (17, .c (.int .i64 refs.length)), (18, .c (.int .i64 y.1))]) (fun y => [(gN, .cells 3 (k + 1) (isF y.2.2.2.2))] ++ THp gT gU gM y.2.1 o pl y.2.2.1 y.2.2.2.1)
    (fun y => y.1 ≤ refs.length ∧ TS o y.2.1 y.2.2.1 y.2.2.2.1 ∧ Later o ns y.2.2.1 (y.1 * (k * 2 ^ (o.length + 1))) ∧ NeedOk ns refs y.2.2.1 y.2.2.2.2 k y.1 k) (fun y => refs.length - y.1) (0, og, ns, mm, (List.replicate (k + 1) 0).set 0 1) (zB hnd) zZ ⟨Nat.zero_le _, hs, Later.refl hs.tab _, need_start⟩ ?_
  clear hnd
  rintro ⟨i, og1, ns1, mm1, zs1⟩ ⟨hi, h1, h2, h3⟩
  dsimp only at hi h1 h2 h3 ⊢
  refine xG ?_
  refine xF (fun hb=>?_) fun hb=>?_
  · have hb' : i < refs.length := by have := of_decide_eq_true hb; omega
    have hri : RefOk ns (refs.getD i 0) := by rw [getDZ hb']; exact hr _ (List.getElem_mem hb')
    have hle : (i + 1) * (k * 2 ^ (o.length + 1)) ≤ refs.length * (k * 2 ^ (o.length + 1)) := Nat.mul_le_mul_right _ hb'
    have hle1 : (i + 1) * (k * 2 ^ (o.length + 1)) = i * (k * 2 ^ (o.length + 1)) + k * 2 ^ (o.length + 1) := Nat.succ_mul ..
    refine xG ?_
    refine aw_lp (fun y : Nat × Option Nat × List DN × Mem3 × List Int => [(0, .c (.optr gT 0)), (2, .c (.int .i64 k)), (7, .c (.osl gN 1 0 (k + 1))), (16, .c (is true refs)), (17, .c (.int .i64 refs.length)), (18, .c (.int .i64 i)), (9, .c (.int .i64 (refs.getD i 0))), (10, .c (.int .i64 y.1))]) (fun y => [(gN, .cells 3 (k + 1) (isF y.2.2.2.2))] ++ THp gT gU gM y.2.1 o pl y.2.2.1 y.2.2.2.1)
      (fun y => y.1 ≤ k ∧ TS o y.2.1 y.2.2.1 y.2.2.2.1 ∧ Later o ns y.2.2.1 (i * (k * 2 ^ (o.length + 1)) + (k - y.1) * 2 ^ (o.length + 1)) ∧ NeedOk ns refs y.2.2.1 y.2.2.2.2 k i y.1) (fun y => y.1) (k, og1, ns1, mm1, zs1) eB zZ ⟨Nat.le_refl _, h1, h2.trans (Later.refl h1.tab 0) (by omega), h3⟩ ?_
    clear h1 h2 h3 og1 ns1 mm1 zs1
    rintro ⟨j, og1, ns1, mm1, zs⟩ ⟨hj, h1, h2, h3⟩
    dsimp only at hj h1 h2 h3 ⊢
    refine xG ?_
    refine xF (fun hj0=>?_) fun hj0=>?_
    · obtain ⟨q, rfl⟩ : ∃ q, j = q + 1 := ⟨j - 1, by have := of_decide_eq_true hj0; omega⟩
      have hqi : ((q + 1 : Nat) : Int) - 1 = (q : Nat) := by omega
      have hzl := h3.len
      have hl2 := h2.len
      have hkq : (k - (q + 1) + 1) * 2 ^ (o.length + 1) ≤ k * 2 ^ (o.length + 1) := Nat.mul_le_mul_right _ (by omega)
      have hc1 := hcost i (k - (q + 1))
      have hB1 : ns1.length + 2 ^ (o.length + 1) ≤ 1000000000 := by
        clear hs h1 h2 h3 ho hcost
        generalize 2 ^ (o.length + 1) = B at *
        generalize i * (k * B) = X at *
        generalize (k - (q + 1) + 1) * B = Y at *
        generalize (k - (q + 1)) * B = Z at *
        generalize (i + 1) * (k * B) = U at *
        generalize refs.length * (k * B) = V at *
        generalize k * B = W at *
        omega
      have hB2 : i * (k * 2 ^ (o.length + 1)) + (k - (q + 1)) * 2 ^ (o.length + 1) + (2 ^ (o.length + 1) - 1) ≤ i * (k * 2 ^ (o.length + 1)) + (k - q) * 2 ^ (o.length + 1) := by
        rw [show k - q = k - (q + 1) + 1 from by omega, ← hc1]
        generalize 2 ^ (o.length + 1) = B
        omega
      simp only [THp, TH, List.cons_append, List.nil_append]
      refine aw_nd fun hnd => ?_
      simp only [Heap.keys, List.map_cons] at hnd
      replace hnd := ndP_of hnd
      dsimp only [ndP, neA] at hnd
      refine yG (oj hnd hqi) ?_
      refine aw_cw ([(gN, .cells 3 (k + 1) (isF zs))]) [(0,0),(1,0),(2,0),(3,0),(4,0),(5,0),(6,0),(7,0),(8,0),(9,0),(10,0),(11,0),(12,0),(13,1),(14,0),(15,2)] ty_mixed (by kernel_rfl) eI ?_
      refine yG (oj hnd hqi) ?_
      refine cw_callh (hc := THp gT gU gM og1 o pl ns1 mm1) (hr := [(gN, .cells 3 (k + 1) (isF zs))]) rfl (choose_fh gT gU gM ho h1 hB1 (h2.ref hri) (h3.at' q (by omega)).1 (h3.at' (q + 1) (by omega)).1) rfl rfl rfl (List.perm_append_comm (l₁ := [(gN, _)])) (zL (oj hnd hqi)) (by
        rintro _ _ ⟨_, _, _, _, _, _, _, _, rfl, rfl⟩; exact has0_app2 eI) ?_ (hm := .inr ⟨rfl, rfl⟩)
      rintro _ _ ⟨og2, ns2, mm2, r, e1, e2, e3, e4, rfl, rfl⟩ _
      refine yS (oj hnd hqi) ?_
      refine cw_perm List.perm_append_comm ?_
      simp only [List.cons_append, List.nil_append]
      refine yS (oj hnd hqi) ?_
      refine yG (oj hnd hqi) ?_
      refine cw_store (FP' := []) rfl rfl rfl rfl rfl (zE (oj hnd hqi)) (zE (oj hnd hqi)) (zE (oj hnd hqi)) (zE (oj hnd hqi)) (fun _ e => by cases e) rfl rfl (by show (q + 1) + 1 ≤ _; omega) rfl has0_nil ?_
      simp only [AV.cells]
      rw [updF_is (by omega)]
      refine yS (oj hnd hqi) ?_
      refine yG (oj hnd hqi) ?_
      have he2 := e2.len
      exact aw_stop ⟨(q, og2, ns2, mm2, zs.set (q + 1) r), by dsimp only; omega, (zB (oj hnd hqi)), zZ, by dsimp only; omega, e1, h2.trans e2 hB2, need_step hs.tab h2 h1.tab e2 h3 hj hb' hri e3 e4⟩
    · have hj' : j = 0 := by have := of_decide_eq_false hj0; omega
      subst hj'
      refine xG ?_
      exact aw_stop ⟨(i + 1, og1, ns1, mm1, zs), by dsimp only; omega, eB, zZ, by dsimp only; omega, h1, h2.trans (Later.refl h1.tab 0) (by dsimp only; rw [Nat.sub_zero]; omega), need_round h3⟩
  · have hb' : i = refs.length := by have := of_decide_eq_false hb; omega
    subst hb'
    have hzl := h3.len
    obtain ⟨h4, h5⟩ := h3.at' k (Nat.le_refl _)
    simp only [Nat.lt_irrefl, if_false, List.take_length] at h5
    refine xG ?_
    refine aw_keep [(6, .c (.int .i64 (zs1.getD k 0)))] (THp gT gU gM og1 o pl ns1 mm1) eB (List.Sublist.cons _ (List.Sublist.refl _)) ?_
    refine xU ?_
    exact ⟨og1, ns1, mm1, _, h1, h2, h4, h5, rfl, rfl⟩
end Go.Proofs.YtcoflhkcpnoaaaaGreatDoor
namespace Go.PN
open Go.AI
structure FrOk (f : FM) : Prop where
  v0 : 0 ≤ f.vars
  v24 : f.vars ≤ 24
  n128 : f.nodes.length ≤ 128
  kind : ∀ i, i < f.nodes.length → 0 ≤ (f.nodes.getD i fn0).kind ∧ (f.nodes.getD i fn0).kind ≤ 5
  ari : ∀ i, i < f.nodes.length → arityB (f.nodes.getD i fn0).kind (f.nodes.getD i fn0).args.length = true
  arg : ∀ i, i < f.nodes.length → ∀ a ∈ (f.nodes.getD i fn0).args, 0 ≤ a ∧ a < f.vars + i
  kc : ∀ i, i < f.nodes.length → kcode (f.nodes.getD i fn0) = 0
  t0 : 0 ≤ f.top
  t1 : f.top < f.vars + f.nodes.length
theorem fr_ok {f : FM} (h : fcode f = 0) : FrOk f := by
  unfold fcode at h
  split at h
  · cases h
  · rename_i h1
    split at h
    · cases h
    · rename_i h2
      split at h
      · rename_i h3; exact absurd h h3
      · rename_i h3
        split at h
        · rename_i h4
          have hz : ∀ j, j < f.nodes.length → fncode f j = 0 := fun j hj => ffirst_zero f.nodes.length 0 (by simpa using h3) j (by omega) (by omega)
          have hs : ∀ j, j < f.nodes.length → (0 ≤ (f.nodes.getD j fn0).kind ∧ (f.nodes.getD j fn0).kind ≤ 5) ∧ arityB (f.nodes.getD j fn0).kind (f.nodes.getD j fn0).args.length = true ∧ (f.nodes.getD j fn0).args.all (argOk f j) = true ∧ kcode (f.nodes.getD j fn0) = 0 := fun j hj => by
            have hc := hz j hj
            unfold fncode at hc
            split at hc
            · cases hc
            · rename_i q1
              split at hc
              · cases hc
              · rename_i q2
                split at hc
                · cases hc
                · rename_i q3
                  exact ⟨by omega, by simpa using q2, by simpa using q3, hc⟩
          unfold fvalidB at h4
          simp only [Bool.and_eq_true, Bool.or_eq_true, decide_eq_true_eq] at h4
          refine ⟨by omega, by omega, by omega, fun i hi => (hs i hi).1, fun i hi => (hs i hi).2.1, fun i hi a ha => ?_, fun i hi => (hs i hi).2.2.2, by omega, by omega⟩
          have := (hs i hi).2.2.1
          rw [List.all_eq_true] at this
          have := this a ha
          unfold argOk at this
          simpa using this
        · cases h
theorem FrOk.len {f : FM} (h : FrOk f) {i : Nat} (hi : i < f.nodes.length) : (f.nodes.getD i fn0).args.length ≤ 16 := by
  have := h.ari i hi
  generalize f.nodes.getD i fn0 = x at *
  unfold arityB at this
  split at this
  · have := of_decide_eq_true this; omega
  · split at this
    · have := of_decide_eq_true this; omega
    · rw [Bool.and_eq_true, decide_eq_true_eq, decide_eq_true_eq] at this; omega
theorem FrOk.at {f : FM} (h : FrOk f) {i j : Nat} (hi : i < f.nodes.length) (hj : j < (f.nodes.getD i fn0).args.length) : 0 ≤ (f.nodes.getD i fn0).args.getD j 0 ∧ (f.nodes.getD i fn0).args.getD j 0 < f.vars + i := by
  refine h.arg i hi _ ?_
  generalize (f.nodes.getD i fn0).args = l at *
  rw [List.getD_eq_getElem?_getD, List.getElem?_eq_getElem hj]
  exact List.getElem_mem hj
def markTo (az : List Int) (ms : List Bool) : Nat → List Bool
  | 0 => ms
  | j + 1 => (markTo az ms j).set (az.getD j 0).toNat true
theorem markTo_len (az : List Int) (ms : List Bool) : ∀ j, (markTo az ms j).length = ms.length
  | 0 => rfl
  | j + 1 => by rw [markTo, List.length_set, markTo_len az ms j]
theorem markTo_keep {az : List Int} {ms : List Bool} {q : Nat} (h : ms.getD q false = true) : ∀ j, (markTo az ms j).getD q false = true
  | 0 => h
  | j + 1 => by
    rw [markTo, List.getD_eq_getElem?_getD]
    have ih := markTo_keep (az := az) h j
    by_cases e : (az.getD j 0).toNat = q
    · subst e
      by_cases hl : (az.getD j 0).toNat < (markTo az ms j).length
      · rw [List.getElem?_set_self hl]; rfl
      · rw [List.getD_eq_getElem?_getD, List.getElem?_eq_none (by omega)] at ih; cases ih
    · rw [List.getElem?_set_ne e, ← List.getD_eq_getElem?_getD]; exact ih
theorem markTo_out {az : List Int} {ms : List Bool} {q : Nat} (h : ∀ j, j < az.length → (az.getD j 0).toNat ≠ q) : ∀ j, j ≤ az.length → (markTo az ms j).getD q false = ms.getD q false
  | 0, _ => rfl
  | j + 1, hj => by
    rw [markTo, List.getD_eq_getElem?_getD, List.getElem?_set_ne (h j (by omega)), ← List.getD_eq_getElem?_getD, markTo_out h j (by omega)]
theorem markTo_in {az : List Int} {ms : List Bool} : ∀ {j q : Nat}, q < j → (az.getD q 0).toNat < ms.length → (markTo az ms j).getD (az.getD q 0).toNat false = true
  | j + 1, q, h, hl => by
    by_cases e : q = j
    · subst e
      rw [markTo, List.getD_eq_getElem?_getD, List.getElem?_set_self (by rw [markTo_len]; exact hl)]; rfl
    · have ih := markTo_in (az := az) (ms := ms) (show q < j by omega) hl
      rw [markTo, List.getD_eq_getElem?_getD]
      by_cases e2 : (az.getD j 0).toNat = (az.getD q 0).toNat
      · rw [e2, List.getElem?_set_self (by rw [markTo_len]; exact hl)]; rfl
      · rw [List.getElem?_set_ne e2, ← List.getD_eq_getElem?_getD]; exact ih
def belTo (f : FM) : Nat → List Bool
  | 0 => (List.replicate (f.vars.toNat + f.nodes.length) false).set f.top.toNat true
  | j + 1 => if (belTo f j).getD (f.vars.toNat + (f.nodes.length - 1 - j)) false then markTo (f.nodes.getD (f.nodes.length - 1 - j) fn0).args (belTo f j) (f.nodes.getD (f.nodes.length - 1 - j) fn0).args.length else belTo f j
theorem belTo_len (f : FM) : ∀ j, (belTo f j).length = f.vars.toNat + f.nodes.length
  | 0 => by simp [belTo]
  | j + 1 => by
    rw [belTo]
    split
    · rw [markTo_len, belTo_len f j]
    · exact belTo_len f j
abbrev belL (f : FM) : List Bool := belTo f f.nodes.length
theorem belTo_keep {f : FM} {q j : Nat} (h : (belTo f j).getD q false = true) : (belTo f (j + 1)).getD q false = true := by
  rw [belTo]
  split
  · exact markTo_keep h _
  · exact h
theorem belTo_out {f : FM} (ok : FrOk f) {j i : Nat} (hj : j < f.nodes.length) (hi : f.nodes.length - 1 - j ≤ i) : (belTo f (j + 1)).getD (f.vars.toNat + i) false = (belTo f j).getD (f.vars.toNat + i) false := by
  rw [belTo]
  split
  · refine markTo_out (fun q hq => ?_) _ (Nat.le_refl _)
    have := ok.at (i := f.nodes.length - 1 - j) (by omega) hq
    have := ok.v0
    omega
  · rfl
theorem bel_closed {f : FM} (ok : FrOk f) : ∀ j, j ≤ f.nodes.length → ∀ i, f.nodes.length ≤ i + j → i < f.nodes.length → (belTo f j).getD (f.vars.toNat + i) false = true → ∀ q, q < (f.nodes.getD i fn0).args.length → (belTo f j).getD ((f.nodes.getD i fn0).args.getD q 0).toNat false = true
  | 0, _, i, h1, h2, _, _, _ => by omega
  | j + 1, hj, i, h1, h2, hm, q, hq => by
    rw [belTo_out ok (by omega) (by omega)] at hm
    by_cases e : f.nodes.length - 1 - j = i
    · rw [belTo, e, if_pos hm]
      refine markTo_in hq ?_
      have := ok.at h2 hq
      have := ok.v0
      rw [belTo_len]
      omega
    · exact belTo_keep (bel_closed ok j (by omega) i (by omega) h2 hm q hq)
theorem bel_top {f : FM} (ok : FrOk f) : ∀ j, (belTo f j).getD f.top.toNat false = true
  | 0 => by
    have := ok.t0
    have := ok.t1
    have := ok.v0
    rw [belTo, List.getD_eq_getElem?_getD, List.getElem?_set_self (by simp; omega)]; rfl
  | j + 1 => belTo_keep (bel_top ok j)
def szTo (f : FM) : Nat → Nat
  | 0 => 0
  | k + 1 => szTo f k + if (belL f).getD (f.vars.toNat + k) false then 1 else 0
def arTo (f : FM) : Nat → Nat
  | 0 => 0
  | k + 1 => arTo f k + if (belL f).getD (f.vars.toNat + k) false then (f.nodes.getD k fn0).args.length else 0
theorem szTo_le (f : FM) : ∀ k, szTo f k ≤ k
  | 0 => Nat.le_refl _
  | k + 1 => by have := szTo_le f k; rw [szTo]; split <;> omega
theorem arTo_le {f : FM} (ok : FrOk f) : ∀ k, k ≤ f.nodes.length → arTo f k ≤ 16 * k
  | 0, _ => Nat.le_refl _
  | k + 1, h => by
    have := arTo_le ok k (by omega)
    have := ok.len (i := k) (by omega)
    rw [arTo]
    split <;> omega
end Go.PN
namespace Go.Proofs.YtcoflhkcpnoaaaaGreatDoor
open Go.AI Go.PN
attribute [local irreducible] aw Fa Fh DrK
set_option maxRecDepth 100000 in
set_option maxHeartbeats 3200000 in
theorem below_fa (f : FM) (ok : FrOk f) : Fa Tryz.prog 97 [.agg (fmc false f)] (.c (bs true (belL f))) := by
  have v0 := ok.v0
  have v24 := ok.v24
  have n128 := ok.n128
  have t0 := ok.t0
  have t1 := ok.t1
  refine fa_of_body Tryz.func97 rfl rfl (by simp [Tryz.ntmps97]) fun C hC => ?_
  simp only [initS, Nat.reduceAdd]
  refine xG ?_
  refine xB fun g1 hn_g1=>?_
  refine yG hn_g1 ?_
  refine aw_make (n := f.vars.toNat + f.nodes.length) (c := f.vars.toNat + f.nodes.length) (size := 1) (z := [.bool false]) rfl rfl rfl (zE hn_g1) (zE hn_g1) rfl (by omega) (zE hn_g1) (zE hn_g1) (by omega) (by omega) (by omega) (by omega) (by omega) fun g3 hn_g3 => ?_
  simp only [Nat.mul_one]
  rw [make_bs]
  replace hn_g3 := Heap.ne_of hn_g3
  dsimp only [Heap.ne] at hn_g3
  refine yS (oj hn_g1 hn_g3) ?_
  refine yG (oj hn_g1 hn_g3) ?_
  refine yW (oj hn_g1 hn_g3) ?_
  refine yS (oj hn_g1 hn_g3) ?_
  rw [updF_bs (i := f.top.toNat) (zs := List.replicate (f.vars.toNat + f.nodes.length) false) (v := true) (by rw [List.length_replicate]; omega)]
  refine yG (oj hn_g1 hn_g3) ?_
  have hN : ((f.vars.toNat + f.nodes.length : Nat) : Int) = f.vars + f.nodes.length := by omega
  refine aw_lp (fun j : Nat => [(1, .c (.optr g1 0)), (3, .c (.osl g3 1 0 (f.vars.toNat + f.nodes.length))), (4, .c (.int .i64 ((f.nodes.length : Int) - 1 - j)))]) (fun j => [(g3, .cells 4 (f.vars.toNat + f.nodes.length) (bsF (belTo f j))), (g1, .cells 24 3 (ofL (fmc false f)))]) (fun j => j ≤ f.nodes.length) (fun j => f.nodes.length - j) 0 (by refine yS (oj hn_g1 hn_g3) ?_; simp) zZ (Nat.zero_le _) ?_
  rintro j hj
  have hbl := belTo_len f j
  refine yG (oj hn_g1 hn_g3) ?_
  refine yF (oj hn_g1 hn_g3) (fun h1=>?_) fun h1=>?_
  · have h1' : j < f.nodes.length := by have := of_decide_eq_true h1; omega
    obtain ⟨i, hi⟩ : ∃ i : Nat, i = f.nodes.length - 1 - j := ⟨_, rfl⟩
    have hij : (f.nodes.length : Int) - 1 - (j : Int) = (i : Int) := by omega
    have hst : belTo f (j + 1) = if (belTo f j).getD (f.vars.toNat + i) false then markTo (f.nodes.getD i fn0).args (belTo f j) (f.nodes.getD i fn0).args.length else belTo f j := by rw [belTo, hi]
    have hil : i < f.nodes.length := by omega
    have hidx : (f.vars + (i : Int)).toNat = f.vars.toNat + i := by omega
    have hnx : (i : Int) - 1 = (f.nodes.length : Int) - 1 - ((j + 1 : Nat) : Int) := by omega
    have hln := ok.len hil
    have hat := fun q hq => ok.at (j := q) hil hq
    rw [hij]
    refine yG (oj hn_g1 (oj hn_g3 hidx)) ?_
    refine yF (oj hn_g1 (oj hn_g3 hidx)) (fun hm=>?_) fun hm=>?_
    · rw [if_pos hm] at hst
      generalize hx : f.nodes.getD i fn0 = x at *
      refine yG (oj hn_g1 (oj hn_g3 (oj hidx hx))) ?_
      refine aw_lp (fun q : Nat => [(1, .c (.optr g1 0)), (3, .c (.osl g3 1 0 (f.vars.toNat + f.nodes.length))), (4, .c (.int .i64 (i : Int))), (38, .c (is true x.args)), (39, .c (.int .i64 x.args.length)), (40, .c (.int .i64 q))]) (fun q => [(g3, .cells 4 (f.vars.toNat + f.nodes.length) (bsF (markTo x.args (belTo f j) q))), (g1, .cells 24 3 (ofL (fmc false f)))]) (fun q => q ≤ x.args.length) (fun q => x.args.length - q) 0 (zB (oj hn_g1 (oj hn_g3 (oj hidx hx)))) zZ (Nat.zero_le _) ?_
      rintro q hq
      have hml := markTo_len x.args (belTo f j) q
      refine yG (oj hn_g1 (oj hn_g3 (oj hidx hx))) ?_
      refine yF (oj hn_g1 (oj hn_g3 (oj hidx hx))) (fun h2=>?_) fun h2=>?_
      · have h2' : q < x.args.length := by have := of_decide_eq_true h2; omega
        obtain ⟨a0, a1⟩ := hat q h2'
        refine yG (oj hn_g1 (oj hn_g3 (oj hidx hx))) ?_
        refine yW (oj hn_g1 (oj hn_g3 (oj hidx hx))) ?_
        refine yS (oj hn_g1 (oj hn_g3 (oj hidx hx))) ?_
        rw [updF_bs (by omega)]
        refine yG (oj hn_g1 (oj hn_g3 (oj hidx hx))) ?_
        exact aw_stop ⟨q + 1, by omega, (zB (oj hn_g1 (oj hn_g3 (oj hidx hx)))), zZ, by omega⟩
      · have h2' : q = x.args.length := by have := of_decide_eq_false h2; omega
        subst h2'
        refine yG (oj hn_g1 (oj hn_g3 (oj hidx hx))) ?_
        rw [← hst]
        exact aw_stop ⟨j + 1, by omega, by rw [← hnx]; exact (zB (oj hn_g1 (oj hn_g3 (oj hidx hx)))), zZ, by omega⟩
    · have hm' : (belTo f j).getD (f.vars.toNat + i) false = false := hm
      rw [if_neg (by rw [hm']; simp)] at hst
      refine yG (oj hn_g1 (oj hn_g3 hidx)) ?_
      rw [← hst]
      exact aw_stop ⟨j + 1, by omega, by rw [← hnx]; exact (zB (oj hn_g1 (oj hn_g3 hidx))), zZ, by omega⟩
  · have h1' : j = f.nodes.length := by have := of_decide_eq_false h1; omega
    subst h1'
    refine yG (oj hn_g1 hn_g3) ?_
    refine yT hC (oj hn_g1 hn_g3) ?_
    exact .one (.c (ler_oslbs (zE (oj hn_g1 hn_g3)) hbl.symm))
end Go.Proofs.YtcoflhkcpnoaaaaGreatDoor
namespace Go.PN
open Go.AI
noncomputable def valF (f : FM) (s : Nat) (a : Int) : Bool := ofB f (fvTo f s f.nodes.length) s a
def cntV (v : Int → Bool) (az : List Int) : Nat := (az.filter v).length
noncomputable def nodeV (v : Int → Bool) (x : FN) : Bool :=
  if x.kind == 0 then x.k == 1 else if x.kind == 1 then ((cntV v x.args : Nat) : Int) == 0 else if x.kind == 2 then ((cntV v x.args : Nat) : Int) == (x.args.length : Int)
  else if x.kind == 3 then decide (((cntV v x.args : Nat) : Int) > 0) else if x.kind == 4 then decide (((cntV v x.args : Nat) : Int) ≥ x.k) else remZ ((cntV v x.args : Nat) : Int) 2 == 1
theorem cntV_congr {v w : Int → Bool} : ∀ {az : List Int}, (∀ a ∈ az, v a = w a) → cntV v az = cntV w az
  | [], _ => rfl
  | a :: az, h => by
    have ih := cntV_congr (az := az) fun b hb => h b (List.mem_cons_of_mem _ hb)
    unfold cntV at ih ⊢
    rw [List.filter_cons, List.filter_cons, h a (List.mem_cons_self ..)]
    split
    · rw [List.length_cons, List.length_cons, ih]
    · exact ih
theorem cntV_map {v w : Int → Bool} {g : Int → Int} : ∀ {az : List Int}, (∀ a ∈ az, v (g a) = w a) → cntV v (az.map g) = cntV w az
  | [], _ => rfl
  | a :: az, h => by
    have ih := cntV_map (az := az) fun b hb => h b (List.mem_cons_of_mem _ hb)
    unfold cntV at ih ⊢
    rw [List.map_cons, List.filter_cons, List.filter_cons, h a (List.mem_cons_self ..)]
    split
    · rw [List.length_cons, List.length_cons, ih]
    · exact ih
theorem nodeV_congr {v w : Int → Bool} {x : FN} (h : ∀ a ∈ x.args, v a = w a) : nodeV v x = nodeV w x := by
  unfold nodeV
  rw [cntV_congr h]
theorem fvTo_get {f : FM} {s i : Nat} : ∀ {k : Nat}, i < k → k ≤ f.nodes.length → (fvTo f s k).getD i false = nodeB f (fvTo f s i) s (f.nodes.getD i fn0)
  | k + 1, h, hk => by
    rw [fvTo, List.getD_eq_getElem?_getD]
    by_cases e : i = k
    · subst e; rw [List.getElem?_set_self (by rw [fvTo_len]; omega)]; rfl
    · rw [List.getElem?_set_ne (fun x => e x.symm), ← List.getD_eq_getElem?_getD]
      exact fvTo_get (by omega) (by omega)
theorem val_node {f : FM} (ok : FrOk f) {s i : Nat} (hi : i < f.nodes.length) : valF f s (f.vars + i) = nodeV (valF f s) (f.nodes.getD i fn0) := by
  have v0 := ok.v0
  unfold valF
  rw [show ofB f (fvTo f s f.nodes.length) s (f.vars + i) = (fvTo f s f.nodes.length).getD i false from by
    unfold ofB; rw [if_neg (by omega), show (f.vars + (i : Int) - f.vars).toNat = i from by omega]]
  rw [fvTo_get hi (Nat.le_refl _)]
  show nodeV (ofB f (fvTo f s i) s) _ = _
  refine nodeV_congr fun a ha => ?_
  obtain ⟨a0, a1⟩ := ok.arg i hi a ha
  unfold ofB
  split
  · rfl
  · rw [fvTo_get (i := (a - f.vars).toNat) (by omega) (by omega), fvTo_get (i := (a - f.vars).toNat) (by omega) (Nat.le_refl _)]
theorem val_event {f : FM} {s : Nat} {a : Int} (h : a < f.vars) : valF f s a = s.testBit a.toNat := by unfold valF ofB; rw [if_pos h]
def toR (f : FM) (a : Int) : Int := if a < f.vars then a else f.vars + szTo f (a - f.vars).toNat
def trTo (f : FM) : Nat → List FN
  | 0 => []
  | k + 1 => if (belL f).getD (f.vars.toNat + k) false then trTo f k ++ [⟨(f.nodes.getD k fn0).kind, (f.nodes.getD k fn0).k, (f.nodes.getD k fn0).args.map (toR f)⟩] else trTo f k
def trimF (f : FM) : FM := ⟨f.vars, trTo f f.nodes.length, toR f f.top⟩
theorem trTo_len (f : FM) : ∀ k, (trTo f k).length = szTo f k
  | 0 => rfl
  | k + 1 => by
    rw [trTo, szTo]
    split
    · rw [List.length_append, trTo_len f k]; rfl
    · rw [trTo_len f k]; rfl
theorem sz_mono (f : FM) : ∀ {a b : Nat}, a ≤ b → szTo f a ≤ szTo f b
  | a, 0, h => by rw [show a = 0 from by omega]; exact Nat.le_refl _
  | a, b + 1, h => by
    by_cases e : a = b + 1
    · rw [e]; exact Nat.le_refl _
    · have := sz_mono f (show a ≤ b by omega)
      rw [szTo]; omega
theorem sz_lt {f : FM} {i k : Nat} (h : i < k) (hm : (belL f).getD (f.vars.toNat + i) false = true) : szTo f i < szTo f k := by
  have h1 : szTo f (i + 1) = szTo f i + 1 := by rw [szTo, if_pos hm]
  have := sz_mono f (show i + 1 ≤ k from h)
  omega
theorem trTo_get {f : FM} {i : Nat} (hm : (belL f).getD (f.vars.toNat + i) false = true) : ∀ {k : Nat}, i < k → (trTo f k).getD (szTo f i) fn0 = ⟨(f.nodes.getD i fn0).kind, (f.nodes.getD i fn0).k, (f.nodes.getD i fn0).args.map (toR f)⟩
  | k + 1, h => by
    rw [trTo]
    by_cases e : i = k
    · subst e
      rw [if_pos hm, List.getD_eq_getElem?_getD, List.getElem?_append_right (by rw [trTo_len]; exact Nat.le_refl _), trTo_len, Nat.sub_self]; rfl
    · have hlt := sz_lt (show i < k by omega) hm
      split
      · rw [List.getD_eq_getElem?_getD, List.getElem?_append_left (by rw [trTo_len]; exact hlt), ← List.getD_eq_getElem?_getD]
        exact trTo_get hm (by omega)
      · exact trTo_get hm (by omega)
theorem trTo_from {f : FM} : ∀ {k q : Nat}, q < szTo f k → ∃ i, i < k ∧ (belL f).getD (f.vars.toNat + i) false = true ∧ szTo f i = q
  | k + 1, q, h => by
    rw [szTo] at h
    split at h
    · rename_i hm
      by_cases e : q = szTo f k
      · exact ⟨k, by omega, hm, e.symm⟩
      · obtain ⟨i, h1, h2, h3⟩ := trTo_from (show q < szTo f k by omega)
        exact ⟨i, by omega, h2, h3⟩
    · obtain ⟨i, h1, h2, h3⟩ := trTo_from (show q < szTo f k by omega)
      exact ⟨i, by omega, h2, h3⟩
theorem bel_arg {f : FM} (ok : FrOk f) {i : Nat} (hi : i < f.nodes.length) (hm : (belL f).getD (f.vars.toNat + i) false = true) {a : Int} (ha : a ∈ (f.nodes.getD i fn0).args) : (belL f).getD a.toNat false = true := by
  obtain ⟨q, hq, rfl⟩ := List.mem_iff_getElem.1 ha
  have := bel_closed ok f.nodes.length (Nat.le_refl _) i (by omega) hi hm q hq
  rwa [show (f.nodes.getD i fn0).args.getD q 0 = (f.nodes.getD i fn0).args[q] from getDZ hq] at this
theorem toR_lt {f : FM} (ok : FrOk f) {a : Int} {k : Nat} (h0 : 0 ≤ a) (h1 : a < f.vars + k) (hm : (belL f).getD a.toNat false = true) : 0 ≤ toR f a ∧ toR f a < f.vars + szTo f k := by
  have v0 := ok.v0
  unfold toR
  split
  · omega
  · have hm' : (belL f).getD (f.vars.toNat + (a - f.vars).toNat) false = true := by rw [show f.vars.toNat + (a - f.vars).toNat = a.toNat from by omega]; exact hm
    have := sz_lt (f := f) (i := (a - f.vars).toNat) (k := k) (by omega) hm'
    omega
theorem trim_ok {f : FM} (ok : FrOk f) : FrOk (trimF f) := by
  have hl : (trimF f).nodes.length = szTo f f.nodes.length := trTo_len f _
  have hget : ∀ q, q < (trimF f).nodes.length → ∃ i, i < f.nodes.length ∧ (belL f).getD (f.vars.toNat + i) false = true ∧ szTo f i = q ∧ (trimF f).nodes.getD q fn0 = ⟨(f.nodes.getD i fn0).kind, (f.nodes.getD i fn0).k, (f.nodes.getD i fn0).args.map (toR f)⟩ := fun q hq => by
    obtain ⟨i, h1, h2, h3⟩ := trTo_from (f := f) (k := f.nodes.length) (q := q) (by omega)
    exact ⟨i, h1, h2, h3, by rw [← h3]; exact trTo_get h2 h1⟩
  have hsz := szTo_le f f.nodes.length
  have n128 := ok.n128
  have tl := toR_lt ok ok.t0 ok.t1 (bel_top ok _)
  refine ⟨ok.v0, ok.v24, by omega, fun q hq => ?_, fun q hq => ?_, fun q hq a ha => ?_, fun q hq => ?_, tl.1, by rw [hl]; exact tl.2⟩
  · obtain ⟨i, h1, h2, h3, h4⟩ := hget q hq
    rw [h4]; exact ok.kind i h1
  · obtain ⟨i, h1, h2, h3, h4⟩ := hget q hq
    rw [h4]
    show arityB _ (List.map (toR f) _).length = true
    rw [List.length_map]; exact ok.ari i h1
  · obtain ⟨i, h1, h2, h3, h4⟩ := hget q hq
    rw [h4] at ha
    obtain ⟨b, hb, rfl⟩ := List.mem_map.1 ha
    obtain ⟨b0, b1⟩ := ok.arg i h1 b hb
    have := toR_lt ok b0 b1 (bel_arg ok h1 h2 hb)
    rw [h3] at this
    exact this
  · obtain ⟨i, h1, h2, h3, h4⟩ := hget q hq
    rw [h4]
    have := ok.kc i h1
    unfold kcode at this ⊢
    simp only [List.length_map]
    exact this
theorem trim_val {f : FM} (ok : FrOk f) (s : Nat) : ∀ (n : Nat) (a : Int), a.toNat < n → 0 ≤ a → a < f.vars + f.nodes.length → (belL f).getD a.toNat false = true → valF (trimF f) s (toR f a) = valF f s a := by
  have v0 := ok.v0
  intro n
  induction n with
  | zero => intro a hn; omega
  | succ n ih =>
    intro a hn h0 h1 hm
    by_cases hv : a < f.vars
    · rw [show toR f a = a from by unfold toR; rw [if_pos hv], val_event hv, val_event (show a < (trimF f).vars from hv)]
    · obtain ⟨i, hi⟩ : ∃ i : Nat, a = f.vars + i := ⟨(a - f.vars).toNat, by omega⟩
      subst hi
      have hi : i < f.nodes.length := by omega
      have hm' : (belL f).getD (f.vars.toNat + i) false = true := by rw [show f.vars.toNat + i = (f.vars + (i : Int)).toNat from by omega]; exact hm
      have hlt := sz_lt (k := f.nodes.length) hi hm'
      have hto : toR f (f.vars + i) = (trimF f).vars + (szTo f i : Nat) := by
        unfold toR
        rw [if_neg (by omega), show (f.vars + (i : Int) - f.vars).toNat = i from by omega]; rfl
      rw [hto, val_node (trim_ok ok) (i := szTo f i) (by show szTo f i < (trTo f f.nodes.length).length; rw [trTo_len]; exact hlt), val_node ok hi]
      rw [show (trimF f).nodes.getD (szTo f i) fn0 = ⟨(f.nodes.getD i fn0).kind, (f.nodes.getD i fn0).k, (f.nodes.getD i fn0).args.map (toR f)⟩ from trTo_get hm' hi]
      have hc : cntV (valF (trimF f) s) ((f.nodes.getD i fn0).args.map (toR f)) = cntV (valF f s) (f.nodes.getD i fn0).args := cntV_map fun b hb => by
        obtain ⟨b0, b1⟩ := ok.arg i hi b hb
        exact ih b (by omega) b0 (by omega) (bel_arg ok hi hm' hb)
      unfold nodeV
      simp only [hc, List.length_map]
theorem trim_top {f : FM} (ok : FrOk f) (s : Nat) : valF (trimF f) s (trimF f).top = valF f s f.top := trim_val ok s (f.top.toNat + 1) f.top (by omega) ok.t0 ok.t1 (bel_top ok _)
theorem sz_zero {f : FM} (ok : FrOk f) (h : szTo f f.nodes.length = 0) : f.top < f.vars := by
  refine Classical.byContradiction fun hc => ?_
  have t1 := ok.t1
  have v0 := ok.v0
  have hm := bel_top ok f.nodes.length
  have hm' : (belL f).getD (f.vars.toNat + (f.top - f.vars).toNat) false = true := by rw [show f.vars.toNat + (f.top - f.vars).toNat = f.top.toNat from by omega]; exact hm
  have := sz_lt (f := f) (i := (f.top - f.vars).toNat) (k := f.nodes.length) (by omega) hm'
  omega
end Go.PN
namespace Go.Proofs.YtcoflhkcpnoaaaaGreatDoor
open Go.AI Go.PN
attribute [local irreducible] aw Fa Fh DrK
set_option maxRecDepth 100000 in
set_option maxHeartbeats 3200000 in
theorem fsize_fa (f : FM) (hn : f.nodes.length ≤ 1099511627776) (ha : ArgsOk f) (hc : fcode f = 0) : Fa Tryz.prog 87 [.agg (fmc false f)] (.tup [.c (.int .i64 (szTo f f.nodes.length)), .c (.int .i64 (arTo f f.nodes.length)), .c .nilI]) := by
  have ok := fr_ok hc
  have v0 := ok.v0
  have v24 := ok.v24
  have n128 := ok.n128
  have t0 := ok.t0
  have t1 := ok.t1
  have z := ieq_t hc
  have hbl : (belL f).length = f.vars.toNat + f.nodes.length := belTo_len f f.nodes.length
  refine fa_of_body Tryz.func87 rfl rfl (by simp [Tryz.ntmps87]) fun C hC => ?_
  simp only [initS, Nat.reduceAdd]
  refine yG z ?_
  refine yB z fun g1 hn_g1=>?_
  refine yG (oj z hn_g1) ?_
  refine yC (oj z hn_g1) (fcheck_fa f hn ha ?_ ?_) ?_
  · omega
  · omega
  refine yG (oj z hn_g1) ?_
  refine yN (oj z hn_g1) ?_
  refine yG (oj z hn_g1) ?_
  refine aw_dr 7 ty_mixed (by kernel_rfl) ?_
  refine yG (oj z hn_g1) ?_
  refine yD (oj z hn_g1) (below_fa f ok) ?_
  refine yG (oj z hn_g1) ?_
  rw [show (belL f).length - f.vars.toNat = f.nodes.length from by omega]
  refine aw_lp (fun k : Nat => [(1, .c (.optr g1 0)), (2, .c (.int .i64 (szTo f k))), (3, .c (.int .i64 (arTo f k))), (17, .c (.row true 1 f.nodes.length fun j => .bool ((belL f).getD (f.vars.toNat + j) false))), (18, .c (.int .i64 f.nodes.length)), (19, .c (.int .i64 k))]) (fun _ => [(g1, .cells 24 3 (ofL (fmc false f)))]) (fun k => k ≤ f.nodes.length) (fun k => f.nodes.length - k) 0 (zB (oj z hn_g1)) zZ (Nat.zero_le _) ?_
  rintro k hk
  have hsz := szTo_le f k
  have har := arTo_le ok k hk
  refine yG (oj z hn_g1) ?_
  refine yF (oj z hn_g1) (fun h1=>?_) fun h1=>?_
  · have h1' : k < f.nodes.length := by have := of_decide_eq_true h1; omega
    have hln := ok.len h1'
    have hs1 : szTo f (k + 1) = szTo f k + if (belL f).getD (f.vars.toNat + k) false then 1 else 0 := rfl
    have ha1 : arTo f (k + 1) = arTo f k + if (belL f).getD (f.vars.toNat + k) false then (f.nodes.getD k fn0).args.length else 0 := rfl
    refine yG (oj z hn_g1) ?_
    refine yF (oj z hn_g1) (fun hm=>?_) fun hm=>?_
    · rw [if_pos hm] at hs1 ha1
      refine yG (oj z hn_g1) ?_
      exact aw_stop ⟨k + 1, by omega, by rw [hs1, ha1]; exact (zB (oj z hn_g1)), zZ, by omega⟩
    · have hm' : (belL f).getD (f.vars.toNat + k) false = false := hm
      rw [if_neg (by rw [hm']; simp)] at hs1 ha1
      refine yG (oj z hn_g1) ?_
      exact aw_stop ⟨k + 1, by omega, by rw [hs1, ha1]; exact (zB (oj z hn_g1)), zZ, by omega⟩
  · have h1' : k = f.nodes.length := by have := of_decide_eq_false h1; omega
    subst h1'
    refine yG (oj z hn_g1) ?_
    refine yT hC (oj z hn_g1) ?_
    exact .tup ⟨.c (.int _ _), .c (.int _ _), .c .nilI, trivial⟩
end Go.Proofs.YtcoflhkcpnoaaaaGreatDoor
namespace Go.PN
open Go.AI
theorem cntV_cons (v : Int → Bool) (r : Int) (rs : List Int) : cntV v (r :: rs) = (if v r then 1 else 0) + cntV v rs := by
  unfold cntV
  rw [List.filter_cons]
  split
  · rw [List.length_cons]; omega
  · omega
theorem cntV_le (v : Int → Bool) : ∀ rs : List Int, cntV v rs ≤ rs.length := fun rs => List.length_filter_le ..
theorem fold_and (v : Int → Bool) : ∀ (rs : List Int) (b : Bool), rs.foldl (fun b r => b && v r) b = (b && decide (cntV v rs = rs.length))
  | [], b => by simp [cntV]
  | r :: rs, b => by
    rw [List.foldl_cons, fold_and v rs, cntV_cons, List.length_cons, Bool.and_assoc]
    have := cntV_le v rs
    cases h : v r
    · have : ¬ ((0 : Nat) + cntV v rs = rs.length + 1) := by omega
      simp only [Bool.false_eq_true, if_false, Bool.false_and, decide_eq_false this]
    · have : decide (1 + cntV v rs = rs.length + 1) = decide (cntV v rs = rs.length) := decide_eq_decide.2 (by omega)
      simp only [if_true, Bool.true_and, this]
theorem fold_or (v : Int → Bool) : ∀ (rs : List Int) (b : Bool), rs.foldl (fun b r => b || v r) b = (b || decide (0 < cntV v rs))
  | [], b => by simp [cntV]
  | r :: rs, b => by
    rw [List.foldl_cons, fold_or v rs, cntV_cons, Bool.or_assoc]
    cases h : v r
    · simp
    · have : decide (0 < 1 + cntV v rs) = true := decide_eq_true (by omega)
      simp only [if_true, Bool.true_or, this]
theorem fold_xor (v : Int → Bool) : ∀ (rs : List Int) (b : Bool), rs.foldl (fun b r => b != v r) b = (b != decide (cntV v rs % 2 = 1))
  | [], b => by simp [cntV]
  | r :: rs, b => by
    rw [List.foldl_cons, fold_xor v rs, cntV_cons]
    cases h : v r
    · simp
    · have : decide ((1 + cntV v rs) % 2 = 1) = !decide (cntV v rs % 2 = 1) := by
        rw [← decide_not]; exact decide_eq_decide.2 (by omega)
      simp only [if_true, this]
      cases b <;> cases decide (cntV v rs % 2 = 1) <;> rfl
end Go.PN
namespace Go.Proofs.YtcoflhkcpnoaaaaGreatDoor
open Go.AI Go.PN
attribute [local irreducible] aw Fa Fh DrK
set_option maxRecDepth 100000 in
set_option maxHeartbeats 6400000 in
theorem bnode_fh (gT gU gM : Nat) {o pl : List Int} (ho : OdOk o pl) {og : Option Nat} {ns : List DN} {mm : Mem3} (hs : TS o og ns mm) (x : FN) (refs : List Int) (hk0 : 0 ≤ x.kind) (hk5 : x.kind ≤ 5) (hari : arityB x.kind refs.length = true) (hkc : kcode ⟨x.kind, x.k, refs⟩ = 0) (hn : ns.length + 256 * 2 ^ (o.length + 2) ≤ 1000000000) (hr : ∀ r ∈ refs, RefOk ns r) :
    Fh Tryz.prog 91 (THp gT gU gM og o pl ns mm) [.c (.optr gT 0), .agg [.int .i64 x.kind, .int .i64 x.k, is true x.args], .c (is true refs)] (OpQ gT gU gM o pl ns (256 * 2 ^ (o.length + 2)) fun s => nodeV (evalD ns s) ⟨x.kind, x.k, refs⟩) := by
  have hB : 2 ^ (o.length + 2) = 2 ^ (o.length + 1) * 2 := Nat.pow_succ ..
  have hBp : 0 < 2 ^ (o.length + 1) := Nat.pow_pos (by omega)
  unfold arityB at hari
  unfold kcode at hkc
  dsimp only at hkc
  have hl16 : refs.length ≤ 16 := by
    split at hari
    · have := of_decide_eq_true hari; omega
    · split at hari
      · have := of_decide_eq_true hari; omega
      · have := of_decide_eq_true (Bool.and_eq_true_iff.1 hari).2; omega
  have hcost : refs.length * 2 ^ (o.length + 2) ≤ 256 * 2 ^ (o.length + 2) := Nat.mul_le_mul_right _ (by omega)
  refine fh_of_body Tryz.func91 rfl rfl (by simp [Tryz.ntmps91]) fun C hC => ?_
  simp only [initS, Nat.reduceAdd]
  refine xG ?_
  refine xB fun g4 hn_g4=>?_
  refine yG hn_g4 ?_
  refine yF hn_g4 (fun h0=>?_) fun h0=>?_
  · have e : x.kind = 0 := eq_of_beq h0
    rw [if_pos e] at hkc
    have hk : x.k = 0 ∨ x.k = 1 := by
      split at hkc
      · cases hkc
      · omega
    refine yG hn_g4 ?_
    refine aw_keep [(6, .c (.int .i64 x.k))] (THp gT gU gM og o pl ns mm) (zB hn_g4) (List.Sublist.cons _ (List.Sublist.refl _)) ?_
    refine yU hn_g4 ?_
    refine ⟨og, ns, mm, x.k, hs, Later.refl hs.tab _, ?_, fun s => ?_, rfl, rfl⟩
    · rcases hk with h | h <;> rw [h]
      · exact ref0
      · exact ref1
    · unfold nodeV
      dsimp only
      rw [if_pos h0]
      rcases hk with h | h <;> rw [h]
      · exact ev0
      · exact ev1
  refine yG hn_g4 ?_
  refine yF hn_g4 (fun h1=>?_) fun h1=>?_
  · have e : x.kind = 1 := eq_of_beq h1
    rw [if_neg (by omega), if_pos e] at hari
    obtain ⟨q, hq⟩ : ∃ q, refs = [q] := List.length_eq_one_iff.1 (by have := of_decide_eq_true hari; omega)
    subst hq
    refine yG hn_g4 ?_
    refine aw_callh (hc := THp gT gU gM og o pl ns mm) (hr := [(g4, .cells 63 3 (ofL [.int .i64 x.kind, .int .i64 x.k, is true x.args]))]) (tnot_fh gT gU gM ho hs (by omega) (hr q (List.mem_singleton.2 rfl))) rfl rfl rfl (List.perm_append_comm (l₁ := [(g4, _)])) (zL hn_g4) ?_
    rintro _ _ ⟨og', ns', mm', r, e1, e2, e3, e4, rfl, rfl⟩ _
    refine yS hn_g4 ?_
    refine yG hn_g4 ?_
    refine aw_keep [(6, .c (.int .i64 r))] (THp gT gU gM og' o pl ns' mm') (zB hn_g4) (by simp only [THp, TH, List.cons_append, List.nil_append, List.append_assoc]; exact List.sublist_append_left (THp gT gU gM og' o pl ns' mm') _) ?_
    refine yU hn_g4 ?_
    refine ⟨og', ns', mm', r, e1, ⟨e2.tab, e2.pre, by have := e2.len; omega⟩, e3, fun s => ?_, rfl, rfl⟩
    rw [e4]
    unfold nodeV
    dsimp only
    rw [if_neg (by rw [h0]; simp), if_pos h1, cntV_cons]
    cases evalD ns s q <;> rfl
  refine yG hn_g4 ?_
  refine yF hn_g4 (fun h2=>?_) fun h2=>?_
  · have e : x.kind = 2 := eq_of_beq h2
    refine yG hn_g4 ?_
    refine aw_makeFuncB (g := gT) rfl rfl rfl (zE hn_g4) ?_
    refine yS hn_g4 ?_
    refine yG hn_g4 ?_
    refine aw_callh (hc := THp gT gU gM og o pl ns mm) (hr := [(g4, .cells 63 3 (ofL [.int .i64 x.kind, .int .i64 x.k, is true x.args]))]) (join_fh and_opok gT gU gM ho hs refs (by omega) (by omega) ref1 hr) rfl rfl rfl (List.perm_append_comm (l₁ := [(g4, _)])) (zL hn_g4) ?_
    rintro _ _ ⟨og', ns', mm', r, e1, e2, e3, e4, rfl, rfl⟩ _
    refine yS hn_g4 ?_
    refine yG hn_g4 ?_
    refine aw_keep [(6, .c (.int .i64 r))] (THp gT gU gM og' o pl ns' mm') (zB hn_g4) (by simp only [THp, TH, List.cons_append, List.nil_append, List.append_assoc]; exact List.sublist_append_left (THp gT gU gM og' o pl ns' mm') _) ?_
    refine yU hn_g4 ?_
    refine ⟨og', ns', mm', r, e1, ⟨e2.tab, e2.pre, by have := e2.len; omega⟩, e3, fun s => ?_, rfl, rfl⟩
    rw [e4]
    unfold nodeV
    dsimp only
    rw [if_neg (by rw [h0]; simp), if_neg (by rw [h1]; simp), if_pos h2]
    rw [fold_and, ev1, Bool.true_and, Bool.eq_iff_iff, decide_eq_true_iff, beq_iff_eq]
    exact Int.ofNat_inj.symm
  refine yG hn_g4 ?_
  refine yF hn_g4 (fun h3=>?_) fun h3=>?_
  · have e : x.kind = 3 := eq_of_beq h3
    refine yG hn_g4 ?_
    refine aw_makeFuncB (g := gT) rfl rfl rfl (zE hn_g4) ?_
    refine yS hn_g4 ?_
    refine yG hn_g4 ?_
    refine aw_callh (hc := THp gT gU gM og o pl ns mm) (hr := [(g4, .cells 63 3 (ofL [.int .i64 x.kind, .int .i64 x.k, is true x.args]))]) (join_fh or_opok gT gU gM ho hs refs (by omega) (by omega) ref0 hr) rfl rfl rfl (List.perm_append_comm (l₁ := [(g4, _)])) (zL hn_g4) ?_
    rintro _ _ ⟨og', ns', mm', r, e1, e2, e3, e4, rfl, rfl⟩ _
    refine yS hn_g4 ?_
    refine yG hn_g4 ?_
    refine aw_keep [(6, .c (.int .i64 r))] (THp gT gU gM og' o pl ns' mm') (zB hn_g4) (by simp only [THp, TH, List.cons_append, List.nil_append, List.append_assoc]; exact List.sublist_append_left (THp gT gU gM og' o pl ns' mm') _) ?_
    refine yU hn_g4 ?_
    refine ⟨og', ns', mm', r, e1, ⟨e2.tab, e2.pre, by have := e2.len; omega⟩, e3, fun s => ?_, rfl, rfl⟩
    rw [e4]
    unfold nodeV
    dsimp only
    rw [if_neg (by rw [h0]; simp), if_neg (by rw [h1]; simp), if_neg (by rw [h2]; simp), if_pos h3]
    rw [fold_or, ev0, Bool.false_or]
    exact decide_eq_decide.2 (by omega)
  refine yG hn_g4 ?_
  refine yF hn_g4 (fun h5=>?_) fun h5=>?_
  · have e : x.kind = 5 := eq_of_beq h5
    refine yG hn_g4 ?_
    refine aw_makeFuncB (g := gT) rfl rfl rfl (zE hn_g4) ?_
    refine yS hn_g4 ?_
    refine yG hn_g4 ?_
    refine aw_callh (hc := THp gT gU gM og o pl ns mm) (hr := [(g4, .cells 63 3 (ofL [.int .i64 x.kind, .int .i64 x.k, is true x.args]))]) (join_fh xor_opok gT gU gM ho hs refs (by omega) (by omega) ref0 hr) rfl rfl rfl (List.perm_append_comm (l₁ := [(g4, _)])) (zL hn_g4) ?_
    rintro _ _ ⟨og', ns', mm', r, e1, e2, e3, e4, rfl, rfl⟩ _
    refine yS hn_g4 ?_
    refine yG hn_g4 ?_
    refine aw_keep [(6, .c (.int .i64 r))] (THp gT gU gM og' o pl ns' mm') (zB hn_g4) (by simp only [THp, TH, List.cons_append, List.nil_append, List.append_assoc]; exact List.sublist_append_left (THp gT gU gM og' o pl ns' mm') _) ?_
    refine yU hn_g4 ?_
    refine ⟨og', ns', mm', r, e1, ⟨e2.tab, e2.pre, by have := e2.len; omega⟩, e3, fun s => ?_, rfl, rfl⟩
    rw [e4]
    unfold nodeV
    dsimp only
    rw [if_neg (by rw [h0]; simp), if_neg (by rw [h1]; simp), if_neg (by rw [h2]; simp), if_neg (by rw [h3]; simp), if_neg (by rw [e]; decide)]
    rw [fold_xor, ev0, Bool.eq_iff_iff]
    have hrem : remZ ((cntV (evalD ns s) refs : Nat) : Int) 2 = ((cntV (evalD ns s) refs % 2 : Nat) : Int) := rem_nat _ 2
    rw [hrem, beq_iff_eq, Bool.false_bne, decide_eq_true_iff]
    omega
  · have e : x.kind = 4 := by
      have a0 : x.kind ≠ 0 := by simpa using h0
      have a1 : x.kind ≠ 1 := by simpa using h1
      have a2 : x.kind ≠ 2 := by simpa using h2
      have a3 : x.kind ≠ 3 := by simpa using h3
      have a5 : x.kind ≠ 5 := by simpa using h5
      omega
    rw [if_neg (by omega), if_pos e] at hkc
    obtain ⟨kn, hkn⟩ := Int.eq_ofNat_of_zero_le (a := x.k) (by split at hkc <;> omega)
    have hk1 : 1 ≤ kn ∧ kn ≤ refs.length := by split at hkc <;> omega
    have hc0 : refs.length * (kn * 2 ^ (o.length + 1)) ≤ 16 * (16 * 2 ^ (o.length + 1)) := Nat.mul_le_mul hl16 (Nat.mul_le_mul_right _ (by omega))
    have hc1 : ns.length + refs.length * (kn * 2 ^ (o.length + 1)) + 2 ^ (o.length + 1) ≤ 1000000000 := by
      rw [hB] at hn
      generalize refs.length * (kn * 2 ^ (o.length + 1)) = X at *
      generalize 2 ^ (o.length + 1) = B at *
      omega
    have hc2 : refs.length * (kn * 2 ^ (o.length + 1)) ≤ 256 * 2 ^ (o.length + 2) := by
      rw [hB]
      generalize refs.length * (kn * 2 ^ (o.length + 1)) = X at *
      generalize 2 ^ (o.length + 1) = B at *
      omega
    refine yG (oj hn_g4 hkn) ?_
    refine aw_callh (hc := THp gT gU gM og o pl ns mm) (hr := [(g4, .cells 63 3 (ofL [.int .i64 x.kind, .int .i64 x.k, is true x.args]))]) (vote_fh gT gU gM ho hs refs (by omega) kn (by omega) hc1 hr) rfl rfl rfl (List.perm_append_comm (l₁ := [(g4, _)])) (zL (oj hn_g4 hkn)) ?_
    rintro _ _ ⟨og', ns', mm', r, e1, e2, e3, e4, rfl, rfl⟩ _
    refine yS (oj hn_g4 hkn) ?_
    refine yG (oj hn_g4 hkn) ?_
    refine aw_keep [(6, .c (.int .i64 r))] (THp gT gU gM og' o pl ns' mm') (zB (oj hn_g4 hkn)) (by simp only [THp, TH, List.cons_append, List.nil_append, List.append_assoc]; exact List.sublist_append_left (THp gT gU gM og' o pl ns' mm') _) ?_
    refine yU (oj hn_g4 hkn) ?_
    refine ⟨og', ns', mm', r, e1, ⟨e2.tab, e2.pre, by have := e2.len; omega⟩, e3, fun s => ?_, rfl, rfl⟩
    rw [e4]
    unfold nodeV
    dsimp only
    rw [if_neg (by rw [h0]; simp), if_neg (by rw [h1]; simp), if_neg (by rw [h2]; simp), if_neg (by rw [h3]; simp), if_pos (by rw [e]; decide)]
    refine decide_eq_decide.2 ?_
    show kn ≤ cntV (evalD ns s) refs ↔ _
    omega
end Go.Proofs.YtcoflhkcpnoaaaaGreatDoor
