/- Blocks of one proof, laid one behind the other by a program (merge2.py). -/
import Derived.Test.YtcoflhkcpnoaaaaGreatDoorM20
set_option linter.unusedSimpArgs false
set_option linter.unusedVariables false
namespace Go.AI
section
variable {E : Env} {K : List It} {σ σ' : Sl} {h : Heap} {all rest : List Oper} {o : Oper}
theorem aw_frzG {gT m s n j0 : Nat} {og : Option Nat} {ty tp : TypeId} {f f' fp : Nat → CV} (hf : f j0 = gs og s n) (hf' : f' j0 = .row true s n fp) (hfo : ∀ j, j < m → j ≠ j0 → f' j = f j) (hog : og = none → n = 0) (ho : ∀ g, og = some g → ¬ E.C.own0 g)
    (k : aw E K σ ((gT, .cells ty m f') :: h)) : aw E K σ ((gT, .cells ty m f) :: (gh og tp (n * s) fp ++ h)) := by
  cases og with
  | none =>
    have hn := hog rfl
    subst hn
    refine aw_convR (f' := f') (fun j hj S w u hr => ?_) k
    by_cases e : j = j0
    · subst e
      rw [hf] at hr
      rw [hf']
      exact repC_nil hr
    · rw [hfo j hj e]; exact hr
  | some gP =>
    have ho := ho gP rfl
    show aw E K σ ((gT, .cells ty m f) :: (gP, .cells tp (n * s) fp) :: h)
    intro a w st
    refine k a w ?_
    have hnd := st.nodup
    simp only [Heap.keys, List.map_cons, List.nodup_cons, List.mem_cons, not_or] at hnd
    obtain ⟨⟨hTP, hTh⟩, hPh, hh⟩ := hnd
    have hgm : (gP, AObj.cells tp (n * s) fp) ∈ (gT, AObj.cells ty m f) :: (gP, .cells tp (n * s) fp) :: h := List.mem_cons_of_mem _ (List.mem_cons_self ..)
    have hkg : gP ∈ Heap.keys ((gT, AObj.cells ty m f) :: (gP, .cells tp (n * s) fp) :: h) := List.mem_map.2 ⟨_, hgm, rfl⟩
    have hks : ∀ b, b ∈ Heap.keys ((gT, AObj.cells ty m f') :: h) → b ∈ Heap.keys ((gT, AObj.cells ty m f) :: (gP, .cells tp (n * s) fp) :: h) := fun b hb => by
      simp only [Heap.keys, List.map_cons, List.mem_cons] at hb ⊢
      exact hb.imp id .inr
    have kp : Keeps (Stab E.C ((gT, .cells ty m f) :: (gP, .cells tp (n * s) fp) :: h) w) (Stab E.C ((gT, .cells ty m f') :: h) w) w w := ⟨fun t b hb => ⟨hb.1, hb.2.1, fun hm => hb.2.2 (hks b hm)⟩, fun _ _ _ => rfl, fun _ _ e => e⟩
    refine ⟨st.size, st.defers, fun t => Rep.keep kp (st.slots t), fun g ob hm => ?_, ?_, fun g hg => st.keys g (hks g hg), st.frame⟩
    · rcases List.mem_cons.1 hm with e | hm
      · rw [Prod.mk.injEq] at e
        obtain ⟨e1, e2⟩ := e
        rw [e1, e2]
        clear hm e1 e2
        obtain ⟨cs, hb, hcs, hj⟩ := st.heap gT _ (List.mem_cons_self ..)
        refine ⟨cs, hb, hcs, fun j hjm => ?_⟩
        obtain ⟨u, hu, hr⟩ := hj j hjm
        refine ⟨u, hu, ?_⟩
        by_cases e : j = j0
        · subst e
          rw [hf] at hr
          rw [hf']
          obtain ⟨c, hv, hc, _, _⟩ := hr
          obtain ⟨cs2, hb2, hcs2, hj2⟩ := st.heap gP _ hgm
          refine ⟨some ⟨gP, 0, none⟩, c, hv, hc, fun _ => ⟨⟨gP, 0, none⟩, rfl, ⟨.inr ((st.keys gP hkg).resolve_left ho), st.klt hkg, ?_⟩, fun q hq => ?_⟩⟩
          · simp only [Heap.keys, List.map_cons, List.mem_cons, not_or]
            exact ⟨fun e => hTP e.symm, hPh⟩
          · obtain ⟨u2, hu2, hr2⟩ := hj2 q hq
            exact ⟨u2, by rw [add_mk, Nat.zero_add, cell_own hb2]; exact hu2, hr2.keep kp⟩
        · rw [hfo j hjm e]
          exact hr.keep kp
      · exact ORep.keep kp rfl (st.heap g ob (List.mem_cons_of_mem _ (List.mem_cons_of_mem _ hm)))
    · simp only [Heap.keys, List.map_cons, List.nodup_cons]
      exact ⟨hTh, hh⟩
theorem aw_calmX {r : AV} (hc : CalmX E h all σ o r) (k : aw E (.ops all rest :: K) (σ.setO o.dst r) h) : aw E (.ops all (o :: rest) :: K) σ h := fun a w s => by
  show wpList _ _ _ _ _ _
  unfold wpList
  have := hc.2 σ [] a w (exW E K) (fun _ _ => rfl) (by simpa using s)
  split
  · rename_i hw
    rw [if_pos hw] at this
    exact .inl (Oper.wp_mono (fun a' w' s' => k a' w' (by simpa using s')) this)
  · rename_i hw
    rw [if_neg hw] at this
    subst this
    exact k _ _ (s.put hc.1 (r := .tup []) ⟨[], rfl, trivial⟩)
theorem aw_copy {t e size bytes k : Nat} {z : List CV} {f2 : Nat → CV} {s x : Operand} {cx : CV} (hop : o.op = .call { callee := .builtin .append, args := #[s, x], argTypes := #[t, t] }) (hw : wantA all σ o = some true) (hd : dstOk E.N o.dst = true)
    (ht : tElem E.P t = some (e, size, bytes)) (hz : tZero E.P e = some z) (hzl : z.length = size) (hs0 : 0 < size) (hs : ev σ s = .c .nils) (hx : ev σ x = .c cx) (hsrc : Src h size cx k f2)
    (h63 : k ≤ maxLen) (hby : k * bytes ≤ 140737488355328) (kk : aw E (.ops all rest :: K) (σ.setO o.dst (.c (.row true size k f2))) h) : aw E (.ops all (o :: rest) :: K) σ h :=
  aw_calmX (CalmX.copy hop hw hd ht hz hzl hs0 hs hx hsrc h63 hby) kk
end
end Go.AI
namespace Go.AI
section
variable {E : Env} {K : List It} {σ σ' : Sl} {h : Heap} {all rest : List Oper} {o : Oper}
theorem lenMap_run {P : Program} {α : Type} {Kf : α → Value} {t kt et : TypeId} {kv : List (α × Value)} {x : Operand} {e : Operand → Value} {g : Nat} {w : World} {es : Array MapEntry} {c : Nat} (hop : o.op = .call { callee := .builtin .len, args := #[x], argTypes := #[t] }) (ht : tMap P t = some (kt, et)) (hx : e x = .map (some g)) (hb : w.heap[g]? = some (.map es c))
    (hes : es.toList.map (fun e => (e.key, e.val)) = kv.map (fun p => (Kf p.1, p.2))) : (execOp e o).run P w = .ok (.value (.int .i64 (kv.length : Int))) w := by
  have hl : es.size = kv.length := by
    have := congrArg List.length hes
    simpa using this
  simp [execOp, hop, resolve, invoke, Go.builtin, Builtin.len_, hx, run_underlying (tMap_spec ht), runGet hb, goInt, hl]
theorem aw_lenMap {α : Type} {Kf : α → Value} {t kt et g : TypeId} {kv : List (α × Value)} {x : Operand} (hop : o.op = .call { callee := .builtin .len, args := #[x], argTypes := #[t] }) (hw : wantA all σ o = some true) (hd : dstOk E.N o.dst = true)
    (ht : tMap E.P t = some (kt, et)) (hx : ev σ x = .c (.raw (.map (some g)))) (hg : h.get g = some (.gen (MapI Kf kv)))
    (k : aw E (.ops all rest :: K) (σ.setO o.dst (.c (.int .i64 (kv.length : Int)))) h) : aw E (.ops all (o :: rest) :: K) σ h := by
  refine aw_step hw (fun ac w s => ?_) k
  have h1 := ev_rep s x
  rw [hx] at h1
  have h1' : ac.eval x = .map (some g) := h1
  obtain ⟨ob, hb, es, c, rfl, hes⟩ := s.heap g _ (Heap.get_mem hg)
  exact ⟨_, w, .inl (lenMap_run hop ht h1' hb hes), s.put hd rfl⟩
end
end Go.AI
namespace Go.Proofs.YtcoflhkcpnoaaaaGreatDoor
open Go.AI Go.PN
attribute [local irreducible] aw Fa Fh DrK
theorem ty_bz : tZ1 Tryz.prog 4 = some (.bool false) := by kernel_rfl
@[go_sem] theorem ty_mib_s : tSz Tryz.prog 161 = some (false, 1) := by kernel_rfl
@[go_sem] theorem ty_mib_z : tZero Tryz.prog 161 = some [.raw (.map none)] := by kernel_rfl
abbrev S6 (g1 g2 g3 g4 gd gT : Nat) (most : Int) (sl : List Int) : Heap :=
  [(g1, .cells 161 1 (ofL [.raw (.map (some gd))])), (g2, .cells 3 1 (ofL [.int .i64 most])), (g3, .cells 152 1 (ofL [fnC 132 [g1, g2, g3, g4]])), (g4, .cells 118 1 (ofL [.optr gT 0])), (gd, .gen (MapI keyI (snL sl)))]
set_option maxRecDepth 100000 in
set_option maxHeartbeats 6400000 in
theorem swalk_fh (g1 g2 g3 g4 gd gT gU gM : Nat) (most : Int) {o pl : List Int} {og : Option Nat} {ns : List DN} {mm : Mem3} (hs : TS o og ns mm) (hn : ns.length ≤ 1000000000) : ∀ (k : Nat) (r : Int) (sl : List Int), r.toNat < k → RefOk ns r →
    Fh Tryz.prog 132 (S6 g1 g2 g3 g4 gd gT most sl ++ THp gT gU gM og o pl ns mm) ([.c (.int .i64 r)] ++ [g1, g2, g3, g4].map fun g => .c (.optr g 0)) (fun x h => ∃ sl', Sm o ns sl sl' r ∧ x = .tup [] ∧ h = S6 g1 g2 g3 g4 gd gT most sl' ++ THp gT gU gM og o pl ns mm) := by
  intro k
  induction k with
  | zero => intro r sl hk; omega
  | succ k ih =>
    intro r sl hk hr
    simp only [List.cons_append, List.nil_append, List.map_cons, List.map_nil]
    refine fh_of_body Tryz.func132 rfl rfl (by simp [Tryz.ntmps132]) fun C hC => ?_
    simp only [initS, Nat.reduceAdd]
    simp only [S6, THp, TH, List.cons_append, List.nil_append]
    refine aw_nd fun hnd => ?_
    simp only [Heap.keys, List.map_cons] at hnd
    replace hnd := ndP_of hnd
    dsimp only [ndP, neA] at hnd
    refine yG hnd ?_
    refine aw_split 8 (zE hnd) (fun h1 => ?_) (fun h1 => ?_) <;> refine yS hnd ?_
    · refine yG hnd ?_
      refine yP hnd ?_
      refine yG hnd ?_
      refine yU hnd ?_
      exact ⟨sl, Sm.same, rfl, rfl⟩
    have h1' := of_decide_eq_false h1
    have h2 : 2 ≤ r := by omega
    refine yG hnd ?_
    refine aw_lookup (a := r) (kv := snL sl) (Kf := keyI) (kt := 3) (et := 4) rfl rfl rfl (by kernel_rfl) ty_ki ty_bz (zE hnd) (zE hnd) (zE hnd) keyI_rep ?_
    refine yS hnd ?_
    rw [sn_get]
    by_cases hm : r ∈ sl
    · rw [if_pos hm]
      simp only [Option.getD_some, cstC]
      refine yG hnd ?_
      refine yP hnd ?_
      refine yG hnd ?_
      refine yU hnd ?_
      exact ⟨sl, Sm.same, rfl, rfl⟩
    rw [if_neg hm]
    simp only [Option.getD_none, cstC]
    refine yG hnd ?_
    refine aw_lenMap (kv := snL sl) (Kf := keyI) (kt := 3) (et := 4) rfl rfl rfl (by kernel_rfl) (zE hnd) (zE hnd) ?_
    refine yS hnd ?_
    refine yG hnd ?_
    refine yF hnd (fun h3=>?_) fun h3=>?_
    · refine yG hnd ?_
      refine yU hnd ?_
      exact ⟨sl, Sm.same, rfl, rfl⟩
    obtain ⟨g, rfl⟩ : ∃ g, og = some g := by
      cases og with
      | none => have := hs.og rfl; unfold RefOk at hr; omega
      | some g => exact ⟨g, rfl⟩
    simp only [gh, List.map_cons, List.map_nil, neA, ndP] at hnd
    simp only [gs, gh]
    have hi : (r - 2).toNat < ns.length := by unfold RefOk at hr; omega
    obtain ⟨w0, w1, w2, w3, w4, w5⟩ := (hs.tab.ns _ hi)
    obtain ⟨kl, kh⟩ := kids_ref hs.tab hi
    have hrl : r < ns.length + 2 := hr.2
    have nd0 : ∀ s1 s2, Sm o ns (sl ++ [r]) s1 (ns.getD (r - 2).toNat dn0).lo → Sm o ns s1 s2 (ns.getD (r - 2).toNat dn0).hi → Sm o ns sl s2 r := fun s1 s2 a b => Sm.node hs.tab h2 hrl a b
    generalize hx0 : ns.getD (r - 2).toNat dn0 = nd at *
    refine yG (oj hnd hx0) ?_
    refine aw_mapNew (a := r) (kv := snL sl) (Kf := keyI) (v := .bool true) rfl rfl rfl (kt := 3) (et := 4) (by kernel_rfl) ty_ki (zE (oj hnd hx0)) (zE (oj hnd hx0)) (zE (oj hnd hx0)) keyI_rep (cv := .c (.bool true)) (zE (oj hnd hx0)) (fun S w u h => h) (by rw [sn_get, if_neg hm]) (zE (oj hnd hx0)) ?_
    rw [sn_push]
    refine yS (oj hnd hx0) ?_
    refine yG (oj hnd hx0) ?_
    refine aw_cw ([(g3, .cells 152 1 (ofL [fnC 132 [g1, g2, g3, g4]])), (g4, .cells 118 1 (ofL [.optr gT 0])), (gT, .cells 156 5 (ofL [is true o, is true pl, .osl g 3 0 ns.length, .raw (.map (some gU)), .raw (.map (some gM))])), (g, .cells 125 (ns.length * 3) (dnsF ns))]) [(0,0),(1,0),(2,0),(3,0),(4,0),(5,0),(6,0),(7,0),(8,0),(9,0),(10,1)] ty_mixed (by kernel_rfl) eI ?_
    refine yG (oj hnd hx0) ?_
    refine cw_callhv (gs := [g1, g2, g3, g4]) (hr := []) rfl (ih nd.lo (sl ++ [r]) (by omega) kl) rfl rfl rfl (zE (oj hnd hx0)) (by rw [List.append_nil]; exact .refl _) (zL (oj hnd hx0)) (by
      rintro _ _ ⟨_, _, rfl, rfl⟩; simp only [S6, THp, TH, gs, gh, List.append_assoc, List.cons_append, List.nil_append]; exact eI) ?_ (hm := .inr ⟨rfl, rfl⟩)
    rintro _ _ ⟨sl1, m1, rfl, rfl⟩ _
    rw [List.append_nil]
    simp only [S6, THp, TH, gs, gh, List.cons_append, List.nil_append]
    refine yS (oj hnd hx0) ?_
    refine yG (oj hnd hx0) ?_
    refine aw_cw ([(g3, .cells 152 1 (ofL [fnC 132 [g1, g2, g3, g4]])), (g4, .cells 118 1 (ofL [.optr gT 0])), (gT, .cells 156 5 (ofL [is true o, is true pl, .osl g 3 0 ns.length, .raw (.map (some gU)), .raw (.map (some gM))])), (g, .cells 125 (ns.length * 3) (dnsF ns))]) [(0,0),(1,0),(2,0),(3,0),(4,0),(5,0),(6,0),(7,0),(8,0),(9,0),(10,1)] ty_mixed (by kernel_rfl) eI ?_
    refine yG (oj hnd hx0) ?_
    refine cw_callhv (gs := [g1, g2, g3, g4]) (hr := []) rfl (ih nd.hi sl1 (by omega) kh) rfl rfl rfl (zE (oj hnd hx0)) (by rw [List.append_nil]; exact .refl _) (zL (oj hnd hx0)) (by
      rintro _ _ ⟨_, _, rfl, rfl⟩; simp only [S6, THp, TH, gs, gh, List.append_assoc, List.cons_append, List.nil_append]; exact eI) ?_ (hm := .inr ⟨rfl, rfl⟩)
    rintro _ _ ⟨sl2, m2, rfl, rfl⟩ _
    rw [List.append_nil]
    refine yS (oj hnd hx0) ?_
    refine yG (oj hnd hx0) ?_
    refine yV (oj hnd hx0) ?_
    exact ⟨sl2, nd0 sl1 sl2 m1 m2, rfl, rfl⟩
set_option maxRecDepth 100000 in
set_option maxHeartbeats 3200000 in
theorem small_fh (gT gU gM : Nat) {o pl : List Int} (ho : OdOk o pl) {og : Option Nat} {ns : List DN} {mm : Mem3} (hs : TS o og ns mm) (hn : ns.length ≤ 1000000000) {r : Int} (hr : RefOk ns r) {most : Int} (hm : ((2 ^ o.length : Nat) : Int) ≤ most + 1) :
    Fh Tryz.prog 92 (THp gT gU gM og o pl ns mm) [.c (.optr gT 0), .c (.int .i64 r), .c (.int .i64 most)] (fun x h => x = .c (.bool true) ∧ h = THp gT gU gM og o pl ns mm) := by
  refine fh_of_body Tryz.func92 rfl rfl (by simp [Tryz.ntmps92]) fun C hC => ?_
  simp only [initS, Nat.reduceAdd]
  unfold THp TH
  simp only [List.cons_append, List.nil_append]
  refine xG ?_
  refine xB fun g3 hn_g3=>?_
  refine yG hn_g3 ?_
  refine yB hn_g3 fun g5 hn_g5=>?_
  refine yG (oj hn_g3 hn_g5) ?_
  refine aw_makeMap (Kf := keyI) rfl rfl rfl fun gd hn_gd => ?_
  replace hn_gd := Heap.ne_of hn_gd
  dsimp only [Heap.ne, gh] at hn_gd
  refine yS (oj hn_g3 (oj hn_g5 hn_gd)) ?_
  refine yG (oj hn_g3 (oj hn_g5 hn_gd)) ?_
  refine yA (oj hn_g3 (oj hn_g5 hn_gd)) fun g7 hn_g7=>?_
  refine yG (oj hn_g3 (oj hn_g5 (oj hn_gd hn_g7))) ?_
  refine yW (oj hn_g3 (oj hn_g5 (oj hn_gd hn_g7))) ?_
  refine yS (oj hn_g3 (oj hn_g5 (oj hn_gd hn_g7))) ?_
  refine yG (oj hn_g3 (oj hn_g5 (oj hn_gd hn_g7))) ?_
  refine yA (oj hn_g3 (oj hn_g5 (oj hn_gd hn_g7))) fun g8 hn_g8=>?_
  refine yG (oj hn_g3 (oj hn_g5 (oj hn_gd (oj hn_g7 hn_g8)))) ?_
  refine aw_makeFunc (gs := [g7, g5, g8, g3]) rfl rfl rfl (zE (oj hn_g3 (oj hn_g5 (oj hn_gd (oj hn_g7 hn_g8))))) ?_
  refine yS (oj hn_g3 (oj hn_g5 (oj hn_gd (oj hn_g7 hn_g8)))) ?_
  refine yG (oj hn_g3 (oj hn_g5 (oj hn_gd (oj hn_g7 hn_g8)))) ?_
  refine yW (oj hn_g3 (oj hn_g5 (oj hn_gd (oj hn_g7 hn_g8)))) ?_
  refine yS (oj hn_g3 (oj hn_g5 (oj hn_gd (oj hn_g7 hn_g8)))) ?_
  refine yG (oj hn_g3 (oj hn_g5 (oj hn_gd (oj hn_g7 hn_g8)))) ?_
  refine aw_callhv (hr := []) (swalk_fh (pl := pl) g7 g5 g8 g3 gd gT gU gM most hs hn (r.toNat + 1) r [] (by omega) hr) rfl rfl rfl (zE (oj hn_g3 (oj hn_g5 (oj hn_gd (oj hn_g7 hn_g8))))) ?hp (zL (oj hn_g3 (oj hn_g5 (oj hn_gd (oj hn_g7 hn_g8))))) ?_
  · rw [List.append_nil]
    exact (permL [(g8, _), (g7, _), (gd, _), (g5, _), (g3, _)] [0, 1, 2, 3, 4] [1, 3, 0, 4, 2] (by decide)).append_right (THp gT gU gM og o pl ns mm)
  rintro _ _ ⟨sl, m, rfl, rfl⟩ _
  rw [List.append_nil]
  have hl : sl.length ≤ 2 ^ o.length - 1 := by
    have h0 := lv3_nonneg ho.mem hs.tab hr
    have := m.len
    have hp : 2 ^ ((o.length : Int) - lvZ o ns r).toNat ≤ 2 ^ o.length := Nat.pow_le_pow_right (by omega) (by omega)
    simp only [List.length_nil] at this
    omega
  have hd : decide ((sl.length : Int) ≤ most) = true := decide_eq_true (by
    have := Nat.pow_pos (n := o.length) (show 0 < 2 by omega)
    omega)
  unfold THp TH S6
  simp only [List.cons_append, List.nil_append]
  refine yS (oj hn_g3 (oj hn_g5 (oj hn_gd (oj hn_g7 hn_g8)))) ?_
  refine yG (oj hn_g3 (oj hn_g5 (oj hn_gd (oj hn_g7 hn_g8)))) ?_
  refine aw_lenMap (kv := snL sl) (Kf := keyI) (kt := 3) (et := 4) rfl rfl rfl (by kernel_rfl) (zE (oj hn_g3 (oj hn_g5 (oj hn_gd (oj hn_g7 hn_g8))))) (zE (oj hn_g3 (oj hn_g5 (oj hn_gd (oj hn_g7 hn_g8))))) ?_
  rw [show (snL sl).length = sl.length from by simp [snL]]
  refine yS (oj hn_g3 (oj hn_g5 (oj hn_gd (oj hn_g7 (oj hn_g8 hd))))) ?_
  refine yG (oj hn_g3 (oj hn_g5 (oj hn_gd (oj hn_g7 (oj hn_g8 hd))))) ?_
  refine aw_keep [(6, .c (.bool true))] (THp gT gU gM og o pl ns mm) (zB (oj hn_g3 (oj hn_g5 (oj hn_gd (oj hn_g7 (oj hn_g8 hd)))))) (List.sublist_append_right (S6 g7 g5 g8 g3 gd gT most sl) _) ?_
  refine yU (oj hn_g3 (oj hn_g5 (oj hn_gd (oj hn_g7 (oj hn_g8 hd))))) ?_
  exact ⟨rfl, rfl⟩
end Go.Proofs.YtcoflhkcpnoaaaaGreatDoor
namespace Go.AI
@[go_sem ↓] theorem updF_3_1' (a b c x : CV) : updF (ofL [a, b, c]) 1 [x] = ofL [a, x, c] := updF_at [a, b, c] 1 x (by simp)
@[go_sem ↓] theorem updF_3_2' (a b c x : CV) : updF (ofL [a, b, c]) 2 [x] = ofL [a, b, x] := updF_at [a, b, c] 2 x (by simp)
end Go.AI
namespace Go.PN
open Go.AI
def exTo : List Int → Nat → List (Int × Int)
  | [], _ => []
  | r :: rs, i => (r, 2 + (i : Int)) :: exTo rs (i + 1)
def exL (rs : List Int) : List (Int × Int) := (0, 0) :: (1, 1) :: exTo rs 0
theorem exTo_push (r : Int) : ∀ (rs : List Int) (i : Nat), exTo (rs ++ [r]) i = exTo rs i ++ [(r, 2 + ((i + rs.length : Nat) : Int))]
  | [], i => by simp [exTo]
  | x :: rs, i => by
    show _ :: exTo (rs ++ [r]) (i + 1) = _ :: (exTo rs (i + 1) ++ _)
    rw [exTo_push r rs (i + 1)]
    simp only [List.length_cons]
    congr 5
    omega
theorem exL_push (rs : List Int) (r : Int) : exL rs ++ [(r, 2 + (rs.length : Int))] = exL (rs ++ [r]) := by
  unfold exL
  rw [exTo_push]
  simp
theorem exTo_get (r : Int) : ∀ (rs : List Int) (i : Nat), dnGet r (exTo rs i) = if r ∈ rs then some (2 + ((i + rs.idxOf r : Nat) : Int)) else none
  | [], i => by simp [exTo, dnGet]
  | x :: rs, i => by
    rw [exTo, dnGet]
    by_cases e : r = x
    · subst e; simp
    · rw [if_neg e, exTo_get r rs (i + 1)]
      by_cases hm : r ∈ rs
      · have hi : (x :: rs).idxOf r = rs.idxOf r + 1 := by rw [List.idxOf_cons, beq_false_of_ne (fun h => e h.symm)]; rfl
        rw [if_pos hm, if_pos (List.mem_cons_of_mem _ hm), hi]
        congr 2
        omega
      · rw [if_neg hm, if_neg (by simp [e, hm])]
theorem exL_get {r : Int} (h0 : 0 ≤ r) (rs : List Int) (hb : ∀ x ∈ rs, 2 ≤ x) : dnGet r (exL rs) = exR rs r := by
  unfold exL exR
  rw [dnGet, dnGet]
  dsimp only
  by_cases e0 : r = 0
  · subst e0; simp
  · rw [if_neg e0]
    by_cases e1 : r = 1
    · subst e1; simp
    · rw [if_neg e1, if_neg (by omega), exTo_get, Nat.zero_add]
      split
      · congr 1; omega
      · rfl
theorem perm_ex {α : Type} (T A B : List α) (x : α) : (T ++ (A ++ (B ++ [x]))).Perm (B ++ (x :: (T ++ A))) := by
  have := List.perm_append_comm (l₁ := T ++ A) (l₂ := B ++ [x])
  simpa using this
theorem ExOk.lenle {ns : List DN} {rs : List Int} {os : List DN} (h : ExOk ns rs os) : rs.length ≤ ns.length := nodup_range h.nd h.bd
end Go.PN
namespace Go.Proofs.YtcoflhkcpnoaaaaGreatDoor
open Go.AI Go.PN
attribute [local irreducible] aw Fa Fh DrK
abbrev X5 (g1 g2 g3 g4 gd gT : Nat) (oo : List Int) (rs : List Int) (oN : Option Nat) (n : Nat) : Heap :=
  [(g1, .cells 162 1 (ofL [.raw (.map (some gd))])), (g2, .cells 118 1 (ofL [.optr gT 0])), (g3, .cells 120 1 (ofL [fnC 133 [g1, g2, g3, g4]])), (g4, .cells 86 3 (ofL [is true oo, gs oN 3 n, .int .i64 0])), (gd, .gen (MapI keyI (dnL (exL rs))))]
abbrev HX (g1 g2 g3 g4 gd gT gU gM : Nat) (og : Option Nat) (o pl : List Int) (ns : List DN) (mm : Mem3) (oo : List Int) (rs : List Int) (oN : Option Nat) (os : List DN) : Heap :=
  (X5 g1 g2 g3 g4 gd gT oo rs oN os.length ++ THp gT gU gM og o pl ns mm) ++ gh oN 125 (os.length * 3) (dnsF os)
set_option maxRecDepth 100000 in
set_option maxHeartbeats 6400000 in
theorem ewalk_fh (g1 g2 g3 g4 gd gT gU gM : Nat) {o pl : List Int} {og : Option Nat} {ns : List DN} {mm : Mem3} (hs : TS o og ns mm) (hn : ns.length ≤ 1000000000) (oo : List Int) : ∀ (k : Nat) (r : Int) (rs : List Int) (oN : Option Nat) (os : List DN), r.toNat < k → RefOk ns r → ExOk ns rs os → (oN = none → os.length = 0) →
    Fh Tryz.prog 133 (HX g1 g2 g3 g4 gd gT gU gM og o pl ns mm oo rs oN os) ([.c (.int .i64 r)] ++ [g1, g2, g3, g4].map fun g => .c (.optr g 0)) (fun x h => ∃ rs' oN' os' y, Ex o ns rs os rs' os' r y ∧ (oN' = none → os'.length = 0) ∧ x = .c (.int .i64 y) ∧ h = HX g1 g2 g3 g4 gd gT gU gM og o pl ns mm oo rs' oN' os') := by
  intro k
  induction k with
  | zero => intro r rs oN os hk; omega
  | succ k ih =>
    intro r rs oN os hk hr hx hoN
    simp only [List.cons_append, List.nil_append, List.map_cons, List.map_nil]
    refine fh_of_body Tryz.func133 rfl rfl (by simp [Tryz.ntmps133]) fun C hC => ?_
    simp only [initS, Nat.reduceAdd]
    simp only [HX, X5, THp, TH, List.cons_append, List.nil_append]
    refine aw_nd fun hnd => ?_
    simp only [Heap.keys, List.map_cons] at hnd
    replace hnd := ndP_of hnd
    dsimp only [ndP, neA] at hnd
    refine yG hnd ?_
    refine aw_lookup2 (a := r) (kv := dnL (exL rs)) (Kf := keyI) (kt := 3) (et := 3) rfl rfl rfl (by kernel_rfl) ty_ki ty_iz (zE hnd) (zE hnd) (zE hnd) keyI_rep ?_
    refine yS hnd ?_
    rw [dn_get, exL_get hr.1 rs (fun x hm => (hx.bd x hm).1)]
    cases hf : exR rs r with
    | some y =>
      try simp only [Option.map_some, Option.getD_some, Option.isSome_some, cstC]
      refine yG hnd ?_
      refine yP hnd ?_
      refine yG hnd ?_
      refine yU hnd ?_
      exact ⟨rs, oN, os, y, ex_same hx hr.1 hf, hoN, rfl, by simp only [HX, X5, THp, TH, List.cons_append, List.nil_append]⟩
    | none =>
      try simp only [Option.map_none, Option.getD_none, Option.isSome_none, cstC]
      refine yG hnd ?_
      refine yN hnd ?_
      have h2 : 2 ≤ r := by
        refine Classical.byContradiction fun h => ?_
        unfold exR at hf
        rw [if_pos (by omega)] at hf
        cases hf
      have hnew : r ∉ rs := fun hm => by
        unfold exR at hf
        rw [if_neg (by omega), if_pos hm] at hf
        cases hf
      obtain ⟨g, rfl⟩ : ∃ g, og = some g := by
        cases og with
        | none => have := hs.og rfl; unfold RefOk at hr; omega
        | some g => exact ⟨g, rfl⟩
      have hi : (r - 2).toNat < ns.length := by unfold RefOk at hr; omega
      have hrl : r < ns.length + 2 := hr.2
      obtain ⟨w0, w1, w2, w3, w4, w5⟩ := (hs.tab.ns _ hi)
      obtain ⟨kl, kh⟩ := kids_ref hs.tab hi
      have hnode : ∀ {rs1 rs2 : List Int} {os1 os2 : List DN} {xl xh : Int}, Ex o ns rs os rs1 os1 (ns.getD (r - 2).toNat dn0).lo xl → Ex o ns rs1 os1 rs2 os2 (ns.getD (r - 2).toNat dn0).hi xh → r ∉ rs2 ∧ Ex o ns rs os (rs2 ++ [r]) (os2 ++ [⟨(ns.getD (r - 2).toNat dn0).v, xl, xh⟩]) r ((rs2.length : Int) + 2) := fun a b => ex_node hs.tab h2 hrl hnew a b
      simp only [gs, gh, List.cons_append, List.nil_append]
      clear hnd
      refine aw_nd fun hnd => ?_
      simp only [Heap.keys, List.map_cons, List.map_append] at hnd
      replace hnd := ndP_of hnd
      dsimp only [ndP, neA] at hnd
      generalize hx0 : ns.getD (r - 2).toNat dn0 = nd at *
      refine yG (oj hnd hx0) ?_
      refine yA (oj hnd hx0) fun g9 hn_g9=>?_
      refine yG (oj hnd (oj hx0 hn_g9)) ?_
      refine yW (oj hnd (oj hx0 hn_g9)) ?_
      refine yS (oj hnd (oj hx0 hn_g9)) ?_
      refine yG (oj hnd (oj hx0 hn_g9)) ?_
      refine aw_callhv (hr := [(g9, .cells 125 3 (ofL [.int .i64 nd.v, .int .i64 nd.lo, .int .i64 nd.hi]))]) (gs := [g1, g2, g3, g4]) (ih nd.lo rs oN os (by omega) kl hx hoN) rfl rfl rfl (zE (oj hnd (oj hx0 hn_g9))) ?_ (zL (oj hnd (oj hx0 hn_g9))) ?_
      · exact List.perm_append_comm (l₁ := [(g9, _)])
      rintro _ _ ⟨rs1, oN1, os1, xl, a1, hoN1, rfl, rfl⟩ _
      refine aw_perm List.perm_append_comm ?_
      simp only [HX, X5, THp, TH, gs, gh, List.cons_append, List.nil_append]
      clear hnd
      refine aw_nd fun hnd => ?_
      simp only [Heap.keys, List.map_cons, List.map_append] at hnd
      replace hnd := ndP_of hnd
      dsimp only [ndP, neA] at hnd
      refine yS hnd ?_
      refine yG hnd ?_
      refine aw_callhv (hr := [(g9, .cells 125 3 (ofL [.int .i64 nd.v, .int .i64 nd.lo, .int .i64 nd.hi]))]) (gs := [g1, g2, g3, g4]) (ih nd.hi rs1 oN1 os1 (by omega) kh a1.ok hoN1) rfl rfl rfl (zE hnd) ?_ (zL hnd) ?_
      · exact List.perm_append_comm (l₁ := [(g9, _)])
      rintro _ _ ⟨rs2, oN2, os2, xh, b1, hoN2, rfl, rfl⟩ _
      refine aw_perm List.perm_append_comm ?_
      simp only [HX, X5, THp, TH, gh, List.cons_append, List.nil_append]
      clear hnd
      refine aw_nd fun hnd => ?_
      simp only [Heap.keys, List.map_cons, List.map_append] at hnd
      replace hnd := ndP_of hnd
      dsimp only [ndP, neA] at hnd
      obtain ⟨hout, hex⟩ := hnode a1 b1
      have l2 := b1.ok.len
      have l3 := b1.ok.lenle
      have hlen := lenCV_gs (s := 3) hoN2
      (try simp only[go_sem, hnd, ↓hlen])
      repeat first|apply wa1|apply wa2|apply wa3|apply wa4|apply wa5 rfl|apply wa6|apply wa7|(refine wb1 rfl fun R r=>?_;simp only[go_sem, hnd, ↓hlen];with_reducible refine r _ _ ?_;clear r R)
      refine aw_push (pre := [(g9, .cells 125 3 (ofL [.int .i64 nd.v, .int .i64 nd.lo, .int .i64 nd.hi])), (g1, .cells 162 1 (ofL [.raw (.map (some gd))])), (g2, .cells 118 1 (ofL [.optr gT 0])), (g3, .cells 120 1 (ofL [fnC 133 [g1, g2, g3, g4]])), (g4, .cells 86 3 (ofL [is true oo, gs oN2 3 os2.length, .int .i64 0])), (gd, .gen (MapI keyI (dnL (exL rs2)))), (gT, .cells 156 5 (ofL [is true o, is true pl, .osl g 3 0 ns.length, .raw (.map (some gU)), .raw (.map (some gM))])), (gU, .gen (MapI dkV (uqTo ns 0))), (gM, .gen (MapI key3 (mmL mm))), (g, .cells 125 (ns.length * 3) (dnsF ns))]) rfl rfl rfl rfl rfl rfl rfl (by simp only[go_sem, hnd, ↓hlen]<;>rfl) (by simp only[go_sem, hnd, ↓hlen]<;>rfl) (by rfl) (by omega) (by omega) (by simp only[go_sem, hnd, ↓hlen]<;>rfl) (by omega) (by exact hoN2) (by simp only[go_sem, hnd, ↓hlen]<;>rfl) (by rfl) (by rfl) (by first | rfl | simp only [Nat.mul_one, List.nil_append, List.cons_append] <;> rfl) (by unfold maxLen; omega) (by omega) (by exact lf_push (xs := os2) rfl (⟨nd.v, xl, xh⟩ : DN) (by omega)) fun gN hn_gN => ?_
      replace hn_gN := Heap.ne_of hn_gN
      first | dsimp only [Heap.ne, gh] at hn_gN | dsimp only [Heap.ne] at hn_gN | skip
      (try simp only[go_sem, hnd, ↓hlen, hn_gN])
      simp only [gs, gh, List.cons_append, List.nil_append]
      repeat first|apply wa1|apply wa2|apply wa3|apply wa4|apply wa5 rfl|apply wa6|apply wa7|(refine wb1 rfl fun R r=>?_;simp only[go_sem, hnd, ↓hlen, hn_gN];with_reducible refine r _ _ ?_;clear r R)
      refine aw_store rfl rfl rfl rfl (by simp only[go_sem, hnd, ↓hlen, hn_gN]<;>rfl) (by simp only[go_sem, hnd, ↓hlen, hn_gN]<;>rfl) (by simp only[go_sem, hnd, ↓hlen, hn_gN]<;>rfl) (by simp only[go_sem, hnd, ↓hlen, hn_gN]<;>rfl) (fun _ e => by cases e) (by first | rfl | exact solid_gs3) (by rfl) (by first|omega|simp) rfl ?_
      (try simp only[go_sem, hnd, ↓hlen, hn_gN])
      repeat first|apply wa1|apply wa2|apply wa3|apply wa4|apply wa5 rfl|apply wa6|apply wa7|(refine wb1 rfl fun R r=>?_;simp only[go_sem, hnd, ↓hlen, hn_gN];with_reducible refine r _ _ ?_;clear r R)
      have e1 : (1 : Int) + ((os2.length + 1 : Nat) : Int) = 2 + (rs2.length : Int) := by omega
      have e1' : (1 : Int) + ((os2.length : Int) + 1) = 2 + (rs2.length : Int) := by omega
      have hb2 : ∀ x ∈ rs2, 2 ≤ x := fun x hm => (b1.ok.bd x hm).1
      refine aw_mapNew (a := r) (kv := dnL (exL rs2)) (Kf := keyI) (v := .int .i64 (2 + (rs2.length : Int))) rfl rfl rfl (kt := 3) (et := 3) (by kernel_rfl) ty_ki (by simp only[go_sem, hnd, ↓hlen, hn_gN]<;>rfl) (by simp only[go_sem, hnd, ↓hlen, hn_gN]<;>rfl) (by simp only[go_sem, hnd, ↓hlen, hn_gN]<;>rfl) keyI_rep (cv := .c (.int .i64 (2 + (rs2.length : Int)))) (by (try simp only[go_sem, hnd, ↓hlen, hn_gN]); first | rfl | rw [e1] | rw [e1']) (fun S w u h => h) (by rw [dn_get, exL_get hr.1 rs2 hb2]; unfold exR; rw [if_neg (by omega), if_neg hout]; rfl) (by simp only[go_sem, hnd, ↓hlen, hn_gN]<;>rfl) ?_
      rw [dnL_push, exL_push]
      (try simp only[go_sem, hnd, ↓hlen, hn_gN])
      repeat first|apply wa1|apply wa2|apply wa3|apply wa4|apply wa5 rfl|apply wa6|apply wa7|(refine wb1 rfl fun R r=>?_;simp only[go_sem, hnd, ↓hlen, hn_gN];with_reducible refine r _ _ ?_;clear r R)
      refine aw_lookup (a := r) (kv := dnL (exL (rs2 ++ [r]))) (Kf := keyI) (kt := 3) (et := 3) rfl rfl rfl (by kernel_rfl) ty_ki ty_iz (by simp only[go_sem, hnd, ↓hlen, hn_gN]<;>rfl) (by simp only[go_sem, hnd, ↓hlen, hn_gN]<;>rfl) (by simp only[go_sem, hnd, ↓hlen, hn_gN]<;>rfl) keyI_rep ?_
      rw [dn_get, exL_get hr.1 _ (fun x hm => by rcases List.mem_append.1 hm with hm | hm; exact hb2 x hm; rw [List.mem_singleton] at hm; omega), hex.ref]
      try simp only [Option.map_some, Option.getD_some, cstC]
      (try simp only[go_sem, hnd, ↓hlen, hn_gN])
      repeat first|apply wa1|apply wa2|apply wa3|apply wa4|apply wa5 rfl|apply wa6|apply wa7|(refine wb1 rfl fun R r=>?_;simp only[go_sem, hnd, ↓hlen, hn_gN];with_reducible refine r _ _ ?_;clear r R)
      refine aw_keep [(6, .c (.int .i64 ((rs2.length : Int) + 2)))] (HX g1 g2 g3 g4 gd gT gU gM (some g) o pl ns mm oo (rs2 ++ [r]) (some gN) (os2 ++ [⟨nd.v, xl, xh⟩])) (by simp only[go_sem, hnd, ↓hlen, hn_gN]<;>and_intros<;>first|exact True.intro|(with_reducible rfl)|exact c_int (by omega)|rfl) (by
        simp only [HX, X5, THp, TH, gs, gh, List.cons_append, List.nil_append, List.length_append, List.length_singleton]
        exact List.Sublist.cons _ (List.Sublist.refl _)) ?_
      (refine aw_rethq rfl fun R r=>?_;simp only[go_sem, hnd, ↓hlen, hn_gN];refine r _ rfl ?_;clear r R)
      exact ⟨rs2 ++ [r], some gN, os2 ++ [⟨nd.v, xl, xh⟩], _, hex, some_ne, rfl, rfl⟩
set_option maxRecDepth 100000 in
set_option maxHeartbeats 3200000 in
theorem export_fh (gT gU gM : Nat) {o pl : List Int} (ho : OdOk o pl) {og : Option Nat} {ns : List DN} {mm : Mem3} (hs : TS o og ns mm) (hn : ns.length ≤ 1000000000) {r : Int} (hr : RefOk ns r) :
    Fh Tryz.prog 93 (THp gT gU gM og o pl ns mm) [.c (.optr gT 0), .c (.int .i64 r)] (fun x h => ∃ rs os y, Ex o ns [] [] rs os r y ∧ x = .agg (dgc true ⟨o, os, y⟩) ∧ h = THp gT gU gM og o pl ns mm) := by
  have l24 := ho.l24
  refine fh_of_body Tryz.func93 rfl rfl (by simp [Tryz.ntmps93]) fun C hC => ?_
  simp only [initS, Nat.reduceAdd]
  unfold THp TH
  simp only [List.cons_append, List.nil_append]
  refine xG ?_
  refine xB fun g2 hn_g2=>?_
  refine yG hn_g2 ?_
  refine yA hn_g2 fun g4 hn_g4=>?_
  refine yG (oj hn_g2 hn_g4) ?_
  refine aw_copy (size := 1) (z := [.int .i64 0]) rfl rfl rfl (zE (oj hn_g2 hn_g4)) (zE (oj hn_g2 hn_g4)) rfl (by omega) (zE (oj hn_g2 hn_g4)) (zE (oj hn_g2 hn_g4)) .row (by unfold maxLen; omega) (by omega) ?_
  refine yS (oj hn_g2 hn_g4) ?_
  refine yG (oj hn_g2 hn_g4) ?_
  refine yA (oj hn_g2 hn_g4) fun g5 hn_g5=>?_
  refine yG (oj hn_g2 (oj hn_g4 hn_g5)) ?_
  refine yW (oj hn_g2 (oj hn_g4 hn_g5)) ?_
  refine yS (oj hn_g2 (oj hn_g4 hn_g5)) ?_
  refine yG (oj hn_g2 (oj hn_g4 hn_g5)) ?_
  refine aw_makeMap (Kf := keyI) rfl rfl rfl fun gd hn_gd => ?_
  replace hn_gd := Heap.ne_of hn_gd
  dsimp only [Heap.ne, gh] at hn_gd
  refine yS (oj hn_g2 (oj hn_g4 (oj hn_g5 hn_gd))) ?_
  refine yG (oj hn_g2 (oj hn_g4 (oj hn_g5 hn_gd))) ?_
  refine aw_insNew (a := 0) (kv := []) (Kf := keyI) (v := .int .i64 0) rfl rfl rfl (kt := 3) (et := 3) (by kernel_rfl) ty_ki (zE (oj hn_g2 (oj hn_g4 (oj hn_g5 hn_gd)))) (zE (oj hn_g2 (oj hn_g4 (oj hn_g5 hn_gd)))) (zE (oj hn_g2 (oj hn_g4 (oj hn_g5 hn_gd)))) keyI_rep (cv := .c (.int .i64 0)) (zE (oj hn_g2 (oj hn_g4 (oj hn_g5 hn_gd)))) (fun S w u h => h) rfl (zE (oj hn_g2 (oj hn_g4 (oj hn_g5 hn_gd)))) ?_
  refine yS (oj hn_g2 (oj hn_g4 (oj hn_g5 hn_gd))) ?_
  refine yG (oj hn_g2 (oj hn_g4 (oj hn_g5 hn_gd))) ?_
  refine aw_insNew (a := 1) (kv := [(0, .int .i64 0)]) (Kf := keyI) (v := .int .i64 1) rfl rfl rfl (kt := 3) (et := 3) (by kernel_rfl) ty_ki (zE (oj hn_g2 (oj hn_g4 (oj hn_g5 hn_gd)))) (zE (oj hn_g2 (oj hn_g4 (oj hn_g5 hn_gd)))) (zE (oj hn_g2 (oj hn_g4 (oj hn_g5 hn_gd)))) keyI_rep (cv := .c (.int .i64 1)) (zE (oj hn_g2 (oj hn_g4 (oj hn_g5 hn_gd)))) (fun S w u h => h) rfl (zE (oj hn_g2 (oj hn_g4 (oj hn_g5 hn_gd)))) ?_
  refine yS (oj hn_g2 (oj hn_g4 (oj hn_g5 hn_gd))) ?_
  refine yG (oj hn_g2 (oj hn_g4 (oj hn_g5 hn_gd))) ?_
  refine yA (oj hn_g2 (oj hn_g4 (oj hn_g5 hn_gd))) fun g6 hn_g6=>?_
  refine yG (oj hn_g2 (oj hn_g4 (oj hn_g5 (oj hn_gd hn_g6)))) ?_
  refine yW (oj hn_g2 (oj hn_g4 (oj hn_g5 (oj hn_gd hn_g6)))) ?_
  refine yS (oj hn_g2 (oj hn_g4 (oj hn_g5 (oj hn_gd hn_g6)))) ?_
  refine yG (oj hn_g2 (oj hn_g4 (oj hn_g5 (oj hn_gd hn_g6)))) ?_
  refine yA (oj hn_g2 (oj hn_g4 (oj hn_g5 (oj hn_gd hn_g6)))) fun g7 hn_g7=>?_
  refine yG (oj hn_g2 (oj hn_g4 (oj hn_g5 (oj hn_gd (oj hn_g6 hn_g7))))) ?_
  refine aw_makeFunc (gs := [g6, g2, g7, g5]) rfl rfl rfl (zE (oj hn_g2 (oj hn_g4 (oj hn_g5 (oj hn_gd (oj hn_g6 hn_g7)))))) ?_
  refine yS (oj hn_g2 (oj hn_g4 (oj hn_g5 (oj hn_gd (oj hn_g6 hn_g7))))) ?_
  refine yG (oj hn_g2 (oj hn_g4 (oj hn_g5 (oj hn_gd (oj hn_g6 hn_g7))))) ?_
  refine yW (oj hn_g2 (oj hn_g4 (oj hn_g5 (oj hn_gd (oj hn_g6 hn_g7))))) ?_
  refine yS (oj hn_g2 (oj hn_g4 (oj hn_g5 (oj hn_gd (oj hn_g6 hn_g7))))) ?_
  refine yG (oj hn_g2 (oj hn_g4 (oj hn_g5 (oj hn_gd (oj hn_g6 hn_g7))))) ?_
  refine aw_callhv (hr := [(g4, .cells 86 3 (ofL [.nils, .nils, .int .i64 0]))]) (ewalk_fh (pl := pl) g6 g2 g7 g5 gd gT gU gM hs hn o (r.toNat + 1) r [] none [] (by omega) hr (ExOk.nil ns) (fun _ => rfl)) rfl rfl rfl (zE (oj hn_g2 (oj hn_g4 (oj hn_g5 (oj hn_gd (oj hn_g6 hn_g7)))))) ?hp (zL (oj hn_g2 (oj hn_g4 (oj hn_g5 (oj hn_gd (oj hn_g6 hn_g7)))))) ?_
  · have e : HX g6 g2 g7 g5 gd gT gU gM og o pl ns mm o [] none [] = X5 g6 g2 g7 g5 gd gT o [] none 0 ++ THp gT gU gM og o pl ns mm := List.append_nil _
    rw [e]
    refine ((permL [(g7, _), (g6, _), (gd, _), (g5, _), (g4, _), (g2, _)] [0, 1, 2, 3, 4, 5] [4, 1, 5, 0, 3, 2] (by decide)).append_right (THp gT gU gM og o pl ns mm)).trans ?_
    exact (List.perm_append_singleton (g4, _) (X5 g6 g2 g7 g5 gd gT o [] none 0 ++ THp gT gU gM og o pl ns mm)).symm
  rintro _ _ ⟨rs, oN, os, y, hex, hoN, rfl, rfl⟩ _
  unfold HX X5 THp TH
  simp only [List.cons_append, List.nil_append, List.append_assoc]
  refine yS (oj hn_g2 (oj hn_g4 (oj hn_g5 (oj hn_gd (oj hn_g6 hn_g7))))) ?_
  refine yG (oj hn_g2 (oj hn_g4 (oj hn_g5 (oj hn_gd (oj hn_g6 hn_g7))))) ?_
  refine yW (oj hn_g2 (oj hn_g4 (oj hn_g5 (oj hn_gd (oj hn_g6 hn_g7))))) ?_
  refine yS (oj hn_g2 (oj hn_g4 (oj hn_g5 (oj hn_gd (oj hn_g6 hn_g7))))) ?_
  refine aw_keep [(4, .c (.optr g4 0)), (5, .c (.optr g5 0))] ((g5, .cells 86 3 (ofL [is true o, gs oN 3 os.length, .int .i64 y])) :: ([(gT, .cells 156 5 (ofL [is true o, is true pl, gs og 3 ns.length, .raw (.map (some gU)), .raw (.map (some gM))])), (gU, .gen (MapI dkV (uqTo ns 0))), (gM, .gen (MapI key3 (mmL mm)))] ++ (gh og 125 (ns.length * 3) (dnsF ns) ++ (gh oN 125 (os.length * 3) (dnsF os) ++ [(g4, .cells 86 3 (ofL [.nils, .nils, .int .i64 0]))])))) (zB (oj hn_g2 (oj hn_g4 (oj hn_g5 (oj hn_gd (oj hn_g6 hn_g7)))))) (List.Sublist.cons _ (List.Sublist.cons _ (List.Sublist.cons _ (List.Sublist.cons_cons _ (List.Sublist.cons _ (List.Sublist.refl _)))))) ?_
  refine aw_perm (List.Perm.cons _ (perm_ex _ _ _ _)) ?_
  refine aw_nd fun hnd => ?_
  refine aw_frzG (j0 := 1) (og := oN) (s := 3) (n := os.length) (f' := ofL [is true o, dns true os, .int .i64 y]) rfl rfl (fun j hj hne => ?_) hoN (fun g e => ?_) ?_
  · match j, hj, hne with
    | 0, _, _ => rfl
    | 1, _, hne => exact absurd rfl hne
    | 2, _, _ => rfl
  · subst e
    intro hown
    have hm : g ∈ Heap.keys (THp gT gU gM og o pl ns mm) := (hC g).1 hown
    have h1 : (g5 :: g :: g4 :: Heap.keys (THp gT gU gM og o pl ns mm)).Nodup := hnd
    exact (List.nodup_cons.1 (List.nodup_cons.1 h1).2).1 (List.mem_cons_of_mem _ hm)
  clear hnd
  simp only [List.cons_append, List.nil_append]
  refine yS (oj hn_g2 (oj hn_g4 (oj hn_g5 (oj hn_gd (oj hn_g6 hn_g7))))) ?_
  refine yG (oj hn_g2 (oj hn_g4 (oj hn_g5 (oj hn_gd (oj hn_g6 hn_g7))))) ?_
  refine yW (oj hn_g2 (oj hn_g4 (oj hn_g5 (oj hn_gd (oj hn_g6 hn_g7))))) ?_
  refine yS (oj hn_g2 (oj hn_g4 (oj hn_g5 (oj hn_gd (oj hn_g6 hn_g7))))) ?_
  refine yG (oj hn_g2 (oj hn_g4 (oj hn_g5 (oj hn_gd (oj hn_g6 hn_g7))))) ?_
  refine aw_keep [(4, .c (.optr g4 0))] ((g4, .cells 86 3 (ofL (dgc true ⟨o, os, y⟩))) :: THp gT gU gM og o pl ns mm) (zB (oj hn_g2 (oj hn_g4 (oj hn_g5 (oj hn_gd (oj hn_g6 hn_g7)))))) (List.Sublist.cons _ (List.Sublist.refl _)) ?_
  refine aw_rethw (h' := THp gT gU gM og o pl ns mm) rfl (List.Sublist.cons _ (List.Sublist.refl _)) (fun R hR => ?_)
  simp only [go_sem, hn_g2, hn_g4, hn_g5, hn_gd, hn_g6, hn_g7]
  refine hR _ rfl ?_
  clear hR R
  exact ⟨rs, os, y, hex, rfl, rfl⟩
end Go.Proofs.YtcoflhkcpnoaaaaGreatDoor
namespace Go.Proofs.YtcoflhkcpnoaaaaGreatDoor
open Go.AI Go.PN
attribute [local irreducible] aw Fa Fh DrK
structure TrOk (d : DG) (ns : List DN) (rs : List Int) (k : Nat) : Prop where
  ref : ∀ r : Nat, r < k + 2 → RefOk ns (rs.getD r 0) ∧ ∀ s, evalD ns s (rs.getD r 0) = evalD d.nodes s r
end Go.Proofs.YtcoflhkcpnoaaaaGreatDoor
namespace Go.AI
def dgZ : DG := ⟨[], [], 0⟩
def dgsF (ds : List DG) : Nat → CV := lf 3 (fun d : DG => [is false d.order, dns false d.nodes, CV.int .i64 d.root]) dgZ ds
@[go_sem] theorem dgsF_0 (ps : List DG) (i : Nat) : dgsF ps (i * 3) = is false (ps.getD i dgZ).order := by
  have := lf_at (s := 3) (c := fun d : DG => [is false d.order, dns false d.nodes, CV.int .i64 d.root]) (d := dgZ) (xs := ps) (i := i) (k := 0) (by omega)
  exact this
@[go_sem] theorem dgsF_1 (ps : List DG) (i : Nat) : dgsF ps (i * 3 + 1) = dns false (ps.getD i dgZ).nodes := by
  have := lf_at (s := 3) (c := fun d : DG => [is false d.order, dns false d.nodes, CV.int .i64 d.root]) (d := dgZ) (xs := ps) (i := i) (k := 1) (by omega)
  exact this
@[go_sem] theorem dgsF_2 (ps : List DG) (i : Nat) : dgsF ps (i * 3 + 2) = .int .i64 (ps.getD i dgZ).root := by
  have := lf_at (s := 3) (c := fun d : DG => [is false d.order, dns false d.nodes, CV.int .i64 d.root]) (d := dgZ) (xs := ps) (i := i) (k := 2) (by omega)
  exact this
@[go_sem] theorem dgsF_00 (ps : List DG) : dgsF ps 0 = is false (ps.getD 0 dgZ).order := dgsF_0 ps 0
end Go.AI
namespace Go.PN
open Go.AI
instance c16dec (ds : List DG) : Decidable (∀ j, j < ds.length → (ds.getD j dgZ).order = (ds.getD 0 dgZ).order) := Nat.decidableBallLT _ _
structure OpS (ds : List DG) (k : Nat) (ns : List DN) (rl : List Int) : Prop where
  len : rl.length = k
  ref : ∀ j, j < k → RefOk ns (rl.getD j 0) ∧ ∀ s, evalD ns s (rl.getD j 0) = evalD (ds.getD j dgZ).nodes s (ds.getD j dgZ).root
theorem OpS.push {ds : List DG} {k : Nat} {o : List Int} {ns ns' : List DN} {m : Nat} {rl : List Int} {x : Int} (h : OpS ds k ns rl) (ht : TabOk o ns) (hl : Later o ns ns' m) (hx : RefOk ns' x) (he : ∀ s, evalD ns' s x = evalD (ds.getD k dgZ).nodes s (ds.getD k dgZ).root) : OpS ds (k + 1) ns' (rl ++ [x]) := by
  have hlen := h.len
  refine ⟨by simp [h.len], fun j hj => ?_⟩
  by_cases e : j = k
  · have e1 : (rl ++ [x]).getD j 0 = x := by
      rw [List.getD_eq_getElem?_getD, List.getElem?_append_right (by omega), show j - rl.length = 0 from by omega]; rfl
    rw [e1, e]
    exact ⟨hx, he⟩
  · obtain ⟨a, b⟩ := h.ref j (by omega)
    have e1 : (rl ++ [x]).getD j 0 = rl.getD j 0 := by
      rw [List.getD_eq_getElem?_getD, List.getElem?_append_left (by omega), ← List.getD_eq_getElem?_getD]
    rw [e1]
    exact ⟨hl.ref a, fun s => by rw [hl.eval ht a]; exact b s⟩
end Go.PN

namespace Go.PN
open Go.AI
def wtQ (y n : Nat) (qs : List Rat) : Nat → Rat
  | 0 => 1
  | k + 1 => wtQ y n qs k * wfac y n k (qs.getD k 0)
def smQ (qs : List Rat) (tb : List Bool) : Nat → Rat
  | 0 => 0
  | k + 1 => if tb.getD k false then smQ qs tb k + wtQ k (2 ^ qs.length - 1 - k) qs qs.length else smQ qs tb k
theorem rd0_rd : rd0 = rd 0 := rd_zero.symm
theorem map_rd_q (qs : List Rat) (k : Nat) : ((qs.map rd).getD k rd0).q = qs.getD k 0 := by
  rw [List.getD_eq_getElem?_getD, List.getD_eq_getElem?_getD, List.getElem?_map]
  cases qs[k]? with
  | none => show rd0.q = 0; rw [rd0_rd, rd_q]
  | some x => exact rd_q x
theorem wtTo_rd (y n : Nat) (qs : List Rat) : ∀ k, wtTo y n (qs.map rd) k = wtQ y n qs k
  | 0 => rfl
  | k + 1 => by rw [wtTo, wtQ, wtTo_rd y n qs k, map_rd_q]
theorem sumQ_rd (qs : List Rat) (tb : List Bool) : ∀ k, sumQ (qs.map rd) tb k = smQ qs tb k
  | 0 => rfl
  | k + 1 => by rw [sumQ, smQ, sumQ_rd qs tb k, stQ, List.length_map, wtTo_rd]
end Go.PN
namespace Go.AI
section
variable {E : Env} {K : List It} {σ : Sl} {h : Heap}
theorem Sl.set_set (t : Nat) (u v : AV) : ∀ σ : Sl, (σ.set t u).set t v = σ.set t v
  | [] => by simp [Sl.set]
  | (t', x) :: σ => by
    simp only [Sl.set]
    by_cases e : t' = t
    · rw [if_pos e, if_pos e]; simp [Sl.set]
    · rw [if_neg e, if_neg e]; simp only [Sl.set, if_neg e]; rw [Sl.set_set t u v σ]
theorem aw_frzT {t g s off n m : Nat} {ty : TypeId} {f : Nat → CV} (f' : Nat → CV) {σ' : Sl} {h' : Heap} (ht : σ.get t = .c (.osl g s off n)) (hg : h.get g = some (.cells ty m f)) (hm : off + n * s ≤ m) (hn : ¬ E.C.own0 g) (hf : ∀ j, j < n * s → f (off + j) = f' j) (hσ : σ.set t (.c (.row true s n f')) = σ') (hh : h.del g = h')
    (k : aw E K σ' h') : aw E K σ h := by
  refine aw_frz ht hg hm hn rfl hh ?_
  refine aw_conv (t := t) (v := .c (.row true s n f')) (σ' := σ') (fun S w u hr => ?_) ?_ k
  · rw [Sl.get_set, if_pos rfl] at hr
    obtain ⟨A, c, hv, hc, hn⟩ := hr
    refine ⟨A, c, hv, hc, fun h0 => ?_⟩
    obtain ⟨ad, hA, hS, hj⟩ := hn h0
    refine ⟨ad, hA, hS, fun j hjl => ?_⟩
    obtain ⟨u, hu, hru⟩ := hj j hjl
    exact ⟨u, hu, by rw [← hf j hjl]; exact hru⟩
  · rw [← hσ, Sl.set_set]
end
end Go.AI

namespace Go.PN
open Go.AI
structure DOut (o : List Int) (f : Nat → Bool) (D : DG) : Prop where
  order : D.order = o
  code : dcode D = 0
  ev : ∀ s, evalD D.nodes s D.root = f s
theorem dout_of {o : List Int} {ns : List DN} {rs : List Int} {os : List DN} {r x : Int} (ho : ocode o o.length = 0) (h12 : o.length ≤ 12) (hm : ∀ v : Int, 0 ≤ v → v < o.length → v ∈ o) (ht : TabOk o ns) (hr : RefOk ns r) (h : Ex o ns [] [] rs os r x) : DOut o (fun s => evalD ns s r) ⟨o, os, x⟩ := by
  refine ⟨rfl, ex_code ho ht hr h ?_, fun s => h.ok.eval ht s x.toNat r x (Nat.le_refl _) hr.1 hr.2 h.ref⟩
  have h0 := lv3_nonneg hm ht hr
  have hl := h.len
  have hp : 2 ^ ((o.length : Int) - lvZ o ns r).toNat ≤ 2 ^ 12 := Nat.pow_le_pow_right (by omega) (by omega)
  rw [h.ok.len]
  simp only [List.length_nil] at hl
  omega
end Go.PN

namespace Go.PN
open Go.AI
theorem rd0_q : rd0.q = 0 := by
  have : rd0 = rd 0 := rd_zero.symm
  rw [this, rd_q]
end Go.PN
namespace Go.Proofs.YtcoflhkcpnoaaaaGreatDoor
open Go.AI Go.PN
abbrev prS (d : DG) (p : List RD) : Rat := sumQ p (tabL d) (2 ^ p.length)
theorem Small.set {d : DG} {p : List RD} (hs : Small d p) (h : dpcode d p = 0) {i : Nat} {q : RD} (hq : q.wf 4) : Small d (p.set i q) :=
  ⟨fun r hr => by
    rcases List.mem_or_eq_of_mem_set hr with hr | rfl
    · exact hs.w r hr
    · exact hq, by rw [List.length_set]; exact hs.l, hs.o, hs.n, fun _ => hs.o6 h⟩
end Go.Proofs.YtcoflhkcpnoaaaaGreatDoor
namespace Go.PN
open Go.AI
def evB (b : Bool) : Rat := if b then 1 else 0
end Go.PN
namespace Go.Proofs.YtcoflhkcpnoaaaaGreatDoor
open Go.AI Go.PN
theorem prS_ex {d : DG} {p : List RD} (h : d.order.length = p.length) : prS d p = exQ (prP p) p.length (fun s => evB (evalD d.nodes s d.root)) := by
  unfold prS
  rw [sumQ_ex]
  refine ex_congr _ _ _ fun s hs => ?_
  unfold evB tabL
  rw [List.getD_eq_getElem?_getD, h]
  simp [hs]
end Go.Proofs.YtcoflhkcpnoaaaaGreatDoor
