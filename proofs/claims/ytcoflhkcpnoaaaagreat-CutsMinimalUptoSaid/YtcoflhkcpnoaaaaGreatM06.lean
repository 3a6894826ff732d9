/- Blocks of one proof, laid one behind the other by a program (merge2.py). -/
import Derived.Test.YtcoflhkcpnoaaaaGreatM05
set_option linter.unusedSimpArgs false
set_option linter.unusedVariables false
namespace Go.AI
section
variable {E : Env} {K : List It} {σ σ' : Sl} {h : Heap} {l : List Oper} {o : Oper}
theorem CalmX.pure2 {nw : Bool} {q : Prop} {r : AV} (hw : wantA l σ o = some true) (hb : pureOp2 E.P nw h (ev σ) o.op = some (q, r)) (hq : q) (hd : dstOk E.N o.dst = true) : CalmX E h l σ o r := by
  refine ⟨hd, fun σ' ext a w Q hs s => ?_⟩
  rw [if_pos (s.wanted ((want_same hs).trans hw))]
  obtain ⟨v, hrun, hr⟩ := pureOp2_ok (fun _ => rfl) hb hq (Stab E.C (ext ++ h) w) w a.eval Stab.mono' (fun x hx => by rw [← ev_same hx hs]; exact ev_rep s x) (fun g ob hm => s.heap g ob (List.mem_append_right _ hm))
  unfold Oper.wp
  rw [hrun o rfl]
  exact s.put hd hr
theorem CalmX.skip (hw : wantA l σ o = some false) (hd : dstOk E.N o.dst = true) : CalmX E h l σ o (.tup []) := by
  refine ⟨hd, fun σ' ext a w Q hs s => ?_⟩
  rw [if_neg (by rw [s.wanted ((want_same hs).trans hw)]; simp)]
theorem Heap.get_ext : ∀ {ext h : Heap} {g : Nat} {ob : AObj}, (ext ++ h).keys.Nodup → h.get g = some ob → Heap.get (ext ++ h) g = some ob
  | [], h, g, ob, _, hg => hg
  | (g0, o0) :: ext, h, g, ob, hn, hg => by
    simp only [List.cons_append, Heap.keys, List.map_cons, List.nodup_cons] at hn
    have hne : ¬ g0 = g := fun e => hn.1 (by
      rw [e]
      exact List.mem_map.2 ⟨(g, ob), List.mem_append_right _ (Heap.get_mem hg), rfl⟩)
    simp only [List.cons_append, Heap.get, if_neg hne]
    exact Heap.get_ext hn.2 hg
theorem LeC.ext {ext h : Heap} (hn : (ext ++ h).keys.Nodup) {x y : CV} (le : LeC h x y) : LeC (ext ++ h) x y := by
  induction le with
  | refl x => exact .refl x
  | any x => exact .any x
  | nils => exact .nils
  | row ht _ ih => exact .row ht ih
  | osl hg hm _ ih => exact .osl (Heap.get_ext hn hg) hm ih
  | ifc _ ih => exact .ifc ih
theorem LeL.ext {ext h : Heap} (hn : (ext ++ h).keys.Nodup) : ∀ {xs ys : List CV}, LeL h xs ys → LeL (ext ++ h) xs ys
  | [], [], _ => trivial
  | _ :: _, _ :: _, le => ⟨le.1.ext hn, LeL.ext hn le.2⟩
  | [], _ :: _, le => le.elim
  | _ :: _, [], le => le.elim
theorem LeA.ext {ext h : Heap} (hn : (ext ++ h).keys.Nodup) : ∀ {xs ys : List AV}, LeA h xs ys → LeA (ext ++ h) xs ys
  | [], [], _ => trivial
  | _ :: _, _ :: _, le => ⟨by
      rcases le.1 with l | l
      · exact .c (l.ext hn)
      · exact .agg (LeL.ext hn l), LeA.ext hn le.2⟩
  | [], _ :: _, le => le.elim
  | _ :: _, [], le => le.elim
theorem CalmX.call {f : FuncId} {xs : List Operand} {ts : Array TypeId} {args : List AV} {r : AV} (hf : Fa E.P f args r) (hop : o.op = .call { callee := .value (.func f), args := xs.toArray, argTypes := ts }) (hw : wantA l σ o = some true) (hd : dstOk E.N o.dst = true)
    (le : LeA h (xs.map (ev σ)) args) : CalmX E h l σ o r := by
  refine ⟨hd, fun σ' ext a w Q hs s => ?_⟩
  rw [if_pos (s.wanted ((want_same hs).trans hw))]
  have he : xs.map (ev σ') = xs.map (ev σ) := List.map_congr_left fun x hx => ev_same (by rw [hop]; simp [Op.operands, Call.operands, hx]) hs
  unfold Oper.wp
  have hrun : (execOp a.eval o).run E.P w = .ok (.enter f (xs.map a.eval).toArray) w := by
    simp only [execOp, hop, resolve, Act.eval, Deferred.ofValue, invoke, Sem.run_bind]
    have := hf.1.run (#[] ++ (Array.map a.eval xs.toArray) ++ #[]) w
    simp only [Sem.run_pure, Result.andThen_ok]
    rw [show ((xs.map a.eval).toArray) = (#[] ++ (Array.map a.eval xs.toArray) ++ #[]) from by simp]
    exact this
  rw [hrun]
  show Calls _ _ _ _ _
  refine (hf.use s (by rw [he]; exact le.ext s.nodup)).mono ?_
  rintro e w' ⟨v, rfl, hr, hfr⟩
  exact (s.later hfr).put hd hr
theorem CalmX.of_run {r : AV} (hw : wantA l σ o = some true) (hd : dstOk E.N o.dst = true)
    (hrun : ∀ σ' ext a w, (∀ x ∈ o.op.operands, ev σ' x = ev σ x) → St E.N E.C σ' (ext ++ h) a w → ∃ v w', (execOp a.eval o).run E.P w = .ok (.value v) w' ∧ Fr (fun _ => False) w w' ∧ Rep (Stab E.C (ext ++ h) w') w' r v) : CalmX E h l σ o r := by
  refine ⟨hd, fun σ' ext a w Q hs s => ?_⟩
  rw [if_pos (s.wanted ((want_same hs).trans hw))]
  obtain ⟨v, w', hr, hfr, hrep⟩ := hrun σ' ext a w (fun x hx => ev_same hx hs) s
  unfold Oper.wp
  rw [hr]
  exact (s.later hfr).put hd hrep
theorem CalmX.copy {t e size bytes k : Nat} {z : List CV} {f2 : Nat → CV} {s x : Operand} {cx : CV} (hop : o.op = .call { callee := .builtin .append, args := #[s, x], argTypes := #[t, t] }) (hw : wantA l σ o = some true) (hd : dstOk E.N o.dst = true)
    (ht : tElem E.P t = some (e, size, bytes)) (hz : tZero E.P e = some z) (hzl : z.length = size) (hs0 : 0 < size) (hs : ev σ s = .c .nils) (hx : ev σ x = .c cx) (hsrc : Src h size cx k f2)
    (h63 : k ≤ maxLen) (hby : k * bytes ≤ 140737488355328) : CalmX E h l σ o (.c (.row true size k f2)) := by
  refine CalmX.of_run hw hd fun σ' ext a w he st => ?_
  have r1 := ev_rep st s
  have r2 := ev_rep st x
  rw [he s (by rw [hop]; simp [Op.operands, Call.operands]), hs] at r1
  rw [he x (by rw [hop]; simp [Op.operands, Call.operands]), hx] at r2
  obtain ⟨A0, hv1⟩ := r1
  obtain ⟨A, d, hv2, hA⟩ := hsrc.cells (fun g ob hm => st.heap g ob (List.mem_append_right _ hm)) r2
  rcases Nat.eq_zero_or_pos k with hk | hk
  · subst hk
    refine ⟨.slice A0 0 0, w, exec_append hop ?_, Fr.refl _ _, A0, 0, rfl, Nat.le_refl _, fun h0 => by simp at h0⟩
    rw [hv1, hv2]
    exact run_append_zero ht (Nat.le_refl _)
  · obtain ⟨ad, rfl, hc⟩ := hA (Nat.mul_pos hk hs0)
    obtain ⟨news, hnl, hnews⟩ := list_of_cells (k * size) hc
    obtain ⟨c', w', cs', hrun, hb', hcs', hle', hcm', hnew, hfr⟩ := append_new (P := E.P) (ty := o.type) (d := d) (A := A0) ht hz hzl hnl (fun j u e => (hnews j u e).1) hk h63 hby
    have hlt : w.heap.size < w'.heap.size := (Array.getElem?_eq_some_iff.1 hb').1
    have hnk : w.heap.size ∉ (ext ++ h).keys := fun hm => Nat.lt_irrefl _ (st.klt hm)
    have kp : Keeps (Stab E.C (ext ++ h) w) (Stab E.C (ext ++ h) w') w w' :=
      ⟨fun t b hb => ⟨hb.1, Nat.lt_of_lt_of_le hb.2.1 hfr.size, hb.2.2⟩, fun t b hb => hfr.block b hb.2.1 (fun x => x), hfr.has⟩
    refine ⟨_, w', exec_append hop (by rw [hv1, hv2]; exact hrun), hfr, _, c', rfl, hle', fun _ => ⟨_, rfl, ⟨.inr st.frame.size, hlt, hnk⟩, fun j hjl => ?_⟩⟩
    have hl : j < news.length := by omega
    refine ⟨news[j], ?_, (hnews _ _ (List.getElem?_eq_getElem hl)).2.keep kp⟩
    rw [add_mk, cell_own hb', Nat.zero_add, hnew j hjl]
    exact List.getElem?_eq_getElem hl
theorem NewX.of_run {rf : Nat → AV} {ob : AObj} (hw : wantA l σ o = some true) (hd : dstOk E.N o.dst = true)
    (hrun : ∀ σ' ext a w, (∀ x ∈ o.op.operands, ev σ' x = ev σ x) → St E.N E.C σ' (ext ++ h) a w → ∃ v w', (execOp a.eval o).run E.P w = .ok (.value v) w' ∧ Fr (fun _ => False) w w' ∧ w.heap.size < w'.heap.size ∧
      ORep (Stab E.C ((w.heap.size, ob) :: (ext ++ h)) w') w' w.heap.size ob ∧ Rep (Stab E.C ((w.heap.size, ob) :: (ext ++ h)) w') w' (rf w.heap.size) v) : NewX E h l σ o rf ob := by
  refine ⟨hd, fun σ' ext a w Q hs s => ⟨s.wanted ((want_same hs).trans hw), ?_⟩⟩
  obtain ⟨v, w', hr, hfr, hlt, ho, hrep⟩ := hrun σ' ext a w (fun x hx => ev_same hx hs) s
  unfold Oper.wp
  rw [hr]
  exact ⟨w.heap.size, (s.new rfl hfr hlt ho).put hd hrep⟩
theorem NewX.make {t e size bytes n c : Nat} {z : List CV} {xl xc : Operand} {kl kc : IntKind} {nl nc : Int} (hop : o.op = .makeSlice t xl xc) (hw : wantA l σ o = some true) (hd : dstOk E.N o.dst = true) (ht : tElem E.P t = some (e, size, bytes))
    (hz : tZero E.P e = some z) (hzl : z.length = size) (hs0 : 0 < size) (hl : ev σ xl = .c (.int kl nl)) (hc : ev σ xc = .c (.int kc nc)) (hn : nl = n) (hcn : nc = c) (hnc : n ≤ c) (hby : bytes * c ≤ 281474976710656) (hc63 : c ≤ 9223372036854775807) :
    NewX E h l σ o (fun g => .c (.osl g size 0 n)) (.cells e (c * size) (fun j => ofL z (j % size))) := by
  refine NewX.of_run hw hd fun σ' ext a w he s => ?_
  obtain ⟨hu, inf, hi, hsz, hbb⟩ := tElem_spec ht
  obtain ⟨i', zv, hi', hzv, rfl⟩ := tZero_spec hz
  rw [hi] at hi'
  injection hi' with hi'
  subst hi'
  have h1 : a.eval xl = .int kl n := by have := ev_rep s xl; rw [he xl (by rw [hop]; simp [Op.operands]), hl, hn] at this; exact this
  have h2 : a.eval xc = .int kc c := by have := ev_rep s xc; rw [he xc (by rw [hop]; simp [Op.operands]), hc, hcn] at this; exact this
  have hb' : (inf.bytes : Int) * (c : Int) ≤ 281474976710656 := by
    have h : ((inf.bytes * c : Nat) : Int) ≤ 281474976710656 := by rw [hbb]; omega
    rwa [Int.natCast_mul] at h
  have hr := run_make (P := E.P) w t e inf zv hu hi hzv kl kc n c (by omega) (by omega) hb' (by omega)
  simp only [Int.toNat_natCast] at hr
  refine ⟨.slice (some ⟨w.heap.size, 0, none⟩) n c, w.alloc (.cells (madeCells zv.cells (c * inf.size)) e), ?_, Fr.alloc _ _ _, by simp, ?_, ?_⟩
  · simp only [execOp, hop, h1, h2, Sem.run_bind, hr, Result.andThen_ok]
    rfl
  · refine ⟨_, heap_alloc_new w _, by rw [size_madeCells, hsz]; exact Nat.le_refl _, fun j hj => ?_⟩
    have hzs : zv.cells.size = size := by simpa using hzl
    have hlt : j % size < zv.cells.size := by rw [hzs]; exact Nat.mod_lt _ hs0
    refine ⟨zv.cells[j % size], ?_, ?_⟩
    · have hlt' : j % size < zv.cells.size := hlt
      simp only [madeCells, hsz, hzs]
      simp [hj, hlt', getElem!_pos]
    · exact ofL_map_cst zv.cells.toList (j % size) (by simpa using hlt) _ _
  · exact ⟨c, rfl, hnc, by unfold maxLen; omega, _, e, ⟨_, heap_alloc_new w _⟩, by rw [size_madeCells, hsz]; simp⟩
def noLook (l : List Oper) (n d : Nat) : Bool := (l.take n).all fun o => !(looks l o).contains d
theorem noLook_spec {n d : Nat} (hn : noLook l n d = true) (i : Nat) (o : Oper) (hi : i < n) (ho : l[i]? = some o) : d ∉ looks l o := fun hm => by
  unfold noLook at hn
  rw [List.all_eq_true] at hn
  have : o ∈ l.take n := List.mem_of_getElem? (i := i) (by rw [List.getElem?_take, if_pos hi]; exact ho)
  have := hn o this
  simp [hm] at this
def DrB (E : Env) (h : Heap) (l : List Oper) (K : List It) (M i k : Nat) (rest : List Oper) (σ : Sl) (pre : List Al) : Prop :=
  ∃ ps σ' al, ps.map (·.1) = rest.take k ∧ DrX E h l i ps σ σ' al ∧ (∀ x ∈ al, noLook l M x.d = true) ∧ ∀ γ, aw E (.ops l (rest.drop k) :: K) (addA (pre ++ al) (fun _ => true) γ σ') (extA (pre ++ al) (fun _ => true) γ ++ h)
theorem aw_drB {id : Nat} (n : Nat) (hm : E.P.follows .mixedOrders = true) (hok : (lexOk l && tailT l n && decide (n ≤ l.length)) = true) (k : DrB E h l K n 0 n l σ []) : aw E (.code (.region id l.toArray true) :: K) σ h := fun a w s => by
  obtain ⟨ps, σ', al, hps, d, hnl, k⟩ := k
  simp only [Bool.and_eq_true, decide_eq_true_eq] at hok
  refine wp_region_any hm ?_
  have s' := s.later (Fr.drew (fun _ => False) w (w.drawn + 1))
  have e0 : ∀ j, (Array.replicate l.length false).getD j false = false := fun j => by
    rw [Array.getD_eq_getD_getElem?]
    simp only [Array.getElem?_replicate]
    split <;> rfl
  have hun : ∀ m, unl (fun j => (Array.replicate l.length false).getD j false) m = m := by
    intro m
    induction m with
    | zero => rfl
    | succ m ih => rw [unl, ih, e0]; rfl
  have hadd0 : ∀ (L : Nat → Bool) (al : List Al) (σ : Sl) (γ : Nat → Nat), (∀ j, L j = false) → addA al L γ σ = σ ∧ extA al L γ = [] := by
    intro L al σ γ hL
    induction al with
    | nil => exact ⟨rfl, rfl⟩
    | cons x al ih => simp only [addA, extA, hL, Bool.false_eq_true, if_false]; exact ih
  have hadd := fun (al : List Al) (σ : Sl) (γ : Nat → Nat) => hadd0 (fun j => (Array.replicate l.length false).getD j false) al σ γ e0
  have := drawX_any (Q := exW E K) hok.1.1 hok.1.2 hok.2 hps d (fun x hx i o hi ho => noLook_spec (hnl x hx) i o hi ho) (fun γ a w st => k γ a w st) n (Array.replicate l.length false) (fun _ => 0) a { w with drawn := w.drawn + 1 } (hun n) (by simp) (fun i o _ hl => by rw [e0] at hl; cases hl) (fun j _ _ => e0 j) (by
    rw [(hadd al _ _).1, (hadd al σ _).2, List.nil_append]
    refine s'.weak (fun t => .inr ?_) (List.Sublist.refl _)
    rw [sigL_get_none ps _ σ t (fun j p hp hb => ?_)]
    exfalso
    have hjl : j < ps.length := (List.getElem?_eq_some_iff.1 hp).1
    have hpl : ps.length = n := by have := congrArg List.length hps; simp at this; omega
    rw [marks_get (by omega), e0] at hb
    cases hb)
  rw [show n + (l.length - n) = l.length from by omega] at this
  simpa using this
theorem drb_nil {M i : Nat} {rest : List Oper} {pre : List Al} (k : ∀ γ, aw E (.ops l rest :: K) (addA pre (fun _ => true) γ σ) (extA pre (fun _ => true) γ ++ h)) : DrB E h l K M i 0 rest σ pre :=
  ⟨[], σ, [], by simp, .nil, by simp, fun γ => by simpa using k γ⟩
theorem drb_calm {M i n : Nat} {rest : List Oper} {pre : List Al} {r : AV} (hc : CalmX E h l σ o r) (k : DrB E h l K M (i + 1) n rest (σ.setO o.dst r) pre) : DrB E h l K M i (n + 1) (o :: rest) σ pre := by
  obtain ⟨ps, σ', al, h1, h2, h3, h4⟩ := k
  exact ⟨(o, r) :: ps, σ', al, by simp [h1], .calm hc h2, h3, by simpa using h4⟩
theorem drb_new {M i n d : Nat} {rest : List Oper} {pre : List Al} {rf : Nat → AV} {ob : AObj} (hd : o.dst = some d) (hc : NewX E h l σ o rf ob) (hn : noLook l M d = true) (k : DrB E h l K M (i + 1) n rest (σ.set d (.c .any)) (pre ++ [⟨i, d, rf, ob⟩])) : DrB E h l K M i (n + 1) (o :: rest) σ pre := by
  obtain ⟨ps, σ', al, h1, h2, h3, h4⟩ := k
  refine ⟨(o, .c .any) :: ps, σ', ⟨i, d, rf, ob⟩ :: al, by simp [h1], .new hd hc (by rw [hd]; exact h2), fun x hx => ?_, fun γ => ?_⟩
  · rcases List.mem_cons.1 hx with rfl | hx
    · exact hn
    · exact h3 x hx
  · have := h4 γ
    simpa using this
theorem drb_2q {M i n : Nat} {rest : List Oper} {pre : List Al} (nw : Bool) (hd : dstOk E.N o.dst = true) (k : ∀ R : Option (Prop × Sl) → Prop, (∀ q σ', q → DrB E h l K M (i + 1) n rest σ' pre → R (some (q, σ'))) → R (runOp2 E.P nw h l o σ)) : DrB E h l K M i (n + 1) (o :: rest) σ pre := by
  have := k (fun x => x = runOp2 E.P nw h l o σ → DrB E h l K M i (n + 1) (o :: rest) σ pre) (fun q σ' hq ha e => by
    unfold runOp2 at e
    split at e
    · rename_i hw
      split at e
      · rename_i q1 r hp
        simp only [Option.some.injEq, Prod.mk.injEq] at e
        obtain ⟨rfl, rfl⟩ := e
        exact drb_calm (CalmX.pure2 hw hp hq hd) ha
      · cases e
    · rename_i hw
      simp only [Option.some.injEq, Prod.mk.injEq] at e
      obtain ⟨rfl, rfl⟩ := e
      exact drb_calm (CalmX.skip hw hd) ha
    · cases e)
  exact this rfl
end
attribute [go_sem] addA extA
end Go.AI
namespace Go.AI
section
variable {E : Env} {K : List It} {σ σ' : Sl} {h : Heap} {l : List Oper} {o : Oper}
theorem Oper_wp_imp {P : Program} {o : Oper} {a : Act} {w : World} {K K' : Act → World → Prop} {Q Q' : Exit → Act → World → Prop} (h : ∀ a w, K a w → K' a w) (hq : ∀ e a w, e ≠ .normal → Q e a w → Q' e a w) (hh : o.wp P a w K Q) : o.wp P a w K' Q' := by
  have hl : LetsOut Q → LetsOut Q' := fun ⟨a, w, x⟩ => ⟨a, w, hq _ _ _ (by simp) x⟩
  unfold Oper.wp at *
  generalize (execOp a.eval o).run P w = r at *
  cases r with
  | ok n w' =>
    cases n <;> simp only [Oper.upon] at hh ⊢ <;>
      first
        | exact h _ _ hh
        | exact Calls.mono hh (fun e w'' he => by cases e <;> first | exact h _ _ he | exact hl he | exact hq _ _ _ (by simp) he)
        | exact Rows.mono hh (fun _ _ he => h _ _ he)
        | exact hh
  | halt x w' => cases x <;> simp only [Oper.upon] at hh ⊢ <;> first | exact hq _ _ _ (by simp) hh | exact hh | exact hl hh
theorem drawZ_any {n : Nat} {ps : List (Oper × AV)} (hok : lexOk l = true) (hA : ∀ i o, n ≤ i → l[i]? = some o → ∀ j, j < n → edgeT l 12 o j = true) (hn : n ≤ l.length) (hps : ps.map (·.1) = l.take n) (d : Dr E h l ps σ σ') {Q : Exit → Act → World → Prop}
    (k : ∀ (listed : Array Bool) a w, listed.size = l.length → (∀ j, j < l.length → listed.getD j false = decide (j < n)) → St E.N E.C σ' h a w → wpAny E.P .any l.toArray Q (l.length - n) listed a w) : ∀ (u : Nat) (listed : Array Bool) (a : Act) (w : World), unl (fun j => listed.getD j false) n = u → listed.size = l.length →
    (∀ i o, l[i]? = some o → listed.getD i false = true → ∀ e ∈ o.after, Region.binds .any e = true → listed.getD e.on false = true) → (∀ j, n ≤ j → j < l.length → listed.getD j false = false) →
    St E.N E.C (sigL ps (marks n listed) σ) h a w → wpAny E.P .any l.toArray Q (u + (l.length - n)) listed a w := by
  have hpl : ps.length = n := by have := congrArg List.length hps; simp at this; omega
  have hpi : ∀ (j : Nat) (p : Oper × AV), ps[j]? = some p → l[j]? = some p.1 ∧ j < n := by
    intro j p hp
    have hj : j < ps.length := (List.getElem?_eq_some_iff.1 hp).1
    have h1 : (ps.map (·.1))[j]? = some p.1 := by simp [hp]
    rw [hps, List.getElem?_take] at h1
    split at h1
    · exact ⟨h1, by omega⟩
    · cases h1
  intro u
  induction u with
  | zero =>
    intro listed a w hu hs _ htl st
    have hall := unl_zero n hu
    rw [Nat.zero_add]
    refine k listed a w hs (fun j hj => ?_) ?_
    · rcases Nat.lt_or_ge j n with h1 | h1
      · rw [hall j h1]; simp [h1]
      · rw [htl j h1 hj]; simp; omega
    · have e : marks n listed = (List.range ps.length).map fun _ => true := by
        unfold marks
        rw [hpl]
        exact List.map_congr_left fun j hj => hall j (by simpa using hj)
      rw [d.end_, ← e]
      exact st
  | succ u ih =>
    intro listed a w hu hs hcl htl st
    rw [show u + 1 + (l.length - n) = (u + (l.length - n)) + 1 from by omega]
    obtain ⟨j0, hj0, hj1, hj2⟩ := unl_pos (L := fun j => listed.getD j false) n (by omega)
    have hready : j0 ∈ Region.ready .any l.toArray listed := (mem_ready hs).2 ⟨by omega, hj1, fun o ho e he hb => hj2 _ (lex_back hok ho he hb)⟩
    refine ⟨fun e => by rw [e] at hready; simp at hready, fun i hi => ?_⟩
    obtain ⟨h1, h2, h3⟩ := (mem_ready hs).1 hi
    have ho : l[i]? = some l[i] := List.getElem?_eq_getElem h1
    have hin : i < n := by
      rcases Nat.lt_or_ge i n with hlt | hge
      · exact hlt
      · have := edgeT_listed (L := fun q => listed.getD q false) hcl 12 _ j0 (h3 _ ho) (hA i _ hge ho j0 hj0)
        simp only [hj1] at this
        cases this
    have hpi' : ps[i]? = some ps[i] := List.getElem?_eq_getElem (by omega)
    obtain ⟨hp1, _⟩ := hpi i _ hpi'
    rw [ho] at hp1
    injection hp1 with hp1
    obtain ⟨hd, hc⟩ := d.at_ i ps[i].1 ps[i].2 hpi'
    -- the slots that it looks at hold what they hold in the text's order
    have hsame : ∀ t ∈ looks l ps[i].1, (sigL ps (marks n listed) σ).get t = (sigL ps ((List.range ps.length).map fun j => decide (j < i)) σ).get t := by
      intro t htl'
      by_cases hex : ∃ (j : Nat) (p : Oper × AV), ps[j]? = some p ∧ j < i ∧ p.1.dst = some t
      · obtain ⟨j, p, hp, hji, hdt⟩ := hex
        obtain ⟨hlp, hjn⟩ := hpi j p hp
        have huniq : ∀ (j' : Nat) (p' : Oper × AV), j' ≠ j → ps[j']? = some p' → p'.1.dst ≠ some t := fun j' p' hne hp' =>
          (lex_pair hok (hpi j' p' hp').1 hlp hdt).2 (fun e => hne e.symm)
        obtain ⟨e, he, hon, hb⟩ := edge_mem (((lex_pair hok (by rw [← hp1]; exact ho) hlp hdt).1 htl').1 hji)
        have hlj : listed.getD j false = true := by rw [← hon]; exact h3 _ ho e (by rw [hp1]; exact he) hb
        rw [sigL_get_some ps _ σ t j p.1 p.2 hp (by rw [marks_get hjn, hlj]) hdt huniq,
          sigL_get_some ps _ σ t j p.1 p.2 hp (by simp [show j < ps.length from by omega, hji]) hdt huniq]
      · rw [sigL_get_none ps _ σ t (fun j p hp hb hdt => ?_), sigL_get_none ps _ σ t (fun j p hp hb hdt => ?_)]
        · have hjl : j < ps.length := (List.getElem?_eq_some_iff.1 hp).1
          simp [hjl] at hb
          exact hex ⟨j, p, hp, hb, hdt⟩
        · obtain ⟨hlp, hjn⟩ := hpi j p hp
          rw [marks_get hjn] at hb
          injection hb with hb
          rcases Nat.lt_trichotomy j i with hlt | heq | hgt
          · exact hex ⟨j, p, hp, hlt, hdt⟩
          · subst heq; rw [h2] at hb; cases hb
          · obtain ⟨e, he, hon, hb'⟩ := edge_mem (((lex_pair hok (by rw [← hp1]; exact ho) hlp hdt).1 htl').2 hgt)
            have := hcl j _ hlp hb e he hb'
            rw [hon, h2] at this
            cases this
    have hnext : ∀ a' w', St E.N E.C ((sigL ps (marks n listed) σ).setO ps[i].1.dst ps[i].2) h a' w' → wpAny E.P .any l.toArray Q (u + (l.length - n)) (listed.setIfInBounds i true) a' w' := by
      intro a' w' st'
      have his : i < listed.size := by omega
      refine ih _ a' w' ?_ (by simpa using hs) (fun q o hq hlq e he hb => ?_) (fun j hj hjl => ?_) ?_
      · have hfun : (fun j => (listed.setIfInBounds i true).getD j false) = fun j => if j = i then true else listed.getD j false := funext fun j => getD_set his
        rw [hfun]
        have := unl_set (L := fun j => listed.getD j false) n hin h2
        omega
      · rw [getD_set his] at hlq ⊢
        by_cases hqi : q = i
        · subst hqi
          by_cases hei : e.on = q
          · rw [if_pos hei]
          · rw [if_neg hei]; exact h3 o hq e he hb
        · rw [if_neg hqi] at hlq
          have := hcl q o hq hlq e he hb
          by_cases hei : e.on = i
          · rw [if_pos hei]
          · rw [if_neg hei]; exact this
      · rw [getD_set his, if_neg (by omega)]; exact htl j hj hjl
      · refine St.weak st' (fun t => .inr ?_) (List.Sublist.refl _)
        rw [setO_get]
        by_cases hdt : ps[i].1.dst = some t
        · rw [if_pos hdt]
          have huniq : ∀ (j' : Nat) (p' : Oper × AV), j' ≠ i → ps[j']? = some p' → p'.1.dst ≠ some t := fun j' p' hne hp' =>
            (lex_pair hok (hpi j' p' hp').1 (hpi i _ hpi').1 hdt).2 (fun e => hne e.symm)
          exact sigL_get_some ps _ σ t i ps[i].1 ps[i].2 hpi' (by rw [marks_get hin, getD_set his, if_pos rfl]) hdt huniq
        · rw [if_neg hdt]
          by_cases hex : ∃ (j : Nat) (p : Oper × AV), ps[j]? = some p ∧ listed.getD j false = true ∧ p.1.dst = some t
          · obtain ⟨j, p, hp, hlj, hdt'⟩ := hex
            obtain ⟨hlp, hjn⟩ := hpi j p hp
            have huniq : ∀ (j' : Nat) (p' : Oper × AV), j' ≠ j → ps[j']? = some p' → p'.1.dst ≠ some t := fun j' p' hne hp' =>
              (lex_pair hok (hpi j' p' hp').1 hlp hdt').2 (fun e => hne e.symm)
            rw [sigL_get_some ps _ σ t j p.1 p.2 hp (by rw [marks_get hjn, getD_set his]; split <;> first | rfl | rw [hlj]) hdt' huniq,
              sigL_get_some ps _ σ t j p.1 p.2 hp (by rw [marks_get hjn, hlj]) hdt' huniq]
          · rw [sigL_get_none ps _ σ t (fun j p hp hb hdt' => ?_), sigL_get_none ps _ σ t (fun j p hp hb hdt' => ?_)]
            · obtain ⟨_, hjn⟩ := hpi j p hp
              rw [marks_get hjn] at hb
              injection hb with hb
              exact hex ⟨j, p, hp, hb, hdt'⟩
            · obtain ⟨_, hjn⟩ := hpi j p hp
              rw [marks_get hjn, getD_set his] at hb
              injection hb with hb
              split at hb
              · rename_i hji; subst hji; rw [hpi'] at hp; injection hp with hp; subst hp; exact hdt hdt'
              · exact hex ⟨j, p, hp, hb, hdt'⟩
    have hcalm := hc _ a w Q hsame st
    unfold wpOp
    rw [show l.toArray[i]? = some l[i] from by simp [h1]]
    simp only
    rw [hp1]
    split
    · rename_i hw
      rw [if_pos hw] at hcalm
      exact .inl (Oper.wp_mono hnext hcalm)
    · rename_i hw
      rw [if_neg hw] at hcalm
      have st2 := st.put hd (r := .tup []) (v := undef) ⟨[], rfl, trivial⟩
      rw [← hcalm] at st2
      exact hnext _ _ st2
theorem tailM_any {n p : Nat} (hok : lexOk l = true) (hp : p ≤ l.length) (hE : ∀ i o, l[i]? = some o → ∀ j, n ≤ j → j < i → j < p → edgeT l 12 o j = true) {Q Q1 : Exit → Act → World → Prop} (hq : ∀ e a w, e ≠ .normal → Q1 e a w → Q e a w)
    (hend : ∀ (listed : Array Bool) a w, listed.size = l.length → (∀ j, j < l.length → listed.getD j false = decide (j < p)) → Q1 .normal a w → wpAny E.P .any l.toArray Q (l.length - p) listed a w) : ∀ (fuel i : Nat) (listed : Array Bool) (a : Act) (w : World), n ≤ i → i + fuel = p → listed.size = l.length → (∀ j, j < l.length → listed.getD j false = decide (j < i)) →
    wpList E.P l.toArray Q1 ((l.take p).drop i) a w → wpAny E.P .any l.toArray Q (fuel + (l.length - p)) listed a w
  | 0, i, listed, a, w, _, hf, hs, hl, k => by
    have : (l.take p).drop i = [] := List.drop_eq_nil_of_le (by simp; omega)
    rw [this] at k
    rw [Nat.zero_add]
    have hip : i = p := by omega
    subst hip
    exact hend listed a w hs hl k
  | fuel + 1, i, listed, a, w, hn, hf, hs, hl, k => by
    have hi : i < l.length := by omega
    rw [show fuel + 1 + (l.length - p) = (fuel + (l.length - p)) + 1 from by omega]
    have ho : l[i]? = some l[i] := List.getElem?_eq_getElem hi
    have hcl : ∀ q o, l[q]? = some o → listed.getD q false = true → ∀ e ∈ o.after, Region.binds .any e = true → listed.getD e.on false = true := fun q o hq hlq e he hb => by
      have hql : q < l.length := (List.getElem?_eq_some_iff.1 hq).1
      rw [hl q hql] at hlq
      have := lex_back hok hq he hb
      simp only [decide_eq_true_eq] at hlq
      rw [hl e.on (by omega)]; simp; omega
    have hready : i ∈ Region.ready .any l.toArray listed := (mem_ready hs).2 ⟨hi, by rw [hl i hi]; simp, fun o ho' e he hb => by
      have := lex_back hok ho' he hb
      rw [hl e.on (by omega)]; simpa using this⟩
    refine ⟨fun e => by rw [e] at hready; simp at hready, fun j hj => ?_⟩
    obtain ⟨h1, h2, h3⟩ := (mem_ready hs).1 hj
    have hji : j = i := by
      rw [hl j h1] at h2
      simp only [decide_eq_false_iff_not, Nat.not_lt] at h2
      rcases Nat.lt_or_ge i j with hlt | hge
      · have := edgeT_listed (L := fun q => listed.getD q false) hcl 12 _ i (h3 _ (List.getElem?_eq_getElem h1)) (hE j _ (List.getElem?_eq_getElem h1) i (by omega) hlt (by omega))
        simp only [hl i hi] at this
        simp at this
      · omega
    subst hji
    rw [show (l.take p).drop j = l[j] :: (l.take p).drop (j + 1) from by rw [List.drop_eq_getElem_cons (by simp; omega), List.getElem_take]] at k
    unfold wpOp
    rw [show l.toArray[j]? = some l[j] from by simp [hi]]
    have hstep : ∀ a w, wpList E.P l.toArray Q1 ((l.take p).drop (j + 1)) a w → wpAny E.P .any l.toArray Q (fuel + (l.length - p)) (listed.setIfInBounds j true) a w := fun a w k' =>
      tailM_any hok hp hE hq hend fuel (j + 1) _ a w (by omega) (by omega) (by simpa using hs) (fun q hq => by
        rw [getD_set (by omega), hl q hq]
        by_cases h : q = j
        · subst h; simp
        · rw [if_neg h]; congr 1; simp; omega) k'
    simp only [wpList] at k
    simp only
    split
    · rename_i hw
      rw [if_pos hw] at k
      exact k.imp (Oper_wp_imp hstep hq) (fun x => ⟨x.1, x.2.elim fun a h => h.elim fun w h => ⟨a, w, hq _ _ _ (by simp) h⟩⟩)
    · rename_i hw
      rw [if_neg hw] at k
      exact hstep _ _ k
end
end Go.AI
namespace Go.AI
section
variable {E : Env} {K : List It} {σ σ' : Sl} {h : Heap} {l : List Oper} {o : Oper}
def readyR (l : List Oper) (rem : List Nat) : List Nat := rem.filter fun j => match l[j]? with
  | some o => o.after.all fun e => !Region.binds .any e || !(rem.contains e.on)
  | none => false
def awN (E : Env) (l : List Oper) (K : List It) (rem : List Nat) (σ : Sl) (h : Heap) : Prop :=
  rem.Nodup → ∀ (L : Array Bool) (a : Act) (w : World), L.size = l.length → (∀ j, j < l.length → L.getD j false = !(rem.contains j)) → St E.N E.C σ h a w → wpAny E.P .any l.toArray (exW E K) rem.length L a w
def stepsN (E : Env) (l : List Oper) (K : List It) (rem : List Nat) (σ : Sl) (h : Heap) : List Nat → Prop
  | [] => True
  | j :: js => (∃ o, l[j]? = some o ∧ aw E (.ops l [o] :: .stop (fun σ' h' => awN E l K (rem.erase j) σ' h') :: K) σ h) ∧ stepsN E l K rem σ h js
theorem stepsN_mem {rem : List Nat} : ∀ {js : List Nat}, stepsN E l K rem σ h js → ∀ j ∈ js, ∃ o, l[j]? = some o ∧ aw E (.ops l [o] :: .stop (fun σ' h' => awN E l K (rem.erase j) σ' h') :: K) σ h
  | j :: js, hk, i, hi => by
    rcases List.mem_cons.1 hi with rfl | hi
    · exact hk.1
    · exact stepsN_mem hk.2 i hi
theorem ready_iff {rem : List Nat} {L : Array Bool} (hlx : lexOk l = true) (hs : L.size = l.length) (hl : ∀ j, j < l.length → L.getD j false = !(rem.contains j)) (i : Nat) (hi : i < l.length) : i ∈ Region.ready .any l.toArray L ↔ i ∈ readyR l rem := by
  rw [mem_ready hs]
  unfold readyR
  rw [List.mem_filter]
  have ho : l[i]? = some l[i] := List.getElem?_eq_getElem hi
  rw [ho]
  constructor
  · rintro ⟨_, h2, h3⟩
    rw [hl i hi] at h2
    refine ⟨by simpa using h2, ?_⟩
    rw [Array.all_eq_true']
    intro e he
    cases hb : Region.binds .any e with
    | false => rfl
    | true =>
      have hlt := lex_back hlx ho he hb
      have := h3 _ rfl e he hb
      rw [hl e.on (by omega)] at this
      simpa using this
  · rintro ⟨h1, h2⟩
    refine ⟨hi, by rw [hl i hi]; simpa using h1, fun o ho' e he hb => ?_⟩
    injection ho' with ho'
    subst ho'
    rw [Array.all_eq_true'] at h2
    have h3 := h2 e he
    rw [hb] at h3
    have hlt := lex_back hlx ho he hb
    rw [hl e.on (by omega)]
    simpa using h3
theorem awN_step (rem js : List Nat) (hlx : lexOk l = true) (hr : readyR l rem = js) (hne : js ≠ []) (hlt : (rem.all fun j => decide (j < l.length)) = true) (k : stepsN E l K rem σ h js) : awN E l K rem σ h := by
  intro hnd L a w hs hl st
  have hlt' : ∀ j ∈ rem, j < l.length := fun j hj => of_decide_eq_true (List.all_eq_true.1 hlt j hj)
  have hsub : ∀ j ∈ js, j ∈ rem := fun j hj => by
    rw [← hr] at hj
    exact (List.mem_filter.1 hj).1
  obtain ⟨j0, hj0⟩ := List.exists_mem_of_ne_nil js hne
  have hpos : 0 < rem.length := List.length_pos_of_mem (hsub j0 hj0)
  obtain ⟨m, hm⟩ : ∃ m, rem.length = m + 1 := ⟨rem.length - 1, by omega⟩
  rw [hm]
  refine ⟨fun e => ?_, fun i hi => ?_⟩
  · have : j0 ∈ Region.ready .any l.toArray L := (ready_iff hlx hs hl j0 (hlt' j0 (hsub j0 hj0))).2 (by rw [hr]; exact hj0)
    rw [e] at this
    cases this
  · have hil : i < l.length := ((mem_ready hs).1 hi).1
    have hi' : i ∈ js := by rw [← hr]; exact (ready_iff hlx hs hl i hil).1 hi
    obtain ⟨o, ho, ka⟩ := stepsN_mem k i hi'
    have kk := ka a w st
    have hstep : ∀ a w, exW E (.stop (fun σ' h' => awN E l K (rem.erase i) σ' h') :: K) .normal a w → wpAny E.P .any l.toArray (exW E K) m (L.setIfInBounds i true) a w := by
      rintro a w ⟨σ', h', hR, st'⟩
      have := hR (hnd.erase i) (L.setIfInBounds i true) a w (by simpa using hs) (fun q hq => by
        rw [getD_set (by omega), hl q hq]
        by_cases hqi : q = i
        · subst hqi
          rw [if_pos rfl]
          have : q ∉ rem.erase q := fun hm => (List.Nodup.mem_erase_iff hnd).1 hm |>.1 rfl
          simpa using this
        · rw [if_neg hqi]
          have : q ∈ rem.erase i ↔ q ∈ rem := by rw [List.Nodup.mem_erase_iff hnd]; exact ⟨fun h => h.2, fun h => ⟨hqi, h⟩⟩
          congr 1
          rw [Bool.eq_iff_iff]
          simp only [List.contains_iff_mem]
          exact this.symm) st'
      rwa [List.length_erase_of_mem (hsub i hi'), hm, Nat.add_sub_cancel] at this
    have hq : ∀ e a w, e ≠ .normal → exW E (.stop (fun σ' h' => awN E l K (rem.erase i) σ' h') :: K) e a w → exW E K e a w := fun e a w hne hq => by
      cases e with
      | normal => exact absurd rfl hne
      | exit id => exact hq
      | goto l => exact hq
      | ret => exact hq
      | panic c => exact hq
      | outgrown => exact hq
    unfold wpOp
    rw [show l.toArray[i]? = some o from by simpa using ho]
    change wpList E.P l.toArray _ [o] a w at kk
    simp only [wpList] at kk
    simp only
    split
    · rename_i hw
      rw [if_pos hw] at kk
      exact kk.imp (Oper_wp_imp hstep hq) (fun x => ⟨x.1, x.2.elim fun a h => h.elim fun w h => ⟨a, w, hq _ _ _ (by simp) h⟩⟩)
    · rename_i hw
      rw [if_neg hw] at kk
      exact hstep _ _ kk
theorem awN_nil (k : aw E K σ h) : awN E l K [] σ h := by
  intro _ L a w hs hl st
  refine ⟨?_, k a w st⟩
  rw [List.eq_nil_iff_forall_not_mem]
  intro j hj
  obtain ⟨h1, h2, _⟩ := (mem_ready hs).1 hj
  rw [hl j h1] at h2
  simp at h2
def midP (l : List Oper) (n p : Nat) : Bool := l.zipIdx.all fun (o, i) => decide (i < n) || (List.range i).all fun j => decide (p ≤ j) || edgeT l 12 o j
theorem midP_edge {n p : Nat} (ht : midP l n p = true) {i : Nat} {o : Oper} (ho : l[i]? = some o) (hn : n ≤ i) {j : Nat} (hj : j < i) (hx : j < p) : edgeT l 12 o j = true := by
  unfold midP at ht
  rw [List.all_eq_true] at ht
  have := ht (o, i) (by rw [List.mem_zipIdx_iff_getElem?]; exact ho)
  simp only [Bool.or_eq_true, decide_eq_true_eq, List.all_eq_true, List.mem_range] at this
  exact (this.resolve_left (by omega) j hj).resolve_left (by omega)
set_option maxHeartbeats 1000000 in
theorem aw_drT {id : Nat} (n p : Nat) (rem : List Nat) (hm : E.P.follows .mixedOrders = true) (hok : (lexOk l && midP l n p && decide (n ≤ p) && decide (p ≤ l.length) && ((List.range (l.length - p)).map (· + p) == rem)) = true)
    (k : DrK E h l (.stop (fun σ' h' => awN E l K rem σ' h') :: K) n (l.take p) σ) : aw E (.code (.region id l.toArray true) :: K) σ h := fun a w s => by
  obtain ⟨ps, σ1, hps, hd, k⟩ := k
  simp only [Bool.and_eq_true, decide_eq_true_eq, beq_iff_eq] at hok
  obtain ⟨⟨⟨⟨hlx, hmt⟩, hnp⟩, hpl⟩, hrem⟩ := hok
  rw [List.take_take, Nat.min_eq_left hnp] at hps
  refine wp_region_any hm ?_
  have s' := s.later (Fr.drew (fun _ => False) w (w.drawn + 1))
  have e0 : ∀ j, (Array.replicate l.length false).getD j false = false := fun j => by
    rw [Array.getD_eq_getD_getElem?]
    simp only [Array.getElem?_replicate]
    split <;> rfl
  have hun : ∀ m, unl (fun j => (Array.replicate l.length false).getD j false) m = m := by
    intro m
    induction m with
    | zero => rfl
    | succ m ih => rw [unl, ih, e0]; rfl
  have hrl : rem.length = l.length - p := by rw [← hrem]; simp
  have hrn : rem.Nodup := by
    rw [← hrem]
    exact List.Pairwise.map _ (fun a b (hab : a ≠ b) => by omega) List.nodup_range
  have hrc : ∀ j, j < l.length → (!(rem.contains j)) = decide (j < p) := fun j hj => by
    rw [← hrem]
    by_cases hjp : j < p
    · rw [decide_eq_true hjp]
      simp only [Bool.not_eq_true', List.contains_eq_mem, decide_eq_false_iff_not, List.mem_map, List.mem_range, not_exists, not_and]
      intro x _; omega
    · rw [decide_eq_false hjp]
      simp only [Bool.not_eq_false', List.contains_eq_mem, decide_eq_true_eq, List.mem_map, List.mem_range]
      exact ⟨j - p, by omega, by omega⟩
  have htail : ∀ (listed : Array Bool) a w, listed.size = l.length → (∀ j, j < l.length → listed.getD j false = decide (j < n)) → St E.N E.C σ1 h a w → wpAny E.P .any l.toArray (exW E K) (l.length - n) listed a w := by
    intro listed a w hs hl st
    have := tailM_any (E := E) (n := n) (p := p) hlx (by omega) (fun i o hi j h1 h2 h3 => midP_edge hmt hi (by omega) h2 h3) (Q := exW E K) (Q1 := exW E (.stop (fun σ' h' => awN E l K rem σ' h') :: K)) (fun e a w hne hq => by
        cases e with
        | normal => exact absurd rfl hne
        | exit id => exact hq
        | goto l => exact hq
        | ret => exact hq
        | panic c => exact hq
        | outgrown => exact hq) (fun L a w hs hl hq => by
        obtain ⟨σ2, h2, hk2, st2⟩ := hq
        have := hk2 hrn L a w hs (fun j hj => by rw [hl j hj, hrc j hj]) st2
        rwa [hrl] at this) (p - n) n listed a w (Nat.le_refl _) (by omega) hs hl (k a w st)
    rwa [show p - n + (l.length - p) = l.length - n from by omega] at this
  have := drawZ_any (Q := exW E K) hlx (fun i o h1 h2 j h3 => midP_edge hmt h2 h1 (by omega) (by omega)) (by omega) hps hd htail n (Array.replicate l.length false) a { w with drawn := w.drawn + 1 } (hun n) (by simp) (fun i o _ hl => by rw [e0] at hl; cases hl) (fun j _ _ => e0 j) (by
    refine s'.weak (fun t => .inr ?_) (List.Sublist.refl _)
    rw [sigL_get_none ps _ σ t (fun j p hp hb => ?_)]
    exfalso
    have hjl : j < ps.length := (List.getElem?_eq_some_iff.1 hp).1
    have hpl : ps.length = n := by have := congrArg List.length hps; simp at this; omega
    rw [marks_get (by omega), e0] at hb
    cases hb)
  rw [show n + (l.length - n) = l.length from by omega] at this
  simpa using this
end
end Go.AI
