/- Texts of one proof, laid one behind the other by a program (merge.py): AiDrawB, Ref4. -/
import Derived.Test.YtmkomfdiggcloaaGreatM10
set_option linter.unusedSimpArgs false
set_option linter.unusedVariables false
/- Drawn regions that make blocks: the rules of the walk. -/
namespace Go.AI
section
variable {E : Env} {K : List It} {σ σ' : Sl} {h : Heap} {l : List Oper} {o : Oper}

theorem CalmX.pure2 {nw : Bool} {q : Prop} {r : AV} (hw : wantA l σ o = some true) (hb : pureOp2 E.P nw h (ev σ) o.op = some (q, r)) (hq : q) (hd : dstOk E.N o.dst = true) : CalmX E h l σ o r := by
  refine ⟨hd, fun σ' ext a w Q hs s => ?_⟩
  rw [if_pos (s.wanted ((want_same hs).trans hw))]
  obtain ⟨v, hrun, hr⟩ := pureOp2_ok (fun _ => rfl) hb hq (Stab E.C (ext ++ h) w) w a.eval Stab.mono' (fun x hx => by rw [← ev_same hx hs]; exact ev_rep s x) (fun g ob hm => s.heap g ob (List.mem_append_right _ hm))
  unfold Oper.wp
  rw [hrun o rfl]
  exact s.put hd hr
theorem CalmX.skip (hw : wantA l σ o = some false) (hd : dstOk E.N o.dst = true) : CalmX E h l σ o (.c .any) := by
  refine ⟨hd, fun σ' ext a w Q hs s => ?_⟩
  rw [if_neg (by rw [s.wanted ((want_same hs).trans hw)]; simp)]

theorem Heap.get_ext : ∀ {ext h : Heap} {g : Nat} {ob : AObj}, (ext ++ h).keys.Nodup → h.get g = some ob → Heap.get (ext ++ h) g = some ob
  | [], h, g, ob, _, hg => hg
  | (g0, o0) :: ext, h, g, ob, hn, hg => by
    simp only [List.cons_append, Heap.keys, List.map_cons, List.nodup_cons] at hn
    have hne : ¬ g0 = g := fun e => hn.1 (by
      rw [e]
      exact List.mem_map.2 ⟨(g, ob), List.mem_append_right _ (Heap.get_mem hg), rfl⟩)
    simp only [List.cons_append, Heap.get, if_neg hne]
    exact Heap.get_ext hn.2 hg
theorem LeC.ext {ext h : Heap} (hn : (ext ++ h).keys.Nodup) {x y : CV} (le : LeC h x y) : LeC (ext ++ h) x y := by
  induction le with
  | refl x => exact .refl x
  | any x => exact .any x
  | nils => exact .nils
  | row ht _ ih => exact .row ht ih
  | osl hg hm _ ih => exact .osl (Heap.get_ext hn hg) hm ih
  | ifc _ ih => exact .ifc ih
theorem LeL.ext {ext h : Heap} (hn : (ext ++ h).keys.Nodup) : ∀ {xs ys : List CV}, LeL h xs ys → LeL (ext ++ h) xs ys
  | [], [], _ => trivial
  | _ :: _, _ :: _, le => ⟨le.1.ext hn, LeL.ext hn le.2⟩
  | [], _ :: _, le => le.elim
  | _ :: _, [], le => le.elim
theorem LeA.ext {ext h : Heap} (hn : (ext ++ h).keys.Nodup) : ∀ {xs ys : List AV}, LeA h xs ys → LeA (ext ++ h) xs ys
  | [], [], _ => trivial
  | _ :: _, _ :: _, le => ⟨by
      rcases le.1 with l | l
      · exact .c (l.ext hn)
      · exact .agg (LeL.ext hn l), LeA.ext hn le.2⟩
  | [], _ :: _, le => le.elim
  | _ :: _, [], le => le.elim
theorem CalmX.call {f : FuncId} {xs : List Operand} {ts : Array TypeId} {args : List AV} {r : AV} (hf : Fa E.P f args r) (hop : o.op = .call { callee := .value (.func f), args := xs.toArray, argTypes := ts }) (hw : wantA l σ o = some true) (hd : dstOk E.N o.dst = true)
    (le : LeA h (xs.map (ev σ)) args) : CalmX E h l σ o r := by
  refine ⟨hd, fun σ' ext a w Q hs s => ?_⟩
  rw [if_pos (s.wanted ((want_same hs).trans hw))]
  have he : xs.map (ev σ') = xs.map (ev σ) := List.map_congr_left fun x hx => ev_same (by rw [hop]; simp [Op.operands, Call.operands, hx]) hs
  unfold Oper.wp
  have hrun : (execOp a.eval o).run E.P w = .ok (.enter f (xs.map a.eval).toArray) w := by
    simp only [execOp, hop, resolve, Act.eval, Deferred.ofValue, invoke, Sem.run_bind]
    have := hf.1.run (#[] ++ (Array.map a.eval xs.toArray) ++ #[]) w
    simp only [Sem.run_pure, Result.andThen_ok]
    rw [show ((xs.map a.eval).toArray) = (#[] ++ (Array.map a.eval xs.toArray) ++ #[]) from by simp]
    exact this
  rw [hrun]
  show Calls _ _ _ _ _
  refine (hf.use s (by rw [he]; exact le.ext s.nodup)).mono ?_
  rintro e w' ⟨v, rfl, hr, hfr⟩
  exact (s.later hfr).put hd hr

/-- A value that lies in new memory that nobody owns. -/
theorem CalmX.of_run {r : AV} (hw : wantA l σ o = some true) (hd : dstOk E.N o.dst = true)
    (hrun : ∀ σ' ext a w, (∀ x ∈ o.op.operands, ev σ' x = ev σ x) → St E.N E.C σ' (ext ++ h) a w → ∃ v w', (execOp a.eval o).run E.P w = .ok (.value v) w' ∧ Fr (fun _ => False) w w' ∧ Rep (Stab E.C (ext ++ h) w') w' r v) : CalmX E h l σ o r := by
  refine ⟨hd, fun σ' ext a w Q hs s => ?_⟩
  rw [if_pos (s.wanted ((want_same hs).trans hw))]
  obtain ⟨v, w', hr, hfr, hrep⟩ := hrun σ' ext a w (fun x hx => ev_same hx hs) s
  unfold Oper.wp
  rw [hr]
  exact (s.later hfr).put hd hrep
/-- []T{} -/
theorem CalmX.empty {t e size bytes : Nat} (hop : o.op = .buildSlice t 0 #[]) (hw : wantA l σ o = some true) (hd : dstOk E.N o.dst = true) (ht : tElem E.P t = some (e, size, bytes)) : CalmX E h l σ o (.c .nils) := by
  refine CalmX.of_run hw hd fun σ' ext a w _ s => ?_
  obtain ⟨hu, inf, hi, hsz, _⟩ := tElem_spec ht
  refine ⟨.slice (some ⟨w.heap.size, 0, none⟩) 0 0, w.alloc (.cells #[] e), ?_, Fr.alloc _ _ _, _, rfl⟩
  simp only [execOp, hop, Instr.buildSlice, Sem.run_bind, run_underlying hu, Result.andThen_ok, sizeOf, typeInfo, Sem.run_pure]
  simp only [run_program, hi, Result.andThen_ok, Sem.run_pure, hsz, Nat.zero_mul]
  rw [if_neg (by omega), if_pos trivial]
  simp only [Sem.run_bind, Sem.run_pure, Result.andThen_ok]
  have hf : Instr.fill (fun i => some (i * size, size)) (Array.map (fun x => (#[] : Array Value)[x % (#[] : Array Value).size]!) (Array.range 0)) (Array.map (fun x : Nat × Operand => (x.1, a.eval x.2)) #[]).toList = some #[] := by simp [Instr.fill]
  rw [hf]
  rfl
/-- append([]T{}, x...), looked at from then on. -/
theorem CalmX.copy {t e size bytes k : Nat} {z : List CV} {f2 : Nat → CV} {s x : Operand} {cx : CV} (hop : o.op = .call { callee := .builtin .append, args := #[s, x], argTypes := #[t, t] }) (hw : wantA l σ o = some true) (hd : dstOk E.N o.dst = true)
    (ht : tElem E.P t = some (e, size, bytes)) (hz : tZero E.P e = some z) (hzl : z.length = size) (hs0 : 0 < size) (hs : ev σ s = .c .nils) (hx : ev σ x = .c cx) (hsrc : Src h size cx k f2)
    (h63 : k ≤ maxLen) (hby : k * bytes ≤ 140737488355328) : CalmX E h l σ o (.c (.row true size k f2)) := by
  refine CalmX.of_run hw hd fun σ' ext a w he st => ?_
  have r1 := ev_rep st s
  have r2 := ev_rep st x
  rw [he s (by rw [hop]; simp [Op.operands, Call.operands]), hs] at r1
  rw [he x (by rw [hop]; simp [Op.operands, Call.operands]), hx] at r2
  obtain ⟨A0, hv1⟩ := r1
  obtain ⟨A, d, hv2, hA⟩ := hsrc.cells (fun g ob hm => st.heap g ob (List.mem_append_right _ hm)) r2
  rcases Nat.eq_zero_or_pos k with hk | hk
  · subst hk
    refine ⟨.slice A0 0 0, w, exec_append hop ?_, Fr.refl _ _, A0, 0, rfl, Nat.le_refl _, fun h0 => by simp at h0⟩
    rw [hv1, hv2]
    exact run_append_zero ht (Nat.le_refl _)
  · obtain ⟨ad, rfl, hc⟩ := hA (Nat.mul_pos hk hs0)
    obtain ⟨news, hnl, hnews⟩ := list_of_cells (k * size) hc
    obtain ⟨c', w', cs', hrun, hb', hcs', hle', hcm', hnew, hfr⟩ := append_new (P := E.P) (ty := o.type) (d := d) (A := A0) ht hz hzl hnl (fun j u e => (hnews j u e).1) hk h63 hby
    have hlt : w.heap.size < w'.heap.size := (Array.getElem?_eq_some_iff.1 hb').1
    have hnk : w.heap.size ∉ (ext ++ h).keys := fun hm => Nat.lt_irrefl _ (st.klt hm)
    have kp : Keeps (Stab E.C (ext ++ h) w) (Stab E.C (ext ++ h) w') w w' :=
      ⟨fun t b hb => ⟨hb.1, Nat.lt_of_lt_of_le hb.2.1 hfr.size, hb.2.2⟩, fun t b hb => hfr.block b hb.2.1 (fun x => x), hfr.has⟩
    refine ⟨_, w', exec_append hop (by rw [hv1, hv2]; exact hrun), hfr, _, c', rfl, hle', fun _ => ⟨_, rfl, ⟨.inr st.frame.size, hlt, hnk⟩, fun j hjl => ?_⟩⟩
    have hl : j < news.length := by omega
    refine ⟨news[j], ?_, (hnews _ _ (List.getElem?_eq_getElem hl)).2.keep kp⟩
    rw [add_mk, cell_own hb', Nat.zero_add, hnew j hjl]
    exact List.getElem?_eq_getElem hl

theorem NewX.of_run {rf : Nat → AV} {ob : AObj} (hw : wantA l σ o = some true) (hd : dstOk E.N o.dst = true)
    (hrun : ∀ σ' ext a w, (∀ x ∈ o.op.operands, ev σ' x = ev σ x) → St E.N E.C σ' (ext ++ h) a w → ∃ v w', (execOp a.eval o).run E.P w = .ok (.value v) w' ∧ Fr (fun _ => False) w w' ∧ w.heap.size < w'.heap.size ∧
      ORep (Stab E.C ((w.heap.size, ob) :: (ext ++ h)) w') w' w.heap.size ob ∧ Rep (Stab E.C ((w.heap.size, ob) :: (ext ++ h)) w') w' (rf w.heap.size) v) : NewX E h l σ o rf ob := by
  refine ⟨hd, fun σ' ext a w Q hs s => ⟨s.wanted ((want_same hs).trans hw), ?_⟩⟩
  obtain ⟨v, w', hr, hfr, hlt, ho, hrep⟩ := hrun σ' ext a w (fun x hx => ev_same hx hs) s
  unfold Oper.wp
  rw [hr]
  exact ⟨w.heap.size, (s.new rfl hfr hlt ho).put hd hrep⟩
theorem NewX.make {t e size bytes n c : Nat} {z : List CV} {xl xc : Operand} {kl kc : IntKind} {nl nc : Int} (hop : o.op = .makeSlice t xl xc) (hw : wantA l σ o = some true) (hd : dstOk E.N o.dst = true) (ht : tElem E.P t = some (e, size, bytes))
    (hz : tZero E.P e = some z) (hzl : z.length = size) (hs0 : 0 < size) (hl : ev σ xl = .c (.int kl nl)) (hc : ev σ xc = .c (.int kc nc)) (hn : nl = n) (hcn : nc = c) (hnc : n ≤ c) (hby : bytes * c ≤ 281474976710656) (hc63 : c ≤ 9223372036854775807) :
    NewX E h l σ o (fun g => .c (.osl g size 0 n)) (.cells e (c * size) (fun j => ofL z (j % size))) := by
  refine NewX.of_run hw hd fun σ' ext a w he s => ?_
  obtain ⟨hu, inf, hi, hsz, hbb⟩ := tElem_spec ht
  obtain ⟨i', zv, hi', hzv, rfl⟩ := tZero_spec hz
  rw [hi] at hi'
  injection hi' with hi'
  subst hi'
  have h1 : a.eval xl = .int kl n := by have := ev_rep s xl; rw [he xl (by rw [hop]; simp [Op.operands]), hl, hn] at this; exact this
  have h2 : a.eval xc = .int kc c := by have := ev_rep s xc; rw [he xc (by rw [hop]; simp [Op.operands]), hc, hcn] at this; exact this
  have hb' : (inf.bytes : Int) * (c : Int) ≤ 281474976710656 := by
    have h : ((inf.bytes * c : Nat) : Int) ≤ 281474976710656 := by rw [hbb]; omega
    rwa [Int.natCast_mul] at h
  have hr := run_make (P := E.P) w t e inf zv hu hi hzv kl kc n c (by omega) (by omega) hb' (by omega)
  simp only [Int.toNat_natCast] at hr
  refine ⟨.slice (some ⟨w.heap.size, 0, none⟩) n c, w.alloc (.cells (madeCells zv.cells (c * inf.size)) e), ?_, Fr.alloc _ _ _, by simp, ?_, ?_⟩
  · simp only [execOp, hop, h1, h2, Sem.run_bind, hr, Result.andThen_ok]
    rfl
  · refine ⟨_, heap_alloc_new w _, by rw [size_madeCells, hsz]; exact Nat.le_refl _, fun j hj => ?_⟩
    have hzs : zv.cells.size = size := by simpa using hzl
    have hlt : j % size < zv.cells.size := by rw [hzs]; exact Nat.mod_lt _ hs0
    refine ⟨zv.cells[j % size], ?_, ?_⟩
    · have hlt' : j % size < zv.cells.size := hlt
      simp only [madeCells, hsz, hzs]
      simp [hj, hlt', getElem!_pos]
    · exact ofL_map_cst zv.cells.toList (j % size) (by simpa using hlt) _ _
  · exact ⟨c, rfl, hnc, by unfold maxLen; omega, _, e, heap_alloc_new w _, by rw [size_madeCells, hsz]; simp⟩

def noLook (l : List Oper) (n d : Nat) : Bool := (l.take n).all fun o => !(looks l o).contains d
theorem noLook_spec {n d : Nat} (hn : noLook l n d = true) (i : Nat) (o : Oper) (hi : i < n) (ho : l[i]? = some o) : d ∉ looks l o := fun hm => by
  unfold noLook at hn
  rw [List.all_eq_true] at hn
  have : o ∈ l.take n := List.mem_of_getElem? (i := i) (by rw [List.getElem?_take, if_pos hi]; exact ho)
  have := hn o this
  simp [hm] at this

/-- A drawn region on its way. -/
def DrB (E : Env) (h : Heap) (l : List Oper) (K : List It) (M i k : Nat) (rest : List Oper) (σ : Sl) (pre : List Al) : Prop :=
  ∃ ps σ' al, ps.map (·.1) = rest.take k ∧ DrX E h l i ps σ σ' al ∧ (∀ x ∈ al, noLook l M x.d = true) ∧ ∀ γ, aw E (.ops l (rest.drop k) :: K) (addA (pre ++ al) (fun _ => true) γ σ') (extA (pre ++ al) (fun _ => true) γ ++ h)
theorem aw_drB {id : Nat} (n : Nat) (hm : E.P.follows .mixedOrders = true) (hok : (lexOk l && tailT l n && decide (n ≤ l.length)) = true) (k : DrB E h l K n 0 n l σ []) : aw E (.code (.region id l.toArray true) :: K) σ h := fun a w s => by
  obtain ⟨ps, σ', al, hps, d, hnl, k⟩ := k
  simp only [Bool.and_eq_true, decide_eq_true_eq] at hok
  refine wp_region_any hm ?_
  have s' := s.later (Fr.drew (fun _ => False) w (w.drawn + 1))
  have e0 : ∀ j, (Array.replicate l.length false).getD j false = false := fun j => by
    rw [Array.getD_eq_getD_getElem?]
    simp only [Array.getElem?_replicate]
    split <;> rfl
  have hun : ∀ m, unl (fun j => (Array.replicate l.length false).getD j false) m = m := by
    intro m
    induction m with
    | zero => rfl
    | succ m ih => rw [unl, ih, e0]; rfl
  have hadd0 : ∀ (L : Nat → Bool) (al : List Al) (σ : Sl) (γ : Nat → Nat), (∀ j, L j = false) → addA al L γ σ = σ ∧ extA al L γ = [] := by
    intro L al σ γ hL
    induction al with
    | nil => exact ⟨rfl, rfl⟩
    | cons x al ih => simp only [addA, extA, hL, Bool.false_eq_true, if_false]; exact ih
  have hadd := fun (al : List Al) (σ : Sl) (γ : Nat → Nat) => hadd0 (fun j => (Array.replicate l.length false).getD j false) al σ γ e0
  have := drawX_any (Q := exW E K) hok.1.1 hok.1.2 hok.2 hps d (fun x hx i o hi ho => noLook_spec (hnl x hx) i o hi ho) (fun γ a w st => k γ a w st) n (Array.replicate l.length false) (fun _ => 0) a { w with drawn := w.drawn + 1 } (hun n) (by simp) (fun i o _ hl => by rw [e0] at hl; cases hl) (fun j _ _ => e0 j) (by
    rw [(hadd al _ _).1, (hadd al σ _).2, List.nil_append]
    refine s'.weak (fun t => .inr ?_) (List.Sublist.refl _)
    rw [sigL_get_none ps _ σ t (fun j p hp hb => ?_)]
    exfalso
    have hjl : j < ps.length := (List.getElem?_eq_some_iff.1 hp).1
    have hpl : ps.length = n := by have := congrArg List.length hps; simp at this; omega
    rw [marks_get (by omega), e0] at hb
    cases hb)
  rw [show n + (l.length - n) = l.length from by omega] at this
  simpa using this
theorem drb_nil {M i : Nat} {rest : List Oper} {pre : List Al} (k : ∀ γ, aw E (.ops l rest :: K) (addA pre (fun _ => true) γ σ) (extA pre (fun _ => true) γ ++ h)) : DrB E h l K M i 0 rest σ pre :=
  ⟨[], σ, [], by simp, .nil, by simp, fun γ => by simpa using k γ⟩
theorem drb_calm {M i n : Nat} {rest : List Oper} {pre : List Al} {r : AV} (hc : CalmX E h l σ o r) (k : DrB E h l K M (i + 1) n rest (σ.setO o.dst r) pre) : DrB E h l K M i (n + 1) (o :: rest) σ pre := by
  obtain ⟨ps, σ', al, h1, h2, h3, h4⟩ := k
  exact ⟨(o, r) :: ps, σ', al, by simp [h1], .calm hc h2, h3, by simpa using h4⟩
theorem drb_new {M i n d : Nat} {rest : List Oper} {pre : List Al} {rf : Nat → AV} {ob : AObj} (hd : o.dst = some d) (hc : NewX E h l σ o rf ob) (hn : noLook l M d = true) (k : DrB E h l K M (i + 1) n rest (σ.set d (.c .any)) (pre ++ [⟨i, d, rf, ob⟩])) : DrB E h l K M i (n + 1) (o :: rest) σ pre := by
  obtain ⟨ps, σ', al, h1, h2, h3, h4⟩ := k
  refine ⟨(o, .c .any) :: ps, σ', ⟨i, d, rf, ob⟩ :: al, by simp [h1], .new hd hc (by rw [hd]; exact h2), fun x hx => ?_, fun γ => ?_⟩
  · rcases List.mem_cons.1 hx with rfl | hx
    · exact hn
    · exact h3 x hx
  · have := h4 γ
    simpa using this
theorem drb_2q {M i n : Nat} {rest : List Oper} {pre : List Al} (nw : Bool) (hd : dstOk E.N o.dst = true) (k : ∀ R : Option (Prop × Sl) → Prop, (∀ q σ', q → DrB E h l K M (i + 1) n rest σ' pre → R (some (q, σ'))) → R (runOp2 E.P nw h l o σ)) : DrB E h l K M i (n + 1) (o :: rest) σ pre := by
  have := k (fun x => x = runOp2 E.P nw h l o σ → DrB E h l K M i (n + 1) (o :: rest) σ pre) (fun q σ' hq ha e => by
    unfold runOp2 at e
    split at e
    · rename_i hw
      split at e
      · rename_i q1 r hp
        simp only [Option.some.injEq, Prod.mk.injEq] at e
        obtain ⟨rfl, rfl⟩ := e
        exact drb_calm (CalmX.pure2 hw hp hq hd) ha
      · cases e
    · rename_i hw
      simp only [Option.some.injEq, Prod.mk.injEq] at e
      obtain ⟨rfl, rfl⟩ := e
      exact drb_calm (CalmX.skip hw hd) ha
    · cases e)
  exact this rfl
theorem drb_call {M i n : Nat} {rest : List Oper} {pre : List Al} {f : FuncId} {xs : List Operand} {ts : Array TypeId} {args : List AV} {r : AV} (hf : Fa E.P f args r) (hop : o.op = .call { callee := .value (.func f), args := xs.toArray, argTypes := ts }) (hw : wantA l σ o = some true) (hd : dstOk E.N o.dst = true)
    (le : LeA h (xs.map (ev σ)) args) (k : DrB E h l K M (i + 1) n rest (σ.setO o.dst r) pre) : DrB E h l K M i (n + 1) (o :: rest) σ pre := drb_calm (CalmX.call hf hop hw hd le) k
theorem drb_split {M i n : Nat} {rest : List Oper} {pre : List Al} (t : Nat) {b : Bool} (hb : σ.get t = .c (.bool b)) (k1 : b = true → DrB E h l K M i n rest (σ.set t (.c (.bool true))) pre) (k2 : b = false → DrB E h l K M i n rest (σ.set t (.c (.bool false))) pre) : DrB E h l K M i n rest σ pre := by
  cases b with
  | true => have := k1 rfl; rwa [Sl.set_same hb (fun e => by cases e)] at this
  | false => have := k2 rfl; rwa [Sl.set_same hb (fun e => by cases e)] at this
end
attribute [go_sem] addA extA
end Go.AI

/- faultlineref01: Div, Gcd. -/
namespace Go.Proofs.YtmkomfdiggcloaaGreat
open Go.AI Go.PN
attribute [local irreducible] aw Fa Fh DrK
attribute [local irreducible] DrB
theorem shl_u32 (x s : Nat) (hs : s ≤ 32) : shlZ .u32 (x : Int) (s : Int) = ((x * 2 ^ s % 4294967296 : Nat) : Int) := by
  rw [shlZ_eq]
  have h1 : min (s : Int).toNat IntKind.u32.bits = s := by show min (s : Int).toNat 32 = s; omega
  rw [h1, IntKind.wrap_u32, Int.natCast_emod, Int.natCast_mul, Int.natCast_pow]; rfl
theorem and_u32 (x y : Nat) (hx : x < 4294967296) (hy : y < 4294967296) : andZ .u32 (x : Int) (y : Int) = ((x &&& y : Nat) : Int) := by
  rw [andZ_eq]
  show IntKind.u32.wrap (((BitVec.ofInt 32 (x : Int) &&& BitVec.ofInt 32 (y : Int)).toNat : Nat) : Int) = _
  have : (BitVec.ofInt 32 (x : Int) &&& BitVec.ofInt 32 (y : Int)).toNat = x &&& y := by
    rw [BitVec.toNat_and]
    have e1 : ∀ z : Nat, z < 4294967296 → (BitVec.ofInt 32 (z : Int)).toNat = z := fun z hz => by rw [BitVec.ofInt_natCast, BitVec.toNat_ofNat]; omega
    rw [e1 x hx, e1 y hy]
  have hlt : x &&& y < 4294967296 := Nat.lt_of_le_of_lt Nat.and_le_left hx
  rw [this, IntKind.wrap_u32]; omega
theorem and_u32_top (x : Nat) (hx : x < 4294967296) : andZ .u32 (x : Int) 2147483648 = ((x &&& 2147483648 : Nat) : Int) := and_u32 x 2147483648 hx (by omega)
theorem drop_f (xs : List Nat) (m j : Nat) : xs.getD (m + j) 0 = (xs.drop m).getD j 0 := by
  rw [List.getD_eq_getElem?_getD, List.getD_eq_getElem?_getD, List.getElem?_drop]
theorem mul_div_pow (a b s : Nat) : a * 2 ^ s / (b * 2 ^ s) = a / b := Nat.mul_div_mul_right a b (Nat.two_pow_pos s)
theorem mod_div_pow (a b s : Nat) : a * 2 ^ s % (b * 2 ^ s) / 2 ^ s = a % b := by
  rw [Nat.mul_mod_mul_right, Nat.mul_div_cancel _ (Nat.two_pow_pos s)]
theorem make_wf' (n : Nat) : (fun j => ([CV.int .u32 0][j % 1]?).getD .any) = wf (List.replicate n 0) := by
  funext j
  show _ = CV.int .u32 ((List.replicate n 0).getD j 0 : Nat)
  rw [Nat.mod_one, List.getD_eq_getElem?_getD, List.getElem?_replicate]
  split <;> rfl
theorem drop_row (xs : List Nat) (m : Nat) : (CV.row true 1 (xs.length - m) fun j => .int .u32 ((xs.getD (m + j) 0 : Nat) : Int)) = ws true (xs.drop m) := by
  simp only [drop_f]
  show _ = CV.row true 1 (xs.drop m).length _
  rw [List.length_drop]
theorem cons_f (x : Nat) (rs : List Nat) : ∀ j, appF (ofL [.int .u32 (x : Int)]) 1 (fun j => .int .u32 ((rs.getD j 0 : Nat) : Int)) j = CV.int .u32 (((x :: rs).getD j 0 : Nat) : Int)
  | 0 => rfl
  | j + 1 => by simp [appF]

set_option maxRecDepth 100000 in
set_option maxHeartbeats 3200000 in
theorem qdiv_fa (xs ys : List Nat) (hx : ∀ x ∈ xs, x < 4294967296) (hy : ∀ x ∈ ys, x < 4294967296) (hlx : xs.length ≤ 34359738368) (hly : ys.length ≤ 34359738368) (h0 : val ys ≠ 0) :
    Fa Tryz.prog 148 [.c (ws false xs), .c (ws false ys)] (.tup [.c (ws true (words (val xs / val ys))), .c (ws true (words (val xs % val ys))), .c (.int .i64 0)]) := by
  refine fa_of_body Tryz.func148 rfl rfl (by simp [Tryz.ntmps148]) fun C hC => ?_
  simp only [initS, Nat.reduceAdd]
  repeat first|apply wa1|apply wa2|apply wa3|apply wa4|apply wa5 rfl|apply wa6|apply wa7|(refine wb1 rfl fun R r=>?_;simp only[go_sem];with_reducible refine r _ _ ?_;clear r R)
  refine aw_callq (qtrim_fa ys hy ?_) rfl rfl rfl (by first|exact True.intro|simp only[go_sem]<;>and_intros<;>first|exact True.intro|exact .c (.refl _)|exact .c wl2|exact .agg (lel_refl _)|exact .agg (by simp only[LeL];and_intros<;>first|exact True.intro|exact .refl _|exact wl2)|exact .c .nils) ?_
  · omega
  (try simp only[go_sem])
  generalize hb0 : val ys = b at h0
  have hbl : (words b).length ≤ 34359738368 := by rw [← hb0]; exact Nat.le_trans (words_val_len ys hy) hly
  have hbw := words_lt b
  obtain ⟨n, hn⟩ : ∃ n, (words b).length = n + 1 := ⟨(words b).length - 1, by have : (words b).length ≠ 0 := fun e => h0 (words_eq_nil.1 (List.length_eq_zero_iff.1 e)); omega⟩
  have htop : (words b).getD n 0 ≠ 0 := by
    have := (words_plain b).resolve_left (fun e => h0 (words_eq_nil.1 e))
    rwa [hn] at this
  have htl := getD_lt hbw n
  repeat first|apply wa1|apply wa2|apply wa3|apply wa4|apply wa5 rfl|apply wa6|apply wa7|(refine wb1 rfl fun R r=>?_;simp only[go_sem];with_reducible refine r _ _ ?_;clear r R)
  refine aw_cond (by simp only[go_sem]<;>rfl) (fun hb => ?_) (fun hb => ?_)
  · have := eq_of_beq hb; omega
  repeat first|apply wa7|(refine wb1 rfl fun R r=>?_;simp only[go_sem];with_reducible refine r _ _ ?_;clear r R)
  apply aw_skip
  apply aw_seq
  apply aw_region
  repeat first|apply wa7|(refine wb1 rfl fun R r=>?_;simp only[go_sem];with_reducible refine r _ _ ?_;clear r R)|apply wa8|(refine wd1 rfl fun R r=>?_;simp only[go_sem];with_reducible refine r _ _ ?_;clear r R)
  apply aw_seq
  refine aw_cut (fun s : Nat => [(0, .c (ws false xs)), (1, .c (ws true (words b))), (7, .c (.int .i64 ((n + 1 : Nat) : Int))), (8, .c (.int .i64 s))]) (fun _ => []) (fun s => (words b).getD n 0 * 2 ^ s < 4294967296 ∧ s < 32) ?_ ?_
  · as_aux_lemma =>
    apply aw_block
    have hnl : ((words b).length : Int) = ((n + 1 : Nat) : Int) := by rw [hn]
    refine aw_lp (fun s : Nat => [(0, .c (ws false xs)), (1, .c (ws true (words b))), (7, .c (.int .i64 ((n + 1 : Nat) : Int))), (8, .c (.int .i64 s))]) (fun _ => []) (fun s => (words b).getD n 0 * 2 ^ s < 4294967296 ∧ s < 32) (fun s => 32 - s) 0 (by simp only[go_sem, hnl]<;>and_intros<;>first|exact True.intro|(with_reducible rfl)|exact c_int (by omega)|rfl) (List.Sublist.refl _) ⟨by simpa using htl, by omega⟩ ?_
    rintro s ⟨hs1, hs2⟩
    have e1 := shl_u32 ((words b).getD n 0) s (by omega)
    rw [Nat.mod_eq_of_lt hs1] at e1
    have e2 := and_u32_top _ hs1
    have e3 : (((n + 1 : Nat) : Int) - 1).toNat = n := by omega
    repeat first|apply wa1|apply wa2|apply wa3|apply wa4|apply wa5 rfl|apply wa6|apply wa7|(refine wb1 rfl fun R r=>?_;simp only[go_sem, hnl, e1, e2, e3];with_reducible refine r _ _ ?_;clear r R)
    refine aw_cond (by simp only[go_sem, hnl, e1, e2, e3]<;>rfl) (fun hc => ?_) (fun hc => ?_)
    · have hc' : (words b).getD n 0 * 2 ^ s &&& 2147483648 = 0 := by have := eq_of_beq hc; omega
      have hlt := and_top_zero hs1 hc'
      have hs3 : s < 31 := by
        rcases Nat.lt_or_ge s 31 with h | h
        · exact h
        · exfalso
          have h8 : (2 : Nat) ^ 31 ≤ 2 ^ s := Nat.pow_le_pow_right (by omega) h
          have h9 := Nat.mul_le_mul (show 1 ≤ (words b).getD n 0 by omega) h8
          omega
      repeat first|apply wa1|apply wa2|apply wa3|apply wa4|apply wa5 rfl|apply wa6|apply wa7|(refine wb1 rfl fun R r=>?_;simp only[go_sem, hnl, e1, e2, e3];with_reducible refine r _ _ ?_;clear r R)
      refine aw_stop ⟨s + 1, by omega, (by simp only[go_sem, hnl, e1, e2, e3]<;>and_intros<;>first|exact True.intro|(with_reducible rfl)|exact c_int (by omega)|rfl), (List.Sublist.refl _), ?_, by omega⟩
      rw [Nat.pow_succ, ← Nat.mul_assoc]; omega
    · repeat first|apply wa1|apply wa2|apply wa3|apply wa4|apply wa5 rfl|apply wa6|apply wa7|(refine wb1 rfl fun R r=>?_;simp only[go_sem, hnl, e1, e2, e3];with_reducible refine r _ _ ?_;clear r R)
      exact aw_stop ⟨s, (by simp only[go_sem, hnl, e1, e2, e3]<;>and_intros<;>first|exact True.intro|(with_reducible rfl)|exact c_int (by omega)|rfl), (List.Sublist.refl _), hs1, hs2⟩
  as_aux_lemma =>
  rintro s ⟨hs1, hs2⟩
  have hVl := shift_len hn hs1
  repeat first|apply wa1|apply wa2|apply wa3|apply wa4|apply wa5 rfl|apply wa6|apply wa7|(refine wb1 rfl fun R r=>?_;simp only[go_sem];with_reducible refine r _ _ ?_;clear r R)
  refine aw_callq (qup_fa xs s hx ?_ hs2) rfl rfl rfl (by first|exact True.intro|simp only[go_sem]<;>and_intros<;>first|exact True.intro|exact .c (.refl _)|exact .c wl2|exact .agg (lel_refl _)|exact .agg (by simp only[LeL];and_intros<;>first|exact True.intro|exact .refl _|exact wl2)|exact .c .nils) ?_
  · omega
  (try simp only[go_sem])
  repeat first|apply wa1|apply wa2|apply wa3|apply wa4|apply wa5 rfl|apply wa6|apply wa7|(refine wb1 rfl fun R r=>?_;simp only[go_sem];with_reducible refine r _ _ ?_;clear r R)
  refine aw_callq (qup_fa (words b) s hbw ?_ hs2) rfl rfl rfl (by first|exact True.intro|simp only[go_sem]<;>and_intros<;>first|exact True.intro|exact .c (.refl _)|exact .c wl2|exact .agg (lel_refl _)|exact .agg (by simp only[LeL];and_intros<;>first|exact True.intro|exact .refl _|exact wl2)|exact .c .nils) ?_
  · omega
  (try simp only[go_sem])
  rw [val_words]
  have hq1 := (mul_div_pow (val xs) b s).symm
  have hq2 := (mod_div_pow (val xs) b s).symm
  have hV0 : b * 2 ^ s ≠ 0 := Nat.mul_ne_zero h0 (Nat.pos_iff_ne_zero.1 (Nat.two_pow_pos s))
  have hAl : (words (val xs * 2 ^ s)).length ≤ 34359738369 := by
    have h0 : (words (val xs * 2 ^ s)).length ≤ xs.length + 1 := by
      refine words_len_le ?_
      rw [Nat.pow_succ]
      have h2 : 2 ^ s ≤ 4294967296 := pow_lt_32 (by omega)
      exact Nat.lt_of_lt_of_le (Nat.mul_lt_mul_of_pos_right (val_lt xs hx) (Nat.two_pow_pos s)) (Nat.mul_le_mul_left _ h2)
    omega
  rw [hq1, hq2]
  clear hq1 hq2
  generalize hA : val xs * 2 ^ s = A at hAl ⊢
  generalize hV : b * 2 ^ s = V at hVl hV0 ⊢
  have hn9 : n ≤ 34359738368 := by omega
  clear htop htl hbl hbw hs1 hA hV hb0 hb h0 hn
  have hVpos : 0 < V := Nat.pos_of_ne_zero hV0
  have hAw := words_lt A
  have hVw := words_lt V
  have hVlo : 4294967296 ^ n ≤ V := by have := words_pow_le hV0; rwa [hVl] at this
  have hVhi : V < 4294967296 ^ (n + 1) := by have := words_pow_lt V; rwa [hVl] at this
  have hAhi := words_pow_lt A
  generalize hla : (words A).length = la at hAl hAhi
  repeat first|apply wa7|(refine wb1 rfl fun R r=>?_;simp only[go_sem];with_reducible refine r _ _ ?_;clear r R)
  apply aw_seq
  refine aw_drB 13 ty_mixed (by kernel_rfl) ?_
  repeat first | (refine drb_2q true rfl (fun R hR => ?_); simp only [go_sem]; (with_reducible refine hR _ _ ?_ ?_); (focus (((try simp only [inRange]) <;> and_intros <;> first | exact True.intro | omega | trivial); done)); clear hR R) | fail
  refine drb_new rfl (NewX.make (n := la) (c := la) rfl rfl rfl ty_e_ws ty_z_u32 rfl (by omega) (by simp only[go_sem]<;>rfl) (by simp only[go_sem]<;>rfl) (by rw [hla]) (by rw [hla]) (by omega) (by omega) (by omega)) (by kernel_rfl) ?_
  (try simp only[go_sem])
  refine drb_calm (CalmX.empty rfl rfl rfl ty_e_ws) ?_
  (try simp only[go_sem])
  have hmx : (if ((words A).length : Int) - ((n + 1 : Nat) : Int) + 1 > 0 then ((words A).length : Int) - ((n + 1 : Nat) : Int) + 1 else 0) = ((la - n : Nat) : Int) := by rw [hla]; split <;> omega
  repeat first | (refine drb_2q true rfl (fun R hR => ?_); simp only [go_sem, hmx]; (with_reducible refine hR _ _ ?_ ?_); (focus (((try simp only [inRange]) <;> and_intros <;> first | exact True.intro | omega | trivial); done)); clear hR R) | fail
  refine drb_calm (CalmX.copy rfl rfl rfl ty_e_ws ty_z_u32 rfl (by omega) (by simp only[go_sem, hmx]<;>rfl) (by simp only[go_sem, hmx]<;>rfl) .row (by unfold maxLen; omega) (by omega)) ?_
  (try simp only[go_sem, hmx])
  refine drb_nil fun γ => ?_
  (try simp only[go_sem, hmx])
  rw [make_wf' la]
  generalize γ 2 = gq
  rw [drop_row]
  have hr0 := drop_val (words A) hAw (la - n) (by omega)
  rw [val_words] at hr0
  have hrV : A / 4294967296 ^ (la - n) < V := by
    refine Nat.lt_of_lt_of_le ((Nat.div_lt_iff_lt_mul (pow32 _)).2 ?_) hVlo
    rw [← Nat.pow_add]
    exact Nat.lt_of_lt_of_le hAhi (Nat.pow_le_pow_right (by omega) (by omega))
  have hrw : ∀ x ∈ (words A).drop (la - n), x < 4294967296 := fun x hx => hAw x (List.mem_of_mem_drop hx)
  have hrl : ((words A).drop (la - n)).length ≤ n + 1 := by rw [List.length_drop]; omega
  generalize (words A).drop (la - n) = rs0 at hr0 hrw hrl ⊢
  repeat first|apply wa1|apply wa2|apply wa3|apply wa4|apply wa5 rfl|apply wa6|apply wa7|(refine wb1 rfl fun R r=>?_;simp only[go_sem, hmx];with_reducible refine r _ _ ?_;clear r R)
  refine aw_lp (fun x : Int × Nat × List Nat × List Nat => [(0, .c (ws true (words A))), (1, .c (ws true (words V))), (7, .c (.int .i64 ((n + 1 : Nat) : Int))), (8, .c (.int .i64 s)), (9, .c (.osl gq 1 0 la)), (10, .c (ws true x.2.2.1)), (11, .c (.int .i64 x.1))]) (fun x => [(gq, .cells 146 la (wf x.2.2.2))])
    (fun x => x.2.1 = (x.1 + 1).toNat ∧ x.1 < 34359738370 ∧ -34359738370 < x.1 ∧ x.2.1 ≤ la ∧ val x.2.2.1 = A / 4294967296 ^ x.2.1 % V ∧ (∀ y ∈ x.2.2.1, y < 4294967296) ∧ x.2.2.1.length ≤ n + 1 ∧ x.2.2.2.length = la ∧ (∀ y ∈ x.2.2.2, y < 4294967296) ∧ val (x.2.2.2.drop x.2.1) = A / 4294967296 ^ x.2.1 / V) (fun x => x.2.1) ((la : Int) - ((n + 1 : Nat) : Int), la - n, rs0, List.replicate la 0) (by simp only[go_sem, hmx]<;>and_intros<;>first|exact True.intro|(with_reducible rfl)|exact c_int (by omega)|rfl) (List.Sublist.refl _)
    ⟨by dsimp only; omega, by dsimp only; omega, by dsimp only; omega, by dsimp only; omega, by dsimp only; rw [hr0, Nat.mod_eq_of_lt hrV], hrw, hrl, by simp, replicate_lt _, by dsimp only; rw [Nat.div_eq_of_lt hrV]; exact val_zero fun x hx => (List.mem_replicate.1 (List.mem_of_mem_drop hx)).2⟩ ?_
  clear hr0 hrV hrw hrl
  clear rs0
  as_aux_lemma =>
  rintro ⟨v, m, rs, qs⟩ ⟨hm, hv1, hv2, hml, hrs, hrw, hrl, hql, hqw, hqs⟩
  dsimp only at hm hv1 hv2 hml hrs hrw hrl hql hqw hqs ⊢
  repeat first|apply wa1|apply wa2|apply wa3|apply wa4|apply wa5 rfl|apply wa6|apply wa7|(refine wb1 rfl fun R r=>?_;simp only[go_sem, hmx];with_reducible refine r _ _ ?_;clear r R)
  refine aw_cond (by simp only[go_sem, hmx]<;>rfl) (fun hb => ?_) (fun hb => ?_)
  · have hv0 : 0 ≤ v := of_decide_eq_true hb
    obtain ⟨k, rfl⟩ : ∃ k : Nat, v = k := ⟨v.toNat, by omega⟩
    have hmk : m = k + 1 := by omega
    subst hmk
    have hwk := word_at (words A) hAw k
    rw [val_words] at hwk
    have hak := getD_lt hAw k
    obtain ⟨nx1, nx2⟩ := ref_next (A := A) (m := k) hVpos hrs
    rw [hwk] at nx1 nx2
    apply aw_skip
    apply aw_seq
    apply aw_block
    apply aw_seq
    have hRl : ((words A).getD k 0 :: rs).length ≤ n + 2 := by simp; omega
    have hRw : ∀ x ∈ (words A).getD k 0 :: rs, x < 4294967296 := fun x hx => by
      rcases List.mem_cons.1 hx with rfl | hx
      · exact hak
      · exact hrw x hx
    refine aw_cut (fun _ : Unit => [(0, .c (ws true (words A))), (1, .c (ws true (words V))), (7, .c (.int .i64 ((n + 1 : Nat) : Int))), (8, .c (.int .i64 s)), (9, .c (.osl gq 1 0 la)), (10, .c (ws true (words ((words A).getD k 0 + 4294967296 * val rs)))), (11, .c (.int .i64 k))]) (fun _ => [(gq, .cells 146 la (wf qs))]) (fun _ => k < la) ?_ ?_
    · as_aux_lemma =>
      apply aw_region
      repeat first|apply wa7|(refine wb1 rfl fun R r=>?_;simp only[go_sem, hmx];with_reducible refine r _ _ ?_;clear r R)|apply wa8|(refine wd1 rfl fun R r=>?_;simp only[go_sem, hmx];with_reducible refine r _ _ ?_;clear r R)
      refine aw_buildSlice (xs := [.tmp 61]) (cells := [.int .u32 ((words A).getD k 0 : Nat)]) rfl rfl rfl ty_e_ws (by rw [envP, ty_z_u32]; rfl) rfl (by omega) (by omega) (by intro x hx; simp only [List.mem_singleton] at hx; subst hx; exact ⟨rfl, rfl, rfl⟩) (by simp only[go_sem, hmx]<;>rfl) fun g hg => ?_
      replace hg := Heap.ne_of hg
      dsimp only [Heap.ne] at hg
      (try simp only[go_sem, hmx, hg])
      repeat first|apply wa7|(refine wb1 rfl fun R r=>?_;simp only[go_sem, hmx, hg];with_reducible refine r _ _ ?_;clear r R)
      by_cases hr0 : 0 < rs.length
      · refine aw_append rfl rfl rfl ty_e_ws ty_z_u32 rfl (by omega) (by simp only[go_sem, hmx, hg]<;>rfl) (by simp only[go_sem, hmx, hg]<;>rfl) (by omega) (by simp only[go_sem, hmx, hg]<;>rfl) .row (fun _ _ => rfl) hr0 (by unfold maxLen; omega) (by omega) (by simp only[go_sem, hmx, hg]<;>rfl) fun g' hg' => ?_
        replace hg' := Heap.ne_of hg'
        dsimp only [Heap.ne] at hg'
        (try simp only[go_sem, hmx, hg, hg'])
        repeat first|apply wa7|(refine wb1 rfl fun R r=>?_;simp only[go_sem, hmx, hg, hg'];with_reducible refine r _ _ ?_;clear r R)
        refine aw_callq (qtrim_fa ((words A).getD k 0 :: rs) hRw (by omega)) rfl rfl rfl (by (try simp only[go_sem, hmx, hg, hg']); exact .c (lec_oslws (by simp only[go_sem, hmx, hg, hg']<;>rfl) (by omega) (by simp; omega) (fun j _ => by rw [Nat.zero_add]; exact cons_f _ _ j))) ?_
        (try simp only[go_sem, hmx, hg, hg'])
        repeat first|apply wa7|(refine wb1 rfl fun R r=>?_;simp only[go_sem, hmx, hg, hg'];with_reducible refine r _ _ ?_;clear r R)
        exact aw_stop ⟨(), (by simp only[go_sem, hmx, hg, hg']<;>and_intros<;>first|exact True.intro|(with_reducible rfl)|exact c_int (by omega)|rfl), List.Sublist.cons _ (List.Sublist.refl _), by omega⟩
      · have hrn : rs = [] := List.length_eq_zero_iff.1 (by omega)
        subst hrn
        refine aw_append0 rfl rfl rfl ty_e_ws (by simp only[go_sem, hmx, hg]<;>rfl) rfl (by simp only[go_sem, hmx, hg]<;>rfl) .row (by simp only[go_sem, hmx, hg]<;>rfl) ?_
        (try simp only[go_sem, hmx, hg])
        repeat first|apply wa7|(refine wb1 rfl fun R r=>?_;simp only[go_sem, hmx, hg];with_reducible refine r _ _ ?_;clear r R)
        refine aw_callq (qtrim_fa ((words A).getD k 0 :: []) hRw (by omega)) rfl rfl rfl (by (try simp only[go_sem, hmx, hg]); exact .c (lec_oslws (by simp only[go_sem, hmx, hg]<;>rfl) (by omega) rfl (fun j hj => by match j, hj with | 0, _ => rfl))) ?_
        (try simp only[go_sem, hmx, hg])
        repeat first|apply wa7|(refine wb1 rfl fun R r=>?_;simp only[go_sem, hmx, hg];with_reducible refine r _ _ ?_;clear r R)
        exact aw_stop ⟨(), (by simp only[go_sem, hmx, hg]<;>and_intros<;>first|exact True.intro|(with_reducible rfl)|exact c_int (by omega)|rfl), List.Sublist.cons _ (List.Sublist.refl _), by omega⟩
    as_aux_lemma =>
    rintro _ hkl
    have hRV : val ((words A).getD k 0 :: rs) < V * 4294967296 := by
      simp only [val]
      rw [hrs]
      have := Nat.mod_lt (A / 4294967296 ^ (k + 1)) hVpos
      omega
    have hRv : val ((words A).getD k 0 :: rs) = (words A).getD k 0 + 4294967296 * val rs := rfl
    rw [hRv] at hRV
    generalize hR : (words A).getD k 0 + 4294967296 * val rs = R at nx1 nx2 hRV ⊢
    have hRwl : (words R).length ≤ n + 2 := by
      rw [← hR, ← hRv]; exact Nat.le_trans (words_val_len _ hRw) hRl
    have hRww := words_lt R
    have hw1 := getD_lt hRww (n + 1)
    have hw2 := getD_lt hRww n
    have hw3 := getD_lt hVw n
    have hVtop : (words V).getD n 0 ≠ 0 := by
      have := (words_plain V).resolve_left (fun e => hV0 (words_eq_nil.1 e))
      rwa [hVl] at this
    have hg0 : R / V ≤ ((words R).getD (n + 1) 0 * 4294967296 + (words R).getD n 0) / (words V).getD n 0 := by
      refine ref_guess (D := 4294967296 ^ n) ?_ ?_ (by omega) hVpos
      · have := top_lt (words R) hRww n hRwl
        rwa [val_words] at this
      · have := top_le (words V) n
        rwa [List.take_of_length_le (by omega), val_words] at this
    have hg1 : R / V ≤ 4294967295 := by
      have : R / V < 4294967296 := (Nat.div_lt_iff_lt_mul hVpos).2 (by rw [Nat.mul_comm]; exact hRV)
      omega
    have e3 : (((n + 1 : Nat) : Int) - 1) = (n : Int) := by omega
    repeat first|apply wa1|apply wa2|apply wa3|apply wa4|apply wa5 rfl|apply wa6|apply wa7|(refine wb1 rfl fun R r=>?_;simp only[go_sem, hmx];with_reducible refine r _ _ ?_;clear r R)
    refine aw_callq (qword_fa (words R) (n + 1) hRww) rfl rfl rfl (by first|exact True.intro|simp only[go_sem, hmx]<;>and_intros<;>first|exact True.intro|exact .c (.refl _)|exact .c wl2|exact .agg (lel_refl _)|exact .agg (by simp only[LeL];and_intros<;>first|exact True.intro|exact .refl _|exact wl2)|exact .c .nils) ?_
    (try simp only[go_sem, hmx])
    repeat first|apply wa1|apply wa2|apply wa3|apply wa4|apply wa5 rfl|apply wa6|apply wa7|(refine wb1 rfl fun R r=>?_;simp only[go_sem, hmx, e3];with_reducible refine r _ _ ?_;clear r R)
    refine aw_callq (qword_fa (words R) n hRww) rfl rfl rfl (by first|exact True.intro|simp only[go_sem, hmx, e3]<;>and_intros<;>first|exact True.intro|exact .c (.refl _)|exact .c wl2|exact .agg (lel_refl _)|exact .agg (by simp only[LeL];and_intros<;>first|exact True.intro|exact .refl _|exact wl2)|exact .c .nils) ?_
    (try simp only[go_sem, hmx, e3])
    as_aux_lemma =>
    have e4 := shl_u64_32 ((words R).getD (n + 1) 0) hw1
    have e5 := or_u64_j32 ((words R).getD (n + 1) 0) ((words R).getD n 0) hw1 hw2
    repeat first|apply wa1|apply wa2|apply wa3|apply wa4|apply wa5 rfl|apply wa6|apply wa7|(refine wb1 rfl fun R r=>?_;simp only[go_sem, hmx, e3, e4, e5];with_reducible refine r _ _ ?_;clear r R)
    as_aux_lemma =>
    refine aw_callq (qword_fa (words V) n hVw) rfl rfl rfl (by first|exact True.intro|simp only[go_sem, hmx, e3, e4, e5]<;>and_intros<;>first|exact True.intro|exact .c (.refl _)|exact .c wl2|exact .agg (lel_refl _)|exact .agg (by simp only[LeL];and_intros<;>first|exact True.intro|exact .refl _|exact wl2)|exact .c .nils) ?_
    (try simp only[go_sem, hmx, e3, e4, e5])
    have hjl : j32 ((words R).getD (n + 1) 0) ((words R).getD n 0) < 18446744073709551616 := by unfold j32; omega
    have e6 := quo_u64 (j32 ((words R).getD (n + 1) 0) ((words R).getD n 0)) ((words V).getD n 0) hjl
    replace hg0 : R / V ≤ j32 ((words R).getD (n + 1) 0) ((words R).getD n 0) / (words V).getD n 0 := hg0
    (refine wb1 rfl fun R r=>?_;simp only[go_sem, hmx, e3, e4, e5, e6];with_reducible refine r _ _ ?_;clear r R)
    generalize j32 ((words R).getD (n + 1) 0) ((words R).getD n 0) / (words V).getD n 0 = G at hg0 ⊢
    have e7 : (if (4294967295 : Int) < (G : Int) then (4294967295 : Int) else (G : Int)) = ((min G 4294967295 : Nat) : Int) := by split <;> omega
    as_aux_lemma =>
    (refine wb1 rfl fun R r=>?_;simp only[go_sem, hmx, e3, e4, e5, e6];with_reducible refine r _ _ ?_;clear r R)
    rw [e7]
    have hgl : min G 4294967295 < 4294967296 := by omega
    replace hg0 : R / V ≤ min G 4294967295 := by omega
    generalize min G 4294967295 = g0 at hgl hg0 ⊢
    have e8 : wrapZ .u32 (g0 : Int) = (g0 : Int) := by rw [wrap_u32_nat, Nat.mod_eq_of_lt hgl]
    as_aux_lemma =>
    repeat first|apply wa1|apply wa2|apply wa3|apply wa4|apply wa5 rfl|apply wa6|apply wa7|(refine wb1 rfl fun R r=>?_;simp only[go_sem, hmx, e3, e4, e5, e6, e8];with_reducible refine r _ _ ?_;clear r R)
    as_aux_lemma =>
    refine aw_buildSlice (xs := [.tmp 83]) (cells := [.int .u32 (g0 : Nat)]) rfl rfl rfl ty_e_ws (by rw [envP, ty_z_u32]; rfl) rfl (by omega) (by omega) (by intro x hx; simp only [List.mem_singleton] at hx; subst hx; exact ⟨rfl, rfl, rfl⟩) (by simp only[go_sem, hmx, e3, e4, e5, e6, e8]<;>rfl) fun g hg => ?_
    replace hg := Heap.ne_of hg
    dsimp only [Heap.ne] at hg
    (try simp only[go_sem, hmx, e3, e4, e5, e6, e8, hg])
    repeat first|apply wa1|apply wa2|apply wa3|apply wa4|apply wa5 rfl|apply wa6|apply wa7|(refine wb1 rfl fun R r=>?_;simp only[go_sem, hmx, e3, e4, e5, e6, e8, hg];with_reducible refine r _ _ ?_;clear r R)
    as_aux_lemma =>
    refine aw_callq (qmul_fa (words V) [g0] hVw (by intro x hx; simp only [List.mem_singleton] at hx; subst hx; exact hgl) (by omega) (by simp)) rfl rfl rfl (by (try simp only[go_sem, hmx, e3, e4, e5, e6, e8, hg]); exact ⟨.c (le_ws (by simp)), .c (lec_oslws (by simp only[go_sem, hmx, e3, e4, e5, e6, e8, hg]<;>rfl) (by simp) rfl (fun j hj => by match j, hj with | 0, _ => rfl))⟩) ?_
    rw [val_words, val_one]
    (try simp only[go_sem, hmx, e3, e4, e5, e6, e8, hg])
    repeat first|apply wa7|(refine wb1 rfl fun R r=>?_;simp only[go_sem, hmx, e3, e4, e5, e6, e8, hg];with_reducible refine r _ _ ?_;clear r R)
    apply aw_seq
    refine aw_cut (fun _ : Unit => [(0, .c (ws true (words A))), (1, .c (ws true (words V))), (7, .c (.int .i64 ((n + 1 : Nat) : Int))), (8, .c (.int .i64 s)), (9, .c (.osl gq 1 0 la)), (10, .c (ws true (words R))), (11, .c (.int .i64 k)), (12, .c (.int .u64 (R / V : Nat))), (13, .c (ws true (words (V * (R / V)))))]) (fun _ => [(gq, .cells 146 la (wf qs))]) (fun _ => k < la) ?_ ?_
    · as_aux_lemma =>
      apply aw_block
      refine aw_lp (fun q : Nat => [(0, .c (ws true (words A))), (1, .c (ws true (words V))), (7, .c (.int .i64 ((n + 1 : Nat) : Int))), (8, .c (.int .i64 s)), (9, .c (.osl gq 1 0 la)), (10, .c (ws true (words R))), (11, .c (.int .i64 k)), (12, .c (.int .u64 q)), (13, .c (ws true (words (V * q))))]) (fun _ => [(gq, .cells 146 la (wf qs))]) (fun q => R / V ≤ q ∧ q < 4294967296) (fun q => q) g0 (by simp only[go_sem, hmx, e3, e4, e5, e6, e8, hg]<;>and_intros<;>first|exact True.intro|(with_reducible rfl)|exact c_int (by omega)|rfl) (List.Sublist.cons _ (List.Sublist.refl _)) ⟨hg0, hgl⟩ ?_
      rintro q ⟨hq1, hq2⟩
      have hpl : (words (V * q)).length ≤ 34359738380 := by
        have h1 := words_mul_len V q
        have h2 : (words q).length ≤ 2 := words_small (by omega)
        omega
      repeat first|apply wa1|apply wa2|apply wa3|apply wa4|apply wa5 rfl|apply wa6|apply wa7|(refine wb1 rfl fun R r=>?_;simp only[go_sem, hmx, e3, e4, e5, e6, e8, hg];with_reducible refine r _ _ ?_;clear r R)
      refine aw_callq (qcmp_fa (words (V * q)) (words R) (words_lt _) hRww ?_ ?_) rfl rfl rfl (by first|exact True.intro|simp only[go_sem, hmx, e3, e4, e5, e6, e8, hg]<;>and_intros<;>first|exact True.intro|exact .c (.refl _)|exact .c wl2|exact .agg (lel_refl _)|exact .agg (by simp only[LeL];and_intros<;>first|exact True.intro|exact .refl _|exact wl2)|exact .c .nils) ?_
      · omega
      · omega
      (try simp only[go_sem, hmx, e3, e4, e5, e6, e8, hg])
      rw [val_words, val_words]
      repeat first|apply wa1|apply wa2|apply wa3|apply wa4|apply wa5 rfl|apply wa6|apply wa7|(refine wb1 rfl fun R r=>?_;simp only[go_sem, hmx, e3, e4, e5, e6, e8, hg];with_reducible refine r _ _ ?_;clear r R)
      refine aw_cond (by simp only[go_sem, hmx, e3, e4, e5, e6, e8, hg]<;>rfl) (fun hc => ?_) (fun hc => ?_)
      · have hgt : R < V * q := by
          have := of_decide_eq_true hc
          unfold cmpN at this
          split at this
          · omega
          · split at this <;> omega
        have hq0 : R / V < q := (Nat.div_lt_iff_lt_mul hVpos).2 (by rw [Nat.mul_comm]; exact hgt)
        have hsub : V * q - V = V * (q - 1) := by rw [Nat.mul_sub, Nat.mul_one]
        have hq9 : 0 < q := Nat.lt_of_le_of_lt (Nat.zero_le _) hq0
        have hge : V ≤ V * q := Nat.le_mul_of_pos_right _ hq9
        have e9 : ((q : Int) - 1) = ((q - 1 : Nat) : Int) := by omega
        repeat first|apply wa1|apply wa2|apply wa3|apply wa4|apply wa5 rfl|apply wa6|apply wa7|(refine wb1 rfl fun R r=>?_;simp only[go_sem, hmx, e3, e4, e5, e6, e8, hg, e9];with_reducible refine r _ _ ?_;clear r R)
        refine aw_callq (qsub_fa (words (V * q)) (words V) (words_lt _) hVw ?_ ?_ ?_) rfl rfl rfl (by first|exact True.intro|simp only[go_sem, hmx, e3, e4, e5, e6, e8, hg, e9]<;>and_intros<;>first|exact True.intro|exact .c (.refl _)|exact .c wl2|exact .agg (lel_refl _)|exact .agg (by simp only[LeL];and_intros<;>first|exact True.intro|exact .refl _|exact wl2)|exact .c .nils) ?_
        · omega
        · omega
        · rw [val_words, val_words]; exact hge
        (try simp only[go_sem, hmx, e3, e4, e5, e6, e8, hg, e9])
        rw [val_words, val_words, hsub]
        repeat first|apply wa1|apply wa2|apply wa3|apply wa4|apply wa5 rfl|apply wa6|apply wa7|(refine wb1 rfl fun R r=>?_;simp only[go_sem, hmx, e3, e4, e5, e6, e8, hg, e9];with_reducible refine r _ _ ?_;clear r R)
        exact aw_stop ⟨q - 1, by omega, (by simp only[go_sem, hmx, e3, e4, e5, e6, e8, hg, e9]<;>and_intros<;>first|exact True.intro|(with_reducible rfl)|exact c_int (by omega)|rfl), (List.Sublist.refl _), Nat.le_sub_one_of_lt hq0, by omega⟩
      · have hle : V * q ≤ R := by
          have := of_decide_eq_false hc
          unfold cmpN at this
          split at this
          · omega
          · split at this <;> omega
        have hqe : q = R / V := Nat.le_antisymm ((Nat.le_div_iff_mul_le hVpos).2 (by rw [Nat.mul_comm]; exact hle)) hq1
        subst hqe
        repeat first|apply wa1|apply wa2|apply wa3|apply wa4|apply wa5 rfl|apply wa6|apply wa7|(refine wb1 rfl fun R r=>?_;simp only[go_sem, hmx, e3, e4, e5, e6, e8, hg];with_reducible refine r _ _ ?_;clear r R)
        exact aw_stop ⟨(), (by simp only[go_sem, hmx, e3, e4, e5, e6, e8, hg]<;>and_intros<;>first|exact True.intro|(with_reducible rfl)|exact c_int (by omega)|rfl), (List.Sublist.refl _), hkl⟩
    as_aux_lemma =>
    rintro _ _
    have hmd := Nat.div_add_mod R V
    have hml2 := Nat.mod_lt R hVpos
    have hpl : (words (V * (R / V))).length ≤ n + 2 := Nat.le_trans (words_len_mono (Nat.mul_div_le R V)) hRwl
    repeat first|apply wa1|apply wa2|apply wa3|apply wa4|apply wa5 rfl|apply wa6|apply wa7|(refine wb1 rfl fun R r=>?_;simp only[go_sem, hmx, e3, e4, e5, e6, e8, hg];with_reducible refine r _ _ ?_;clear r R)
    refine aw_callq (qsub_fa (words R) (words (V * (R / V))) hRww (words_lt _) ?_ ?_ ?_) rfl rfl rfl (by first|exact True.intro|simp only[go_sem, hmx, e3, e4, e5, e6, e8, hg]<;>and_intros<;>first|exact True.intro|exact .c (.refl _)|exact .c wl2|exact .agg (lel_refl _)|exact .agg (by simp only[LeL];and_intros<;>first|exact True.intro|exact .refl _|exact wl2)|exact .c .nils) ?_
    · omega
    · omega
    · rw [val_words, val_words]; omega
    (try simp only[go_sem, hmx, e3, e4, e5, e6, e8, hg])
    rw [val_words, val_words, show R - V * (R / V) = R % V from by omega]
    have e8 : wrapZ .u32 ((R / V : Nat) : Int) = ((R / V : Nat) : Int) := by rw [wrap_u32_nat, Nat.mod_eq_of_lt (by omega)]
    repeat first|apply wa1|apply wa2|apply wa3|apply wa4|apply wa5 rfl|apply wa6|apply wa7|(refine wb1 rfl fun R r=>?_;simp only[go_sem, hmx, e3, e4, e5, e6, e8, hg, e8];with_reducible refine r _ _ ?_;clear r R)
    refine aw_store rfl rfl rfl rfl (by simp only[go_sem, hmx, e3, e4, e5, e6, e8, hg, e8]<;>rfl) (by simp only[go_sem, hmx, e3, e4, e5, e6, e8, hg, e8]<;>rfl) (by simp only[go_sem, hmx, e3, e4, e5, e6, e8, hg, e8]<;>rfl) (by simp only[go_sem, hmx, e3, e4, e5, e6, e8, hg, e8]<;>rfl) (fun _ e => by cases e) (by rfl) (by rfl) (by first|omega|simp) rfl ?_
    (try simp only[go_sem, hmx, e3, e4, e5, e6, e8, hg, e8])
    rw [updF_wf (by omega)]
    repeat first|apply wa1|apply wa2|apply wa3|apply wa4|apply wa5 rfl|apply wa6|apply wa7|(refine wb1 rfl fun R r=>?_;simp only[go_sem, hmx, e3, e4, e5, e6, e8, hg, e8];with_reducible refine r _ _ ?_;clear r R)
    have hrm : (words (R % V)).length ≤ n + 1 := words_len_le (Nat.lt_trans hml2 hVhi)
    refine aw_stop ⟨((k : Int) - 1, k, words (R % V), qs.set k (R / V)), by dsimp only; omega, (by simp only[go_sem, hmx, e3, e4, e5, e6, e8, hg, e8]<;>and_intros<;>first|exact True.intro|(with_reducible rfl)|exact c_int (by omega)|rfl), (List.Sublist.refl _), by dsimp only; omega, by dsimp only; omega, by dsimp only; omega, by dsimp only; omega, by dsimp only; rw [val_words, nx1], words_lt _, hrm, by simpa using hql, set_lt hqw (by omega), ?_⟩
    dsimp only
    rw [val_set_drop (by omega), hqs, nx2]
  · have hm0 : m = 0 := by have := of_decide_eq_false hb; omega
    subst hm0
    rw [List.drop_zero, Nat.pow_zero, Nat.div_one] at hqs
    rw [Nat.pow_zero, Nat.div_one] at hrs
    repeat first|apply wa1|apply wa2|apply wa3|apply wa4|apply wa5 rfl|apply wa6|apply wa7|(refine wb1 rfl fun R r=>?_;simp only[go_sem, hmx];with_reducible refine r _ _ ?_;clear r R)
    refine aw_callq (qtrim_fa qs hqw (by omega)) rfl rfl rfl (by (try simp only[go_sem, hmx]); exact .c (lec_oslws (by simp only[go_sem, hmx]<;>rfl) (by omega) (by omega) (fun j _ => by rw [Nat.zero_add]; rfl))) ?_
    (try simp only[go_sem, hmx])
    repeat first|apply wa1|apply wa2|apply wa3|apply wa4|apply wa5 rfl|apply wa6|apply wa7|(refine wb1 rfl fun R r=>?_;simp only[go_sem, hmx];with_reducible refine r _ _ ?_;clear r R)
    refine aw_callq (qdown_fa rs s hrw ?_ hs2) rfl rfl rfl (by first|exact True.intro|simp only[go_sem, hmx]<;>and_intros<;>first|exact True.intro|exact .c (.refl _)|exact .c wl2|exact .agg (lel_refl _)|exact .agg (by simp only[LeL];and_intros<;>first|exact True.intro|exact .refl _|exact wl2)|exact .c .nils) ?_
    · omega
    (try simp only[go_sem, hmx])
    repeat first|apply wa1|apply wa2|apply wa3|apply wa4|apply wa5 rfl|apply wa6|apply wa7|(refine wb1 rfl fun R r=>?_;simp only[go_sem, hmx];with_reducible refine r _ _ ?_;clear r R)
    (refine aw_retq hC rfl fun R r=>?_;simp only[go_sem, hmx];refine r _ rfl ?_;clear r R)
    rw [hqs, hrs]
    exact .tup ⟨.c ler_ws, .c ler_ws, .c (.int _ _), trivial⟩

set_option maxHeartbeats 1600000 in
theorem qgcd_fa (xs ys : List Nat) (hx : ∀ x ∈ xs, x < 4294967296) (hy : ∀ x ∈ ys, x < 4294967296) (hlx : xs.length ≤ 34359738368) (hly : ys.length ≤ 34359738368) :
    Fa Tryz.prog 145 [.c (ws false xs), .c (ws false ys)] (.c (ws true (words (Nat.gcd (val xs) (val ys))))) := by
  refine fa_of_body Tryz.func145 rfl rfl (by simp [Tryz.ntmps145]) fun C hC => ?_
  simp only [initS, Nat.reduceAdd]
  repeat first|apply wa1|apply wa2|apply wa3|apply wa4|apply wa5 rfl|apply wa6|apply wa7|(refine wb1 rfl fun R r=>?_;simp only[go_sem];with_reducible refine r _ _ ?_;clear r R)
  refine aw_callq (qtrim_fa xs hx ?_) rfl rfl rfl (by first|exact True.intro|simp only[go_sem]<;>and_intros<;>first|exact True.intro|exact .c (.refl _)|exact .c wl2|exact .agg (lel_refl _)|exact .agg (by simp only[LeL];and_intros<;>first|exact True.intro|exact .refl _|exact wl2)|exact .c .nils) ?_
  · omega
  (try simp only[go_sem])
  repeat first|apply wa1|apply wa2|apply wa3|apply wa4|apply wa5 rfl|apply wa6|apply wa7|(refine wb1 rfl fun R r=>?_;simp only[go_sem];with_reducible refine r _ _ ?_;clear r R)
  refine aw_callq (qtrim_fa ys hy ?_) rfl rfl rfl (by first|exact True.intro|simp only[go_sem]<;>and_intros<;>first|exact True.intro|exact .c (.refl _)|exact .c wl2|exact .agg (lel_refl _)|exact .agg (by simp only[LeL];and_intros<;>first|exact True.intro|exact .refl _|exact wl2)|exact .c .nils) ?_
  · omega
  (try simp only[go_sem])
  have hla : (words (val xs)).length ≤ 34359738368 := Nat.le_trans (words_val_len xs hx) hlx
  have hlb : (words (val ys)).length ≤ 34359738368 := Nat.le_trans (words_val_len ys hy) hly
  repeat first|apply wa1|apply wa3|apply wa4|apply wa5 rfl|apply wa6|apply wa7|(refine wb1 rfl fun R r=>?_;simp only[go_sem];with_reducible refine r _ _ ?_;clear r R)
  apply aw_block
  refine aw_lp (fun x : Nat × Nat => [(0, .c (ws true (words x.1))), (1, .c (ws true (words x.2)))]) (fun _ => []) (fun x => (words x.1).length ≤ 34359738368 ∧ (words x.2).length ≤ 34359738368 ∧ Nat.gcd x.1 x.2 = Nat.gcd (val xs) (val ys)) (fun x => x.2) (val xs, val ys) (by simp only[go_sem]<;>and_intros<;>first|exact True.intro|(with_reducible rfl)|exact c_int (by omega)|rfl) (List.Sublist.refl _) ⟨hla, hlb, rfl⟩ ?_
  rintro ⟨a, b⟩ ⟨hla, hlb, hg⟩
  dsimp only at hla hlb hg ⊢
  repeat first|apply wa1|apply wa2|apply wa3|apply wa4|apply wa5 rfl|apply wa6|apply wa7|(refine wb1 rfl fun R r=>?_;simp only[go_sem];with_reducible refine r _ _ ?_;clear r R)
  refine aw_cond (by simp only[go_sem]<;>rfl) (fun hb => ?_) (fun hb => ?_)
  · have hb0 : b ≠ 0 := fun e => by have := of_decide_eq_true hb; rw [e, words_zero] at this; simp at this
    repeat first|apply wa1|apply wa2|apply wa3|apply wa4|apply wa5 rfl|apply wa6|apply wa7|(refine wb1 rfl fun R r=>?_;simp only[go_sem];with_reducible refine r _ _ ?_;clear r R)
    refine aw_callq (qdiv_fa (words a) (words b) (words_lt a) (words_lt b) hla hlb ?_) rfl rfl rfl (by first|exact True.intro|simp only[go_sem]<;>and_intros<;>first|exact True.intro|exact .c (.refl _)|exact .c wl2|exact .agg (lel_refl _)|exact .agg (by simp only[LeL];and_intros<;>first|exact True.intro|exact .refl _|exact wl2)|exact .c .nils) ?_
    · rw [val_words]; exact hb0
    (try simp only[go_sem])
    rw [val_words, val_words]
    repeat first|apply wa1|apply wa2|apply wa3|apply wa4|apply wa5 rfl|apply wa6|apply wa7|(refine wb1 rfl fun R r=>?_;simp only[go_sem];with_reducible refine r _ _ ?_;clear r R)
    have hlt : a % b < b := Nat.mod_lt _ (Nat.pos_of_ne_zero hb0)
    refine aw_stop ⟨(b, a % b), hlt, (by simp only[go_sem]<;>and_intros<;>first|exact True.intro|(with_reducible rfl)|exact c_int (by omega)|rfl), (List.Sublist.refl _), hlb, Nat.le_trans (words_len_mono (Nat.le_of_lt hlt)) hlb, ?_⟩
    dsimp only
    rw [← hg, Nat.gcd_comm a b, Nat.gcd_rec b a, Nat.gcd_comm]
  · have hb0 : b = 0 := by
      have := of_decide_eq_false hb
      exact words_eq_nil.1 (List.length_eq_zero_iff.1 (by omega))
    subst hb0
    repeat first|apply wa1|apply wa2|apply wa3|apply wa4|apply wa5 rfl|apply wa6|apply wa7|(refine wb1 rfl fun R r=>?_;simp only[go_sem];with_reducible refine r _ _ ?_;clear r R)
    (refine aw_retq hC rfl fun R r=>?_;simp only[go_sem];refine r _ rfl ?_;clear r R)
    rw [← hg, Nat.gcd_zero_right]
    exact .one (.c ler_ws)
end Go.Proofs.YtmkomfdiggcloaaGreat
