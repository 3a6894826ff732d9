/- Texts of one proof, laid one behind the other by a program (merge.py): AiOwn, AiCut, Ty, PNat, Nat1, Nat2, Nat3. -/
import Derived.Test.YtmkomfdiggcloaaM03
import Derived.Test.YtmkomfdiggcloaaProg
import Derived.KernelRfl
set_option linter.unusedSimpArgs false
set_option linter.unusedVariables false
/- Contracts of functions that are handed blocks to change, or hand back new blocks that the caller may change; giving up a block. -/
namespace Go.AI

/-- What such a function has come to when it ends. -/
def DoneH (C : Ctx) (Q : AV → Heap → Prop) : Ending → World → Prop := fun e w' => ∃ v r h', e = .returned v ∧ Q r h' ∧ h'.keys.Nodup ∧ (∀ g ∈ h'.keys, C.own0 g ∨ C.w0.heap.size ≤ g) ∧
  Rep (Stab C h' w') w' r v ∧ (∀ g o, (g, o) ∈ h' → ORep (Stab C h' w') w' g o) ∧ Fr C.own0 C.w0 w'

/-- CONTRACT: f is handed the blocks hc; it returns what some r, h' of Q describe: h' are blocks of hc, or new ones, that the caller owns from then on. -/
def Fh (P : Program) (f : FuncId) (hc : Heap) (args : List AV) (Q : AV → Heap → Prop) : Prop :=
  Callable P f ∧ ∀ (C : Ctx) (vs : List Value), (∀ b, C.own0 b ↔ b ∈ hc.keys) → hc.keys.Nodup → (∀ g o, (g, o) ∈ hc → ORep C.S0 C.w0 g o) → RepT C.S0 C.w0 args vs → Calls P f vs.toArray C.w0 (DoneH C Q)

def envOfH (P : Program) (fn : Func) (C : Ctx) (Q : AV → Heap → Prop) : Env := { P, N := fn.ntmps, C, Q := bodyPost P fn (DoneH C Q) }
@[go_sem] theorem envPH (P : Program) (fn : Func) (C : Ctx) (Q : AV → Heap → Prop) : (envOfH P fn C Q).P = P := rfl
@[go_sem] theorem envCH (P : Program) (fn : Func) (C : Ctx) (Q : AV → Heap → Prop) : (envOfH P fn C Q).C = C := rfl
@[go_sem] theorem envC (P : Program) (fn : Func) (C : Ctx) (r : AV) : (envOf P fn C r).C = C := rfl

theorem keysPerm {h h' : Heap} (hp : h.Perm h') (g : Nat) : g ∈ h.keys ↔ g ∈ h'.keys := (hp.map (·.1)).mem_iff

theorem nodupPerm {h h' : Heap} (hp : h.Perm h') (hn : h.keys.Nodup) : h'.keys.Nodup := ((hp.map (fun p : Nat × AObj => p.1)).nodup_iff).1 hn

section
variable {E : Env} {K : List It} {σ σ' : Sl} {h : Heap} {all rest : List Oper} {o : Oper}

theorem doneh_of {P : Program} {fn : Func} {C : Ctx} {Q : AV → Heap → Prop} {x : AV} {a : Act} {w : World} (s : St fn.ntmps C σ h a w) {rvs : List ResultVar} (hrs : fn.results = rvs.toArray) (hx : resAV P σ h rvs = some x)
    (hfl : ∀ xs, x = .tup xs → xs.all AV.flat = true) (hq : Q x h) : a.defers = [] ∧ ∃ v, (results fn a.tmps).run P w = .ok v w ∧ DoneH C Q (.returned v) w := by
  obtain ⟨v, hv, hr⟩ := results_run s hrs hx hfl
  exact ⟨s.defers, v, hv, v, x, h, rfl, hq, s.nodup, s.keys, hr, s.heap, s.frame⟩
theorem aw_reth {P : Program} {fn : Func} {C : Ctx} {Q : AV → Heap → Prop} {x : AV} {rvs : List ResultVar} (hrs : fn.results = rvs.toArray) (hx : resAV P σ h rvs = some x) (hfl : ∀ xs, x = .tup xs → xs.all AV.flat = true)
    (hq : Q x h) : aw (envOfH P fn C Q) (.code .ret :: K) σ h := fun a w s => wp_ret (exW_ret a w (doneh_of s hrs hx hfl hq))
theorem aw_endh {P : Program} {fn : Func} {C : Ctx} {Q : AV → Heap → Prop} {x : AV} {rvs : List ResultVar} (hrs : fn.results = rvs.toArray) (hx : resAV P σ h rvs = some x) (hfl : ∀ xs, x = .tup xs → xs.all AV.flat = true)
    (hq : Q x h) : aw (envOfH P fn C Q) [] σ h := fun a w s => doneh_of s hrs hx hfl hq
theorem aw_rethq {P : Program} {fn : Func} {C : Ctx} {Q : AV → Heap → Prop} {rvs : List ResultVar} (hrs : fn.results = rvs.toArray) (k : ∀ R : Option AV → Prop, (∀ x, flatR x = true → Q x h → R (some x)) → R (resAV P σ h rvs)) :
    aw (envOfH P fn C Q) (.code .ret :: K) σ h := by
  have := k (fun y => y = resAV P σ h rvs → aw (envOfH P fn C Q) (.code .ret :: K) σ h) (fun x hf hq e => aw_reth hrs e.symm (flatR_spec hf) hq)
  exact this rfl
theorem aw_endhq {P : Program} {fn : Func} {C : Ctx} {Q : AV → Heap → Prop} {rvs : List ResultVar} (hrs : fn.results = rvs.toArray) (k : ∀ R : Option AV → Prop, (∀ x, flatR x = true → Q x h → R (some x)) → R (resAV P σ h rvs)) :
    aw (envOfH P fn C Q) [] σ h := by
  have := k (fun y => y = resAV P σ h rvs → aw (envOfH P fn C Q) [] σ h) (fun x hf hq e => aw_endh hrs e.symm (flatR_spec hf) hq)
  exact this rfl

/-- A BODY GIVES A CONTRACT. -/
theorem fh_of_body {P : Program} {f : FuncId} {fn : Func} {c : Code} {hc : Heap} {args : List AV} {Q : AV → Heap → Prop} (hf : P.funcs[f]? = some fn) (hb : fn.body = some c) (hn : (fn.name == "runtime.NumGoroutine") = false) (hl : args.length ≤ fn.ntmps)
    (k : ∀ C : Ctx, (∀ b, C.own0 b ↔ b ∈ hc.keys) → aw (envOfH P fn C Q) [.code c] (initS 0 args) hc) : Fh P f hc args Q := by
  refine ⟨⟨fn, hf, by rw [hb]; rfl, hn⟩, fun C vs hC hnd ho hr => ?_⟩
  refine calls_of_wp hf hb (R := DoneH C Q) ?_
  have hk := k C hC
  have kp : Keeps C.S0 (Stab C hc C.w0) C.w0 C.w0 := ⟨fun t b hb => ⟨.inl hb, C.lt t b hb, fun hm => C.apart t b hb ((hC b).2 hm)⟩, fun _ _ _ => rfl, fun _ _ x => x⟩
  have hlen := hr.len
  refine hk _ _ ⟨?_, rfl, fun t => ?_, fun g o hm => ORep.keep kp rfl (ho g o hm), hnd, fun g hg => .inl ((hC g).2 hg), Fr.refl _ _⟩
  · show (vs.toArray ++ Array.replicate (fn.ntmps - vs.toArray.size) undef).size = fn.ntmps
    simp; omega
  · rw [initS_get]
    simp only [Nat.zero_le, if_true, Nat.sub_zero]
    refine Rep.keep kp ?_
    have h1 := RepT.getD args vs hr t
    have h2 : (vs.toArray ++ Array.replicate (fn.ntmps - vs.toArray.size) undef).getD t undef = vs.getD t undef := by
      rw [Array.getD_eq_getD_getElem?, List.getD_eq_getElem?_getD]
      by_cases ht : t < vs.length
      · rw [Array.getElem?_append_left (by simpa using ht)]; simp
      · rw [Array.getElem?_append_right (by simpa using ht)]
        rw [List.getElem?_eq_none (by omega)]
        simp [Array.getElem?_replicate]
        split <;> rfl
    rw [h2]
    exact h1

theorem LeC.rep0 {S : Bool → Nat → Prop} {w : World} (hm : ∀ b, S true b → S false b) {x y : CV} {v : Value} (le : LeC [] x y) (hr : RepC S w x v) : RepC S w y v :=
  (le.rep hm (fun g o hg => by simp at hg) hr).keep ⟨fun t b hb => hb.elim id (fun x => by simp [Heap.keys] at x), fun _ _ _ => rfl, fun _ _ x => x⟩
theorem Le0.rep0 {S : Bool → Nat → Prop} {w : World} (hm : ∀ b, S true b → S false b) {x y : AV} {v : Value} (le : Le0 [] x y) (hr : Rep S w x v) : Rep0 S w y v :=
  (le.rep hm (fun g o hg => by simp at hg) hr).keep ⟨fun t b hb => hb.elim id (fun x => by simp [Heap.keys] at x), fun _ _ _ => rfl, fun _ _ x => x⟩
theorem LeA.rep0 {N : Nat} {C : Ctx} {a : Act} {w : World} (s : St N C σ h a w) : ∀ {xs : List Operand} {ys : List AV}, LeA [] (xs.map (ev σ)) ys → RepT (Stab C h w) w ys (xs.map a.eval)
  | [], [], _ => trivial
  | x :: xs, y :: ys, le => ⟨le.1.rep0 Stab.mono' (ev_rep s x), LeA.rep0 s le.2⟩
  | [], _ :: _, le => le.elim
  | _ :: _, [], le => le.elim

theorem Fh.use {P : Program} {N : Nat} {C : Ctx} {a : Act} {w : World} {f : FuncId} {vs : List Value} {args : List AV} {hc hr : Heap} {Q : AV → Heap → Prop} (hf : Fh P f hc args Q) (s : St N C σ h a w) (hp : h.Perm (hc ++ hr)) (le : RepT (Stab C h w) w args vs) :
    Calls P f vs.toArray w fun e w' => ∃ v r h', e = .returned v ∧ Q r h' ∧ (∀ g ∈ h'.keys, g ∉ hr.keys) ∧ St N C σ (h' ++ hr) a w' ∧ Rep (Stab C (h' ++ hr) w') w' r v := by
  have hkk : ∀ g, g ∈ h.keys ↔ g ∈ hc.keys ∨ g ∈ hr.keys := fun g => by
    rw [keysPerm hp]; simp [Heap.keys, List.mem_append, or_and_right, exists_or]
  have hnd : (hc.keys ++ hr.keys).Nodup := by
    have : (hc ++ hr).keys.Nodup := nodupPerm hp s.nodup
    simpa [Heap.keys] using this
  have hdisj : ∀ g, g ∈ hc.keys → g ∉ hr.keys := fun g h1 h2 => (List.nodup_append.1 hnd).2.2 g h1 g h2 rfl
  let C' : Ctx := { w0 := w, S0 := Stab C h w, own0 := fun b => b ∈ hc.keys, mono := Stab.mono', apart := fun t b hb hm => hb.2.2 ((hkk b).2 (.inl hm)), lt := fun t b hb => hb.2.1 }
  refine (hf.2 C' vs (fun b => Iff.rfl) (List.nodup_append.1 hnd).1 (fun g o hm => s.heap g o (hp.mem_iff.2 (List.mem_append_left _ hm))) le).mono ?_
  rintro e w' ⟨v, r, h', he, hq, hnd', hk', hrep, ho, hfr⟩
  have hfresh : ∀ g ∈ h'.keys, g ∉ hr.keys := fun g hg hm => by
    rcases hk' g hg with h1 | h1
    · exact hdisj g h1 hm
    · have := s.klt ((hkk g).2 (.inr hm)); have h2 : w.heap.size ≤ g := h1; omega
  have hka : ∀ g, g ∈ (h' ++ hr).keys ↔ g ∈ h'.keys ∨ g ∈ hr.keys := fun g => by simp [Heap.keys, List.mem_append, or_and_right, exists_or]
  have kp1 : Keeps (Stab C' h' w') (Stab C (h' ++ hr) w') w' w' := by
    refine ⟨fun t b hb => ?_, fun _ _ _ => rfl, fun _ _ x => x⟩
    obtain ⟨h1, h2, h3⟩ := hb
    rcases h1 with h1 | h1
    · have h1' : Stab C h w t b := h1
      refine ⟨h1'.1, h2, fun hm => ?_⟩
      rcases (hka b).1 hm with hm | hm
      · exact h3 hm
      · exact h1'.2.2 ((hkk b).2 (.inr hm))
    · have h1' : w.heap.size ≤ b := h1
      refine ⟨.inr (Nat.le_trans s.frame.size h1'), h2, fun hm => ?_⟩
      rcases (hka b).1 hm with hm | hm
      · exact h3 hm
      · have := s.klt ((hkk b).2 (.inr hm)); omega
  have kp2 : Keeps (Stab C h w) (Stab C (h' ++ hr) w') w w' := by
    refine ⟨fun t b hb => ⟨hb.1, Nat.lt_of_lt_of_le hb.2.1 hfr.size, fun hm => ?_⟩, fun t b hb => hfr.block b hb.2.1 (fun hm => hb.2.2 ((hkk b).2 (.inl hm))), hfr.has⟩
    rcases (hka b).1 hm with hm | hm
    · rcases hk' b hm with h1 | h1
      · exact hb.2.2 ((hkk b).2 (.inl h1))
      · have h2 : w.heap.size ≤ b := h1; have := hb.2.1; omega
    · exact hb.2.2 ((hkk b).2 (.inr hm))
  refine ⟨v, r, h', he, hq, hfresh, ⟨s.size, s.defers, fun t => Rep.keep kp2 (s.slots t), fun g ob hm => ?_, ?_, fun g hg => ?_, ?_⟩, Rep.keep kp1 hrep⟩
  · rcases List.mem_append.1 hm with hm | hm
    · exact ORep.keep kp1 rfl (ho g ob hm)
    · have h1 := s.heap g ob (hp.mem_iff.2 (List.mem_append_right _ hm))
      exact ORep.keep kp2 (hfr.block g h1.lt (fun h2 => hdisj g h2 (List.mem_map.2 ⟨_, hm, rfl⟩))) h1
  · show (List.map (·.1) (h' ++ hr)).Nodup
    rw [List.map_append]
    refine List.nodup_append.2 ⟨hnd', (List.nodup_append.1 hnd).2.1, fun x hx y hy e => ?_⟩
    subst e
    exact hfresh x hx hy
  · rcases (hka g).1 hg with hg | hg
    · rcases hk' g hg with h1 | h1
      · exact s.keys g ((hkk g).2 (.inl h1))
      · exact .inr (Nat.le_trans s.frame.size h1)
    · exact s.keys g ((hkk g).2 (.inr hg))
  · refine s.frame.trans hfr (fun x hx hlt => ?_)
    exact (s.keys x ((hkk x).2 (.inl hx))).resolve_right (by omega)

/-- A call that is handed blocks. -/
theorem aw_callh {f : FuncId} {xs : List Operand} {ts : Array TypeId} {hc hr : Heap} {args : List AV} {Q : AV → Heap → Prop} (hf : Fh E.P f hc args Q) (hop : o.op = .call { callee := .value (.func f), args := xs.toArray, argTypes := ts }) (hw : wantA all σ o = some true) (hd : dstOk E.N o.dst = true)
    (hp : h.Perm (hc ++ hr)) (le : LeA [] (xs.map (ev σ)) args) (k : ∀ r h', Q r h' → (∀ g ∈ h'.keys, g ∉ hr.keys) → aw E (.ops all rest :: K) (σ.setO o.dst r) (h' ++ hr)) : aw E (.ops all (o :: rest) :: K) σ h := fun a w s => by
  show wpList _ _ _ _ _ _
  unfold wpList
  rw [if_pos (s.wanted hw)]
  refine .inl ?_
  unfold Oper.wp
  have hrun : (execOp a.eval o).run E.P w = .ok (.enter f (xs.map a.eval).toArray) w := by
    simp only [execOp, hop, resolve, Act.eval, Deferred.ofValue, invoke, Sem.run_bind]
    have := hf.1.run (#[] ++ (Array.map a.eval xs.toArray) ++ #[]) w
    simp only [Sem.run_pure, Result.andThen_ok]
    rw [show ((xs.map a.eval).toArray) = (#[] ++ (Array.map a.eval xs.toArray) ++ #[]) from by simp]
    exact this
  rw [hrun]
  show Calls _ _ _ _ _
  refine (hf.use s hp (LeA.rep0 s le)).mono ?_
  rintro e w' ⟨v, r, h', rfl, hq, hfr, s', hrep⟩
  exact k r h' hq hfr _ _ (s'.put hd hrep)

theorem aw_perm {h' : Heap} (hp : h.Perm h') (k : aw E K σ h') : aw E K σ h := fun a w s => by
  have hkk : ∀ b, b ∈ h.keys ↔ b ∈ h'.keys := keysPerm hp
  have kp : Keeps (Stab E.C h w) (Stab E.C h' w) w w := ⟨fun t b hb => ⟨hb.1, hb.2.1, fun hm => hb.2.2 ((hkk b).2 hm)⟩, fun _ _ _ => rfl, fun _ _ e => e⟩
  exact k a w ⟨s.size, s.defers, fun t => Rep.keep kp (s.slots t), fun g o hm => ORep.keep kp rfl (s.heap g o (hp.mem_iff.2 hm)), nodupPerm hp s.nodup, fun g hg => s.keys g ((hkk g).2 hg), s.frame⟩

/-- A block of its own is given up: from now on it is only looked at, and may be kept. -/
theorem aw_frz {t g s off n m : Nat} {ty : TypeId} {f : Nat → CV} {σ' : Sl} {h' : Heap} (ht : σ.get t = .c (.osl g s off n)) (hg : h.get g = some (.cells ty m f)) (hm : off + n * s ≤ m) (hn : ¬ E.C.own0 g) (hσ : σ.set t (.c (.row true s n fun j => f (off + j))) = σ') (hh : h.del g = h')
    (k : aw E K σ' h') : aw E K σ h := fun a w st => by
  subst hσ hh
  refine k a w ?_
  have hgm : (g, _) ∈ h := Heap.get_mem hg
  have hkg : g ∈ h.keys := List.mem_map.2 ⟨_, hgm, rfl⟩
  have hsub := Heap.del_sub h g
  have hks : ∀ b, b ∈ (h.del g).keys → b ∈ h.keys := fun b hb => by
    obtain ⟨p, hp, e⟩ := List.mem_map.1 hb
    exact List.mem_map.2 ⟨p, hsub.subset hp, e⟩
  have kp : Keeps (Stab E.C h w) (Stab E.C (h.del g) w) w w := ⟨fun t b hb => ⟨hb.1, hb.2.1, fun hm => hb.2.2 (hks b hm)⟩, fun _ _ _ => rfl, fun _ _ e => e⟩
  refine ⟨st.size, st.defers, fun t' => ?_, fun g' o' hm' => ORep.keep kp rfl (st.heap g' o' (hsub.subset hm')), (hsub.map _).nodup st.nodup, fun g' hg' => st.keys g' (hks g' hg'), st.frame⟩
  rw [Sl.get_set]
  by_cases e : t = t'
  · subst e
    rw [if_pos rfl]
    have h1 := st.slots t
    rw [ht] at h1
    obtain ⟨c, hv, hc, _, _⟩ := h1
    obtain ⟨cs, hb, hcs, hj⟩ := st.heap g _ hgm
    refine ⟨some ⟨g, off, none⟩, c, hv, hc, fun _ => ⟨⟨g, off, none⟩, rfl, ⟨.inr ((st.keys g hkg).resolve_left hn), st.klt hkg, Heap.del_not h g st.nodup⟩, fun j hjl => ?_⟩⟩
    obtain ⟨u, hu, hr⟩ := hj (off + j) (by omega)
    exact ⟨u, by rw [add_mk, cell_own hb]; exact hu, hr.keep kp⟩
  · rw [if_neg e]
    exact Rep.keep kp (st.slots t')
end
end Go.AI

/- Cuts: what is known where ways meet again; a slot told otherwise. -/
namespace Go.AI
attribute [go_sem] List.cons_append List.nil_append List.append_nil
section
variable {E : Env} {K : List It} {σ σ' : Sl} {h : Heap} {all rest : List Oper} {o : Oper}

/-- Behind c only what (S x, H x) says is known. -/
theorem aw_cut {α : Type} {c : Code} (S : α → Sl) (H : α → Heap) (F : α → Prop) (k1 : aw E (.code c :: .stop (fun σ' h' => ∃ x, Sl.sub (S x) σ' ∧ (H x).Sublist h' ∧ F x) :: K) σ h) (k2 : ∀ x, F x → aw E K (S x) (H x)) : aw E (.code c :: K) σ h := fun a w s => by
  have := k1 a w s
  refine wp_mono this ?_
  intro e a' w' hq
  cases e with
  | normal =>
    obtain ⟨σ2, h2, ⟨x, r1, r2, r3⟩, s2⟩ := hq
    exact k2 x r3 a' w' (s2.weak (Sl.sub_le r1) r2)
  | exit id => exact hq
  | goto l => exact hq
  | ret => exact hq
  | panic c => exact hq
  | outgrown => exact hq

/-- A slot, told otherwise. -/
theorem aw_conv {t : Nat} {v : AV} (hc : ∀ S w u, Rep S w (σ.get t) u → Rep S w v u) (hσ : σ.set t v = σ') (k : aw E K σ' h) : aw E K σ h := fun a w s => by
  subst hσ
  refine k a w ⟨s.size, s.defers, fun t' => ?_, s.heap, s.nodup, s.keys, s.frame⟩
  rw [Sl.get_set]
  by_cases e : t = t'
  · subst e; rw [if_pos rfl]; exact hc _ _ _ (s.slots t)
  · rw [if_neg e]; exact s.slots t'

theorem repC_row {S : Bool → Nat → Prop} {w : World} {t : Bool} {s n : Nat} {f f' : Nat → CV} {u : Value} (hf : ∀ j, j < n * s → ∀ x, RepC S w (f j) x → RepC S w (f' j) x) (hr : RepC S w (.row t s n f) u) : RepC S w (.row t s n f') u := by
  obtain ⟨A, c, hv, hc, hn⟩ := hr
  refine ⟨A, c, hv, hc, fun h0 => ?_⟩
  obtain ⟨ad, hA, hS, hj⟩ := hn h0
  refine ⟨ad, hA, hS, fun j hjl => ?_⟩
  obtain ⟨x, hx, hr⟩ := hj j hjl
  exact ⟨x, hx, hf j hjl x hr⟩

/-- Words of its own are given up. -/
theorem aw_frzw {t g off n m : Nat} {ty : TypeId} {zs ys : List Nat} {σ' : Sl} {h' : Heap} (ht : σ.get t = .c (.osl g 1 off n)) (hg : h.get g = some (.cells ty m (wf zs))) (hm : off + n ≤ m) (hn : ¬ E.C.own0 g) (hl : n = ys.length) (hy : ∀ j, j < n → zs.getD (off + j) 0 = ys.getD j 0) (hσ : σ.set t (.c (ws true ys)) = σ') (hh : h.del g = h')
    (k : aw E K σ' h') : aw E K σ h := by
  subst hσ hl
  refine aw_frz ht hg (by omega) hn rfl hh (aw_conv (t := t) (v := .c (ws true ys)) (fun S w u hr => ?_) rfl ?_)
  · rw [Sl.get_set, if_pos rfl] at hr
    refine repC_row (fun j hj x hx => ?_) hr
    have : wf zs (off + j) = .int .u32 (ys.getD j 0 : Nat) := by rw [wf_at, hy j (by omega)]
    rw [this] at hx
    exact hx
  · have e : ∀ (σ : Sl) (v v' : AV), (σ.set t v).set t v' = σ.set t v' := by
      intro σ v v'
      induction σ with
      | nil => simp [Sl.set]
      | cons p σ ih =>
        obtain ⟨s, x⟩ := p
        by_cases h : s = t
        · subst h; simp [Sl.set]
        · simp [Sl.set, h, ih]
    rw [e]; exact k
end
end Go.AI

/- The program's types, as the evaluator asks for them. -/
namespace Go.Proofs.Ytmkomfdiggcloaa
open Go.AI
@[go_sem] theorem ty_e_ws : tElem Try.prog 29 = some (85, 1, 4) := by kernel_rfl
@[go_sem] theorem ty_s_u32 : tSz Try.prog 85 = some (false, 1) := by kernel_rfl
@[go_sem] theorem ty_z_u32 : tZero Try.prog 85 = some [.int .u32 0] := by kernel_rfl
@[go_sem] theorem ty_i_u32 : tInt Try.prog 85 = some .u32 := by kernel_rfl
@[go_sem] theorem ty_i_u64 : tInt Try.prog 91 = some .u64 := by kernel_rfl
@[go_sem] theorem ty_i_int : tInt Try.prog 3 = some .i64 := by kernel_rfl
@[go_sem] theorem ty_b_bool : tBool Try.prog 4 = true := by kernel_rfl
@[go_sem] theorem ty_i_err : tInt Try.prog 64 = some .i64 := by kernel_rfl
@[go_sem] theorem ty_f_err : tIfc Try.prog 36 = true := by kernel_rfl
@[go_sem] theorem ty_mixed : Try.prog.follows .mixedOrders = true := by kernel_rfl
end Go.Proofs.Ytmkomfdiggcloaa

/- Plain numbers: words to the base 2^32. No program in sight. -/
namespace Go.PN

def val : List Nat → Nat
  | [] => 0
  | x :: xs => x + 4294967296 * val xs
def words (n : Nat) : List Nat := if h : n = 0 then [] else n % 4294967296 :: words (n / 4294967296)
termination_by n
decreasing_by omega
theorem words_zero : words 0 = [] := by rw [words]; simp
theorem words_cons {n : Nat} (h : n ≠ 0) : words n = n % 4294967296 :: words (n / 4294967296) := by rw [words]; simp [h]
theorem words_mk {x v : Nat} (hx : x < 4294967296) (h : x ≠ 0 ∨ v ≠ 0) : words (x + 4294967296 * v) = x :: words v := by
  rw [words_cons (by omega)]
  congr 1
  · omega
  · congr 1; omega
theorem val_words (n : Nat) : val (words n) = n := by
  induction n using Nat.strongRecOn with
  | ind n ih =>
    by_cases h : n = 0
    · subst h; rw [words_zero]; rfl
    · rw [words_cons h, val, ih _ (by omega)]; omega
theorem words_lt (n : Nat) : ∀ x ∈ words n, x < 4294967296 := by
  induction n using Nat.strongRecOn with
  | ind n ih =>
    by_cases h : n = 0
    · subst h; rw [words_zero]; simp
    · rw [words_cons h]
      intro x hx
      simp only [List.mem_cons] at hx
      rcases hx with rfl | hx
      · omega
      · exact ih _ (by omega) x hx
theorem words_eq_nil {n : Nat} : words n = [] ↔ n = 0 := by
  constructor
  · intro h
    have := val_words n
    rw [h] at this
    exact this.symm
  · rintro rfl; exact words_zero
theorem words_inj {a b : Nat} (h : words a = words b) : a = b := by rw [← val_words a, h, val_words]
theorem val_zero {xs : List Nat} (h : ∀ x ∈ xs, x = 0) : val xs = 0 := by
  induction xs with
  | nil => rfl
  | cons x xs ih => rw [val, ih (fun y hy => h y (by simp [hy])), h x (by simp)]
theorem trim_eq : ∀ (xs : List Nat) (n : Nat), (∀ x ∈ xs, x < 4294967296) → n ≤ xs.length → (∀ j, n ≤ j → xs.getD j 0 = 0) → (n = 0 ∨ xs.getD (n - 1) 0 ≠ 0) → words (val xs) = xs.take n
  | [], n, _, hn, _, _ => by simp at hn; subst hn; simp [val, words_zero]
  | x :: xs, 0, hx, _, hz, _ => by
    have : val (x :: xs) = 0 := val_zero (fun y hy => by
      obtain ⟨j, hj, rfl⟩ := List.getElem_of_mem hy
      have := hz j (Nat.zero_le _)
      rw [List.getD_eq_getElem?_getD, List.getElem?_eq_getElem hj] at this
      exact this)
    rw [this, words_zero]; rfl
  | x :: xs, n + 1, hx, hn, hz, hl => by
    have hx0 : x < 4294967296 := hx x (by simp)
    have ih := trim_eq xs n (fun y hy => hx y (by simp [hy])) (by simpa using hn) (fun j hj => by simpa using hz (j + 1) (by omega)) (by
      cases n with
      | zero => exact .inl rfl
      | succ n => right; simpa using hl.resolve_left (by omega))
    rw [val, words_mk hx0, ih]
    · rfl
    · cases n with
      | zero => left; simpa using hl.resolve_left (by omega)
      | succ n =>
        right
        intro h0
        rw [h0, words_zero] at ih
        have := congrArg List.length ih
        simp at this hn
        omega
/-- No zero at the end. -/
def Plain (xs : List Nat) : Prop := xs = [] ∨ xs.getD (xs.length - 1) 0 ≠ 0
theorem words_val {xs : List Nat} (hx : ∀ x ∈ xs, x < 4294967296) (hp : Plain xs) : words (val xs) = xs := by
  have := trim_eq xs xs.length hx (Nat.le_refl _) (fun j hj => by rw [List.getD_eq_getElem?_getD, List.getElem?_eq_none hj]; rfl) (by
    rcases hp with rfl | hp
    · left; rfl
    · exact .inr hp)
  rwa [List.take_length] at this
theorem words_plain (n : Nat) : Plain (words n) := by
  induction n using Nat.strongRecOn with
  | ind n ih =>
    by_cases h : n = 0
    · subst h; left; exact words_zero
    · right
      rw [words_cons h]
      by_cases h2 : n / 4294967296 = 0
      · rw [h2, words_zero]; simp; omega
      · have := ih _ (by omega : n / 4294967296 < n)
        rcases this with e | e
        · rw [words_eq_nil] at e; exact absurd e h2
        · have hl : 0 < (words (n / 4294967296)).length := by
            rcases Nat.eq_zero_or_pos (words (n / 4294967296)).length with h0 | h0
            · rw [List.length_eq_zero_iff, words_eq_nil] at h0; exact absurd h0 h2
            · exact h0
          rw [List.length_cons, show (words (n / 4294967296)).length + 1 - 1 = ((words (n / 4294967296)).length - 1) + 1 from by omega]
          simpa using e
theorem val_lt : ∀ (xs : List Nat), (∀ x ∈ xs, x < 4294967296) → val xs < 4294967296 ^ xs.length
  | [], _ => by simp [val]
  | x :: xs, hx => by
    have h1 := val_lt xs (fun y hy => hx y (by simp [hy]))
    have h2 := hx x (by simp)
    rw [val, List.length_cons, Nat.pow_succ]
    omega
theorem val_append (xs ys : List Nat) : val (xs ++ ys) = val xs + 4294967296 ^ xs.length * val ys := by
  induction xs with
  | nil => simp [val]
  | cons x xs ih => rw [List.cons_append, val, val, ih, List.length_cons, Nat.pow_succ, Nat.mul_add, ← Nat.add_assoc, ← Nat.mul_assoc, Nat.mul_comm 4294967296 (4294967296 ^ xs.length)]
theorem getD_lt {xs : List Nat} (hx : ∀ x ∈ xs, x < 4294967296) (i : Nat) : xs.getD i 0 < 4294967296 := by
  rw [List.getD_eq_getElem?_getD]
  cases h : xs[i]? with
  | none => simp
  | some x => exact hx x (List.mem_of_getElem? h)
theorem getD_ge {xs : List Nat} {i : Nat} (h : xs.length ≤ i) : xs.getD i 0 = 0 := by
  rw [List.getD_eq_getElem?_getD, List.getElem?_eq_none h]; rfl
theorem getD_take {xs : List Nat} {n j : Nat} (h : j < n) : (xs.take n).getD j 0 = xs.getD j 0 := by
  rw [List.getD_eq_getElem?_getD, List.getD_eq_getElem?_getD, List.getElem?_take, if_pos h]
theorem val_take_succ (xs : List Nat) (i : Nat) : val (xs.take (i + 1)) = val (xs.take i) + 4294967296 ^ i * xs.getD i 0 := by
  by_cases h : i < xs.length
  · rw [List.take_succ_eq_append_getElem h, val_append, List.getD_eq_getElem?_getD, List.getElem?_eq_getElem h]
    simp [val, List.length_take, Nat.min_eq_left (Nat.le_of_lt h)]
  · rw [getD_ge (by omega), List.take_of_length_le (by omega), List.take_of_length_le (by omega)]; simp
theorem take_set (zs : List Nat) (i v : Nat) : (zs.set i v).take i = zs.take i := by
  apply List.ext_getElem?
  intro j
  simp only [List.getElem?_take]
  by_cases h : j < i
  · rw [if_pos h, if_pos h, List.getElem?_set_ne (by omega)]
  · rw [if_neg h, if_neg h]
theorem getD_set {zs : List Nat} {i v : Nat} (h : i < zs.length) : (zs.set i v).getD i 0 = v := by
  simp [List.getD_eq_getElem?_getD, h]
theorem val_set_take {zs : List Nat} {i v : Nat} (h : i < zs.length) : val ((zs.set i v).take (i + 1)) = val (zs.take i) + 4294967296 ^ i * v := by
  rw [val_take_succ, take_set, getD_set h]
theorem val_replicate (n : Nat) : val (List.replicate n 0) = 0 := val_zero (fun x hx => (List.mem_replicate.1 hx).2)
theorem val_take_zero (xs : List Nat) : val (xs.take 0) = 0 := rfl
theorem set_lt {zs : List Nat} {i v : Nat} (hz : ∀ x ∈ zs, x < 4294967296) (hv : v < 4294967296) : ∀ x ∈ zs.set i v, x < 4294967296 := fun x hx => by
  rcases List.mem_or_eq_of_mem_set hx with h | h
  · exact hz x h
  · omega
theorem replicate_lt (n : Nat) : ∀ x ∈ List.replicate n 0, x < 4294967296 := fun x hx => by rw [(List.mem_replicate.1 hx).2]; omega

def cmpN (a b : Nat) : Int := if a < b then -1 else if a = b then 0 else 1
theorem words_pow_lt (n : Nat) : n < 4294967296 ^ (words n).length := by
  have := val_lt (words n) (words_lt n)
  rwa [val_words] at this
theorem words_len_le {n k : Nat} (h : n < 4294967296 ^ k) : (words n).length ≤ k := by
  induction k generalizing n with
  | zero => have : n = 0 := by simpa using h
            subst this; rw [words_zero]; simp
  | succ k ih =>
    by_cases h0 : n = 0
    · subst h0; rw [words_zero]; simp
    · rw [words_cons h0, List.length_cons]
      have := @ih (n / 4294967296) (by rw [Nat.pow_succ] at h; exact Nat.div_lt_of_lt_mul (by omega))
      omega
theorem words_pow_le {n : Nat} (h : n ≠ 0) : 4294967296 ^ ((words n).length - 1) ≤ n := by
  rcases Nat.lt_or_ge n (4294967296 ^ ((words n).length - 1)) with hlt | hge
  · have := words_len_le hlt
    have hl : (words n).length ≠ 0 := fun e => h (words_eq_nil.1 (List.length_eq_zero_iff.1 e))
    omega
  · exact hge
theorem words_val_len (xs : List Nat) (hx : ∀ x ∈ xs, x < 4294967296) : (words (val xs)).length ≤ xs.length := words_len_le (val_lt xs hx)
theorem words_len_mono {a b : Nat} (h : a ≤ b) : (words a).length ≤ (words b).length := words_len_le (Nat.lt_of_le_of_lt h (words_pow_lt b))
theorem cmpN_len_lt {a b : Nat} (h : (words a).length < (words b).length) : cmpN a b = -1 := by
  have : a < b := by
    rcases Nat.lt_or_ge a b with h1 | h1
    · exact h1
    · have := words_len_mono h1; omega
  simp [cmpN, this]
theorem cmpN_len_gt {a b : Nat} (h : (words b).length < (words a).length) : cmpN a b = 1 := by
  have : b < a := by
    rcases Nat.lt_or_ge b a with h1 | h1
    · exact h1
    · have := words_len_mono h1; omega
  unfold cmpN
  rw [if_neg (by omega), if_neg (by omega)]
theorem drop_getD (xs : List Nat) {i : Nat} (h : i < xs.length) : xs.drop i = xs.getD i 0 :: xs.drop (i + 1) := by
  rw [List.drop_eq_getElem_cons h, List.getD_eq_getElem?_getD, List.getElem?_eq_getElem h]; rfl
theorem val_drop (xs : List Nat) (i : Nat) : val (xs.drop i) = xs.getD i 0 + 4294967296 * val (xs.drop (i + 1)) := by
  by_cases h : i < xs.length
  · rw [List.drop_eq_getElem_cons h, val, List.getD_eq_getElem?_getD, List.getElem?_eq_getElem h]; rfl
  · rw [getD_ge (by omega), List.drop_eq_nil_of_le (by omega), List.drop_eq_nil_of_le (by omega)]; rfl
theorem val_split (xs : List Nat) (i : Nat) (h : i ≤ xs.length) : val xs = val (xs.take i) + 4294967296 ^ i * val (xs.drop i) := by
  have := val_append (xs.take i) (xs.drop i)
  rwa [List.take_append_drop, List.length_take, Nat.min_eq_left h] at this
theorem val_take_lt (xs : List Nat) (hx : ∀ x ∈ xs, x < 4294967296) (i : Nat) (h : i ≤ xs.length) : val (xs.take i) < 4294967296 ^ i := by
  have := val_lt (xs.take i) (fun x hm => hx x (List.mem_of_mem_take hm))
  rwa [List.length_take, Nat.min_eq_left h] at this
theorem word_lt {xs ys : List Nat} {i : Nat} (hx : ∀ x ∈ xs, x < 4294967296) (hy : ∀ x ∈ ys, x < 4294967296) (h1 : i < xs.length) (h2 : i < ys.length) (hd : xs.drop (i + 1) = ys.drop (i + 1)) (hlt : xs.getD i 0 < ys.getD i 0) : val xs < val ys := by
  rw [val_split xs i (by omega), val_split ys i (by omega), val_drop xs i, val_drop ys i, hd]
  have h3 := val_take_lt xs hx i (by omega)
  have h5 : 4294967296 ^ i * (xs.getD i 0 + 4294967296 * val (ys.drop (i + 1)) + 1) ≤ 4294967296 ^ i * (ys.getD i 0 + 4294967296 * val (ys.drop (i + 1))) := Nat.mul_le_mul_left _ (by omega)
  rw [Nat.mul_add, Nat.mul_one] at h5
  omega

/-- Addition, word by word. -/
theorem add_step {xs ys zs : List Nat} {i c : Nat} (hi : i < zs.length) (h : val (zs.take i) + 4294967296 ^ i * c = val (xs.take i) + val (ys.take i)) :
    val ((zs.set i ((c + (xs.getD i 0 + ys.getD i 0)) % 4294967296)).take (i + 1)) + 4294967296 ^ (i + 1) * ((c + (xs.getD i 0 + ys.getD i 0)) / 4294967296) = val (xs.take (i + 1)) + val (ys.take (i + 1)) := by
  rw [val_set_take hi, val_take_succ, val_take_succ, Nat.pow_succ]
  generalize xs.getD i 0 = x at *
  generalize ys.getD i 0 = y at *
  have e : (c + (x + y)) % 4294967296 + 4294967296 * ((c + (x + y)) / 4294967296) = c + (x + y) := Nat.mod_add_div _ _
  have e2 : 4294967296 ^ i * ((c + (x + y)) % 4294967296) + 4294967296 ^ i * 4294967296 * ((c + (x + y)) / 4294967296) = 4294967296 ^ i * (c + (x + y)) := by
    rw [Nat.mul_assoc, ← Nat.mul_add, e]
  rw [Nat.mul_add, Nat.mul_add] at e2
  omega
theorem add_end {xs ys zs : List Nat} {c : Nat} (hx : ∀ x ∈ xs, x < 4294967296) (hy : ∀ x ∈ ys, x < 4294967296) (hl : zs.length = max xs.length ys.length + 1)
    (h : val (zs.take zs.length) + 4294967296 ^ zs.length * c = val (xs.take zs.length) + val (ys.take zs.length)) : val zs = val xs + val ys := by
  rw [List.take_length, List.take_of_length_le (by omega), List.take_of_length_le (by omega)] at h
  have h1 := val_lt xs hx
  have h2 := val_lt ys hy
  have h3 : (4294967296 : Nat) ^ xs.length ≤ 4294967296 ^ (max xs.length ys.length) := Nat.pow_le_pow_right (by omega) (by omega)
  have h4 : (4294967296 : Nat) ^ ys.length ≤ 4294967296 ^ (max xs.length ys.length) := Nat.pow_le_pow_right (by omega) (by omega)
  have h5 : (4294967296 : Nat) ^ zs.length = 4294967296 ^ (max xs.length ys.length) * 4294967296 := by rw [hl, Nat.pow_succ]
  rcases Nat.eq_zero_or_pos c with rfl | hc
  · simpa using h
  · have h6 : 4294967296 ^ zs.length * 1 ≤ 4294967296 ^ zs.length * c := Nat.mul_le_mul_left _ hc
    have h7 : 0 < 4294967296 ^ (max xs.length ys.length) := Nat.pow_pos (by omega)
    omega
/-- Subtraction, word by word: D is the difference modulo 2^64. -/
def subD (x y b : Nat) : Nat := (x + 18446744073709551616 - y - b) % 18446744073709551616
theorem sub_step {xs ys zs : List Nat} {i b : Nat} (hi : i < zs.length) (hx : xs.getD i 0 < 4294967296) (hy : ys.getD i 0 < 4294967296) (hb : b ≤ 1) (h : val (zs.take i) + val (ys.take i) = val (xs.take i) + 4294967296 ^ i * b) :
    val ((zs.set i (subD (xs.getD i 0) (ys.getD i 0) b % 4294967296)).take (i + 1)) + val (ys.take (i + 1)) = val (xs.take (i + 1)) + 4294967296 ^ (i + 1) * (subD (xs.getD i 0) (ys.getD i 0) b / 9223372036854775808) ∧ subD (xs.getD i 0) (ys.getD i 0) b / 9223372036854775808 ≤ 1 := by
  rw [val_set_take hi, val_take_succ, val_take_succ, Nat.pow_succ]
  generalize xs.getD i 0 = x at *
  generalize ys.getD i 0 = y at *
  have hd : subD x y b % 4294967296 + (y + b) = x + 4294967296 * (subD x y b / 9223372036854775808) ∧ subD x y b / 9223372036854775808 ≤ 1 := by
    unfold subD
    rcases Nat.lt_or_ge x (y + b) with h1 | h1 <;> omega
  generalize subD x y b % 4294967296 = v at *
  generalize subD x y b / 9223372036854775808 = b' at *
  have e2 : 4294967296 ^ i * (v + (y + b)) = 4294967296 ^ i * (x + 4294967296 * b') := by rw [hd.1]
  rw [Nat.mul_add, Nat.mul_add, Nat.mul_add, ← Nat.mul_assoc] at e2
  exact ⟨by omega, hd.2⟩
theorem sub_end {xs ys zs : List Nat} {b : Nat} (hx : ∀ x ∈ xs, x < 4294967296) (hz : ∀ x ∈ zs, x < 4294967296) (hl : zs.length = xs.length) (hle : val ys ≤ val xs)
    (h : val (zs.take xs.length) + val (ys.take xs.length) = val (xs.take xs.length) + 4294967296 ^ xs.length * b) : val zs = val xs - val ys := by
  rw [← hl, List.take_length, hl, List.take_length] at h
  have h1 := val_lt xs hx
  have h2 := val_lt zs hz
  rw [hl] at h2
  have h3 : val (ys.take xs.length) = val ys := by
    by_cases hc : xs.length ≤ ys.length
    · have := val_split ys xs.length hc
      rcases Nat.eq_zero_or_pos (val (ys.drop xs.length)) with h0 | h0
      · rw [h0] at this; omega
      · have := Nat.mul_le_mul_left (4294967296 ^ xs.length) h0
        omega
    · rw [List.take_of_length_le (by omega)]
  rcases Nat.eq_zero_or_pos b with rfl | hb
  · omega
  · have := Nat.mul_le_mul_left (4294967296 ^ xs.length) hb
    omega
theorem val_set {zs : List Nat} {j v : Nat} (h : j < zs.length) : val (zs.set j v) + 4294967296 ^ j * zs.getD j 0 = val zs + 4294967296 ^ j * v := by
  have h1 := val_split (zs.set j v) j (by simp; omega)
  have h2 := val_split zs j (by omega)
  rw [take_set] at h1
  have h3 := val_drop (zs.set j v) j
  have h4 := val_drop zs j
  have h5 : (zs.set j v).drop (j + 1) = zs.drop (j + 1) := by
    apply List.ext_getElem?
    intro q
    rw [List.getElem?_drop, List.getElem?_drop, List.getElem?_set_ne (by omega)]
  rw [getD_set h, h5] at h3
  rw [h3] at h1
  rw [h4] at h2
  rw [h1, h2, Nat.mul_add, Nat.mul_add]
  omega
theorem getD_zero_of_lt {zs : List Nat} {m j : Nat} (h : val zs < 4294967296 ^ m) (hj : m ≤ j) : zs.getD j 0 = 0 := by
  by_cases hl : j < zs.length
  · have h1 := val_split zs j (by omega)
    rw [val_drop zs j] at h1
    rcases Nat.eq_zero_or_pos (zs.getD j 0) with h0 | h0
    · exact h0
    · have h2 : (4294967296 : Nat) ^ m ≤ 4294967296 ^ j := Nat.pow_le_pow_right (by omega) hj
      have h3 := Nat.mul_le_mul_left (4294967296 ^ j) (show 1 ≤ zs.getD j 0 + 4294967296 * val (zs.drop (j + 1)) from by omega)
      omega
  · exact getD_ge (by omega)
theorem getD_set_ne {zs : List Nat} {i j v : Nat} (h : i ≠ j) : (zs.set i v).getD j 0 = zs.getD j 0 := by
  rw [List.getD_eq_getElem?_getD, List.getD_eq_getElem?_getD, List.getElem?_set_ne h]
/-- One step of the inner loop of a product. -/
theorem mul_step {zs ys : List Nat} {i k c x V : Nat} (hk : i + k < zs.length) (h : val zs + 4294967296 ^ (i + k) * c = V + 4294967296 ^ i * (x * val (ys.take k))) :
    val (zs.set (i + k) ((c + (x * ys.getD k 0 + zs.getD (i + k) 0)) % 4294967296)) + 4294967296 ^ (i + (k + 1)) * ((c + (x * ys.getD k 0 + zs.getD (i + k) 0)) / 4294967296) = V + 4294967296 ^ i * (x * val (ys.take (k + 1))) := by
  have h1 := val_set (v := (c + (x * ys.getD k 0 + zs.getD (i + k) 0)) % 4294967296) hk
  generalize zs.getD (i + k) 0 = z at *
  have e : (c + (x * ys.getD k 0 + z)) % 4294967296 + 4294967296 * ((c + (x * ys.getD k 0 + z)) / 4294967296) = c + (x * ys.getD k 0 + z) := Nat.mod_add_div _ _
  have e2 : 4294967296 ^ (i + k) * ((c + (x * ys.getD k 0 + z)) % 4294967296) + 4294967296 ^ (i + (k + 1)) * ((c + (x * ys.getD k 0 + z)) / 4294967296) = 4294967296 ^ (i + k) * c + 4294967296 ^ (i + k) * (x * ys.getD k 0) + 4294967296 ^ (i + k) * z := by
    rw [show i + (k + 1) = (i + k) + 1 from by omega, Nat.pow_succ, Nat.mul_assoc, ← Nat.mul_add, e, Nat.mul_add, Nat.mul_add, Nat.add_assoc]
  have e3 : 4294967296 ^ i * (x * val (ys.take (k + 1))) = 4294967296 ^ i * (x * val (ys.take k)) + 4294967296 ^ (i + k) * (x * ys.getD k 0) := by
    rw [val_take_succ, Nat.mul_add, Nat.mul_add, Nat.pow_add, Nat.mul_left_comm x, Nat.mul_assoc]
  omega
theorem mul_bound {x y : Nat} (hx : x < 4294967296) (hy : y < 4294967296) : x * y ≤ 18446744065119617025 := by
  have := Nat.mul_le_mul (show x ≤ 4294967295 from by omega) (show y ≤ 4294967295 from by omega)
  omega
theorem drop_set {zs : List Nat} {i v : Nat} (h : i < zs.length) : (zs.set i v).drop i = v :: zs.drop (i + 1) := by
  rw [drop_getD _ (by simpa using h), getD_set h]
  congr 1
  apply List.ext_getElem?
  intro q
  rw [List.getElem?_drop, List.getElem?_drop, List.getElem?_set_ne (by omega)]
/-- One step of a division by a word, from the top. -/
theorem small_step {xs zs : List Nat} {m b r : Nat} (hb : 0 < b) (hm : m < zs.length) (h : val (xs.drop (m + 1)) = b * val (zs.drop (m + 1)) + r) :
    val (xs.drop m) = b * val ((zs.set m ((r * 4294967296 + xs.getD m 0) / b)).drop m) + (r * 4294967296 + xs.getD m 0) % b := by
  rw [val_drop, drop_set hm, val, h]
  generalize xs.getD m 0 = x
  have e := Nat.div_add_mod (r * 4294967296 + x) b
  generalize (r * 4294967296 + x) / b = q at *
  generalize (r * 4294967296 + x) % b = t at *
  have e2 : b * (q + 4294967296 * val (zs.drop (m + 1))) = b * q + 4294967296 * (b * val (zs.drop (m + 1))) := by
    rw [Nat.mul_add, Nat.mul_left_comm]
  rw [e2]
  omega
end Go.PN

/- natural: word, trim. -/
namespace Go.Proofs.Ytmkomfdiggcloaa
open Go.AI Go.PN
attribute [local irreducible] aw Fa Fh DrK

set_option maxHeartbeats 400000 in
theorem word_fa (xs : List Nat) (i : Nat) (hx : ∀ x ∈ xs, x < 4294967296) : Fa Try.prog 102 [.c (ws false xs), .c (.int .i64 i)] (.c (.int .u64 (xs.getD i 0 : Nat))) := by
  refine fa_of_body Try.func102 rfl rfl (by simp [Try.ntmps102]) fun C hC => ?_
  have hb := getD_lt hx i
  simp only [initS, Nat.reduceAdd]
  repeat first|apply wa1|apply wa2|apply wa3|apply wa4|apply wa5 rfl|apply wa6|apply wa7|(refine wb0 rfl fun R r=>?_;simp only[go_sem];with_reducible refine r _ _ ?_;clear r R)
  refine aw_cond (by simp only[go_sem]<;>rfl) (fun hb => ?_) (fun hb => ?_)
  · simp only [decide_eq_true_eq] at hb
    repeat first|apply wa1|apply wa2|apply wa3|apply wa4|apply wa5 rfl|apply wa6|apply wa7|(refine wb0 rfl fun R r=>?_;simp only[go_sem];with_reducible refine r _ _ ?_;clear r R)
    (refine aw_retq hC rfl fun R r=>?_;simp only[go_sem];refine r _ rfl ?_;clear r R)
    exact .one (.c (ler_int rfl))
  · simp only [decide_eq_false_iff_not] at hb
    repeat first|apply wa1|apply wa2|apply wa3|apply wa4|apply wa5 rfl|apply wa6|apply wa7|(refine wb0 rfl fun R r=>?_;simp only[go_sem];with_reducible refine r _ _ ?_;clear r R)
    (refine aw_retq hC rfl fun R r=>?_;simp only[go_sem];refine r _ rfl ?_;clear r R)
    refine .one (.c (ler_int ?_))
    rw [getD_ge (by omega)]; rfl

set_option maxHeartbeats 400000 in
theorem trim_fa (xs : List Nat) (hx : ∀ x ∈ xs, x < 4294967296) (hl : xs.length ≤ 1099511627776) : Fa Try.prog 94 [.c (ws false xs)] (.c (ws true (words (val xs)))) := by
  refine fa_of_body Try.func94 rfl rfl (by simp [Try.ntmps94]) fun C hC => ?_
  simp only [initS, Nat.reduceAdd]
  repeat first|apply wa1|apply wa2|apply wa3|apply wa4|apply wa5 rfl|apply wa6|apply wa7|(refine wb0 rfl fun R r=>?_;simp only[go_sem];with_reducible refine r _ _ ?_;clear r R)
  refine aw_lp (fun m : Nat => [(0, .c (ws false xs)), (3, .c (.int .i64 m))]) (fun _ => []) (fun m => m ≤ xs.length ∧ (∀ j, m ≤ j → xs.getD j 0 = 0)) id xs.length (by simp only[go_sem]<;>and_intros<;>first|exact True.intro|(with_reducible rfl)|exact c_int (by omega)|rfl) (List.Sublist.refl _) ⟨Nat.le_refl _, fun j hj => getD_ge hj⟩ ?_
  rintro m ⟨hm, hz⟩
  have hend : (m = 0 ∨ xs.getD (m - 1) 0 ≠ 0) → words (val xs) = xs.take m := trim_eq xs m hx hm hz
  by_cases h0 : 0 < m
  · have hd : decide ((m : Int) > 0) = true := by simp; omega
    apply aw_seq
    apply aw_seq
    refine aw_rp true (by simp only [go_sem, Nat.reduceEqDiff, reduceIte, hd] <;> rfl) (by (try simp only [inRange]) <;> and_intros <;> first | exact True.intro | omega | trivial) rfl ?_
    have e1 : ((m : Int) - 1).toNat = m - 1 := by omega
    refine aw_cond (by simp only[go_sem]<;>rfl) (fun hb => ?_) (fun hb => ?_)
    · have hb' : xs.getD (m - 1) 0 = 0 := by simpa using hb
      repeat first|apply wa1|apply wa2|apply wa3|apply wa4|apply wa5 rfl|apply wa6|apply wa7|(refine wb0 rfl fun R r=>?_;simp only[go_sem];with_reducible refine r _ _ ?_;clear r R)
      refine aw_stop ⟨m - 1, by simp only [id]; omega, (by simp only[go_sem]<;>and_intros<;>first|exact True.intro|(with_reducible rfl)|exact c_int (by omega)|rfl), (List.Sublist.refl _), by omega, fun j hj => ?_⟩
      by_cases hjm : j = m - 1
      · rw [hjm]; exact hb'
      · exact hz j (by omega)
    · have hb' : xs.getD (m - 1) 0 ≠ 0 := by simpa using hb
      have hm0 : ((m : Int) == 0) = false := by simp; omega
      repeat first|apply wa1|apply wa2|apply wa3|apply wa4|apply wa5 rfl|apply wa6|apply wa7|(refine wb0 rfl fun R r=>?_;simp only[go_sem];with_reducible refine r _ _ ?_;clear r R)
      refine aw_cond (by simp only[go_sem]<;>rfl) (fun hb => ?_) (fun hb => ?_)
      · rw [hm0] at hb; cases hb
      · repeat first|apply wa1|apply wa2|apply wa3|apply wa4|apply wa5 rfl|apply wa6|apply wa7|(refine wb0 rfl fun R r=>?_;simp only[go_sem];with_reducible refine r _ _ ?_;clear r R)
        refine aw_buildSlice (xs := []) (cells := []) rfl rfl rfl ty_e_ws (by rw [envP, ty_z_u32]; rfl) rfl (by omega) (by omega) (by simp) rfl fun g hg => ?_
        simp only [go_sem, Nat.reduceEqDiff, reduceIte]
        repeat first|apply wa1|apply wa2|apply wa3|apply wa4|apply wa5 rfl|apply wa6|apply wa7|(refine wb0 rfl fun R r=>?_;simp only[go_sem];with_reducible refine r _ _ ?_;clear r R)
        refine aw_append rfl rfl rfl ty_e_ws ty_z_u32 rfl (by omega) (by simp only[go_sem]<;>rfl) (by simp only[go_sem]<;>rfl) (by omega) (by simp only[go_sem]<;>rfl) .row (fun _ _ => rfl) h0 (by unfold maxLen; omega) (by omega) (by simp only[go_sem]<;>rfl) fun g' hg' => ?_
        simp only [go_sem, Nat.reduceEqDiff, reduceIte]
        repeat first|apply wa1|apply wa2|apply wa3|apply wa4|apply wa5 rfl|apply wa6|apply wa7|(refine wb0 rfl fun R r=>?_;simp only[go_sem];with_reducible refine r _ _ ?_;clear r R)
        (refine aw_retq hC rfl fun R r=>?_;simp only[go_sem];refine r _ rfl ?_;clear r R)
        refine .one (.c ?_)
        rw [hend (.inr hb')]
        refine ler_oslws (by simp only[go_sem]<;>rfl) (by omega) (by simp; omega) (fun j hj => ?_)
        simp only [appF, Nat.not_lt_zero, if_false, Nat.sub_zero, Nat.zero_add]
        rw [getD_take hj]
  · have hm0 : m = 0 := by omega
    subst hm0
    have hd : decide (((0 : Nat) : Int) > 0) = false := by simp
    apply aw_seq
    apply aw_seq
    refine aw_rp true (by simp only [go_sem, Nat.reduceEqDiff, reduceIte, hd] <;> rfl) (by (try simp only [inRange]) <;> and_intros <;> first | exact True.intro | omega | trivial) rfl ?_
    refine aw_cond (by simp only[go_sem]<;>rfl) (fun hb => ?_) (fun _ => ?_)
    · cases hb
    repeat first|apply wa1|apply wa2|apply wa3|apply wa4|apply wa5 rfl|apply wa6|apply wa7|(refine wb0 rfl fun R r=>?_;simp only[go_sem];with_reducible refine r _ _ ?_;clear r R)
    refine aw_cond (by simp only[go_sem]<;>rfl) (fun _ => ?_) (fun hb => ?_)
    · repeat first|apply wa1|apply wa2|apply wa3|apply wa4|apply wa5 rfl|apply wa6|apply wa7|(refine wb0 rfl fun R r=>?_;simp only[go_sem];with_reducible refine r _ _ ?_;clear r R)
      (refine aw_retq hC rfl fun R r=>?_;simp only[go_sem];refine r _ rfl ?_;clear r R)
      refine .one (.c ?_)
      rw [hend (.inl rfl)]
      exact .nils
    · cases hb
end Go.Proofs.Ytmkomfdiggcloaa

/- natural: Add. -/
namespace Go.Proofs.Ytmkomfdiggcloaa
open Go.AI Go.PN
attribute [local irreducible] aw Fa Fh DrK
set_option maxHeartbeats 800000 in
theorem add_fa (xs ys : List Nat) (hx : ∀ x ∈ xs, x < 4294967296) (hy : ∀ x ∈ ys, x < 4294967296) (hlx : xs.length ≤ 68719476736) (hly : ys.length ≤ 68719476736) :
    Fa Try.prog 83 [.c (ws false xs), .c (ws false ys)] (.c (ws true (words (val xs + val ys)))) := by
  refine fa_of_body Try.func83 rfl rfl (by simp [Try.ntmps83]) fun C hC => ?_
  simp only [initS, Nat.reduceAdd]
  repeat first|apply wa1|apply wa2|apply wa3|apply wa4|apply wa5 rfl|apply wa6|apply wa7|(refine wb0 rfl fun R r=>?_;simp only[go_sem];with_reducible refine r _ _ ?_;clear r R)
  have hmx : (if (ys.length : Int) > xs.length then (ys.length : Int) else xs.length) + 1 = ((max xs.length ys.length + 1 : Nat) : Int) := by split <;> omega
  rw [hmx]
  generalize hn : max xs.length ys.length + 1 = n
  refine aw_make (n := n) (c := n) rfl rfl rfl ty_e_ws ty_z_u32 rfl (by omega) (by simp only[go_sem]<;>rfl) (by simp only[go_sem]<;>rfl) rfl rfl (by omega) (by omega) (by omega) fun g hg => ?_
  rw [make_wf n]
  (try simp only[go_sem])
  repeat first|apply wa1|apply wa2|apply wa3|apply wa4|apply wa5 rfl|apply wa6|apply wa7|(refine wb0 rfl fun R r=>?_;simp only[go_sem];with_reducible refine r _ _ ?_;clear r R)
  refine aw_lp (fun x : Nat × Nat × List Nat => [(0, .c (ws false xs)), (1, .c (ws false ys)), (5, .c (.osl g 1 0 n)), (6, .c (.int .u64 x.2.1)), (16, .c (.int .i64 n)), (17, .c (.int .i64 x.1))]) (fun x => [(g, .cells 85 n (wf x.2.2))])
    (fun x => x.1 ≤ n ∧ x.2.1 ≤ 1 ∧ x.2.2.length = n ∧ (∀ y ∈ x.2.2, y < 4294967296) ∧ val (x.2.2.take x.1) + 4294967296 ^ x.1 * x.2.1 = val (xs.take x.1) + val (ys.take x.1)) (fun x => n - x.1) (0, 0, List.replicate n 0) (by simp only[go_sem]<;>and_intros<;>first|exact True.intro|(with_reducible rfl)|exact c_int (by omega)|rfl) (List.Sublist.refl _)
    ⟨Nat.zero_le _, Nat.zero_le _, by simp, replicate_lt n, by simp [val]⟩ ?_
  rintro ⟨i, c, zs⟩ ⟨hi, hc, hzl, hz, hv⟩
  dsimp only at hi hc hzl hz hv ⊢
  repeat first|apply wa1|apply wa2|apply wa3|apply wa4|apply wa5 rfl|apply wa6|apply wa7|(refine wb0 rfl fun R r=>?_;simp only[go_sem];with_reducible refine r _ _ ?_;clear r R)
  refine aw_cond (by simp only[go_sem]<;>rfl) (fun hb => ?_) (fun hb => ?_)
  · have hin : i < n := by simpa using hb
    have hxi := getD_lt hx i
    have hyi := getD_lt hy i
    repeat first|apply wa1|apply wa2|apply wa3|apply wa4|apply wa5 rfl|apply wa6|apply wa7|(refine wb0 rfl fun R r=>?_;simp only[go_sem];with_reducible refine r _ _ ?_;clear r R)
    refine aw_callq (word_fa xs i hx) rfl rfl rfl (by first|exact True.intro|simp only[go_sem]<;>and_intros<;>first|exact True.intro|exact .c (.refl _)|exact .c wl2|exact .agg (lel_refl _)|exact .agg (by simp only[LeL];and_intros<;>first|exact True.intro|exact .refl _|exact wl2)|exact .c .nils) ?_
    (try simp only[go_sem])
    repeat first|apply wa1|apply wa2|apply wa3|apply wa4|apply wa5 rfl|apply wa6|apply wa7|(refine wb0 rfl fun R r=>?_;simp only[go_sem];with_reducible refine r _ _ ?_;clear r R)
    refine aw_callq (word_fa ys i hy) rfl rfl rfl (by first|exact True.intro|simp only[go_sem]<;>and_intros<;>first|exact True.intro|exact .c (.refl _)|exact .c wl2|exact .agg (lel_refl _)|exact .agg (by simp only[LeL];and_intros<;>first|exact True.intro|exact .refl _|exact wl2)|exact .c .nils) ?_
    (try simp only[go_sem])
    repeat first|apply wa1|apply wa2|apply wa3|apply wa4|apply wa5 rfl|apply wa6|apply wa7|(refine wb0 rfl fun R r=>?_;simp only[go_sem];with_reducible refine r _ _ ?_;clear r R)
    have ew : wrapZ .u32 ((c : Int) + (((xs.getD i 0 : Nat) : Int) + ((ys.getD i 0 : Nat) : Int))) = (((c + (xs.getD i 0 + ys.getD i 0)) % 4294967296 : Nat) : Int) := by rw [wrapZ_eq, IntKind.wrap_u32]; omega
    rw [ew]
    refine aw_store rfl rfl rfl rfl (by simp only[go_sem]<;>rfl) (by simp only[go_sem]<;>rfl) (by simp only[go_sem]<;>rfl) (by simp only[go_sem]<;>rfl) (fun _ e => by cases e) (by rfl) (by rfl) (by first|omega|simp) rfl ?_
    (try simp only[go_sem])
    rw [updF_wf (by omega)]
    repeat first|apply wa1|apply wa2|apply wa3|apply wa4|apply wa5 rfl|apply wa6|apply wa7|(refine wb0 rfl fun R r=>?_;simp only[go_sem];with_reducible refine r _ _ ?_;clear r R)
    refine aw_stop ⟨(i + 1, (c + (xs.getD i 0 + ys.getD i 0)) / 4294967296, zs.set i ((c + (xs.getD i 0 + ys.getD i 0)) % 4294967296)), by simp only; omega, (by simp only[go_sem]<;>and_intros<;>first|exact True.intro|(with_reducible rfl)|exact c_int (by omega)|rfl), (List.Sublist.refl _), by simp only; omega, by simp only; omega, by simpa using hzl, set_lt hz (by omega), add_step (by omega) hv⟩
  · have hin : i = n := by have : ¬ ((i : Int) < n) := by simpa using hb
                           omega
    subst hin
    repeat first|apply wa1|apply wa2|apply wa3|apply wa4|apply wa5 rfl|apply wa6|apply wa7|(refine wb0 rfl fun R r=>?_;simp only[go_sem];with_reducible refine r _ _ ?_;clear r R)
    refine aw_callq (trim_fa zs hz (by omega)) rfl rfl rfl (by (try simp only[go_sem]); exact ⟨.c (lec_oslws (by simp only[go_sem]<;>rfl) (by omega) (by omega) (fun j _ => by rw [Nat.zero_add]; rfl)), trivial⟩) ?_
    (try simp only[go_sem])
    repeat first|apply wa1|apply wa2|apply wa3|apply wa4|apply wa5 rfl|apply wa6|apply wa7|(refine wb0 rfl fun R r=>?_;simp only[go_sem];with_reducible refine r _ _ ?_;clear r R)
    (refine aw_retq hC rfl fun R r=>?_;simp only[go_sem];refine r _ rfl ?_;clear r R)
    rw [add_end hx hy (by omega) (by rw [hzl]; exact hv)]
    exact .one (.c ler_ws)
end Go.Proofs.Ytmkomfdiggcloaa

/- natural: Cmp, Of, Sub. -/
namespace Go.Proofs.Ytmkomfdiggcloaa
open Go.AI Go.PN
attribute [local irreducible] aw Fa Fh DrK
set_option maxHeartbeats 800000 in
theorem cmp_fa (xs ys : List Nat) (hx : ∀ x ∈ xs, x < 4294967296) (hy : ∀ x ∈ ys, x < 4294967296) (hlx : xs.length ≤ 68719476736) (hly : ys.length ≤ 68719476736) :
    Fa Try.prog 74 [.c (ws false xs), .c (ws false ys)] (.c (.int .i64 (cmpN (val xs) (val ys)))) := by
  refine fa_of_body Try.func74 rfl rfl (by simp [Try.ntmps74]) fun C hC => ?_
  simp only [initS, Nat.reduceAdd]
  repeat first|apply wa1|apply wa2|apply wa3|apply wa4|apply wa5 rfl|apply wa6|apply wa7|(refine wb0 rfl fun R r=>?_;simp only[go_sem];with_reducible refine r _ _ ?_;clear r R)
  refine aw_callq (trim_fa xs hx (by omega)) rfl rfl rfl (by first|exact True.intro|simp only[go_sem]<;>and_intros<;>first|exact True.intro|exact .c (.refl _)|exact .c wl2|exact .agg (lel_refl _)|exact .agg (by simp only[LeL];and_intros<;>first|exact True.intro|exact .refl _|exact wl2)|exact .c .nils) ?_
  (try simp only[go_sem])
  repeat first|apply wa1|apply wa2|apply wa3|apply wa4|apply wa5 rfl|apply wa6|apply wa7|(refine wb0 rfl fun R r=>?_;simp only[go_sem];with_reducible refine r _ _ ?_;clear r R)
  refine aw_callq (trim_fa ys hy (by omega)) rfl rfl rfl (by first|exact True.intro|simp only[go_sem]<;>and_intros<;>first|exact True.intro|exact .c (.refl _)|exact .c wl2|exact .agg (lel_refl _)|exact .agg (by simp only[LeL];and_intros<;>first|exact True.intro|exact .refl _|exact wl2)|exact .c .nils) ?_
  (try simp only[go_sem])
  generalize hvx : val xs = a
  generalize hvy : val ys = b
  have hla : (words a).length ≤ 68719476736 := by rw [← hvx]; exact Nat.le_trans (words_val_len xs hx) hlx
  have hlb : (words b).length ≤ 68719476736 := by rw [← hvy]; exact Nat.le_trans (words_val_len ys hy) hly
  repeat first|apply wa1|apply wa2|apply wa3|apply wa4|apply wa5 rfl|apply wa6|apply wa7|(refine wb0 rfl fun R r=>?_;simp only[go_sem];with_reducible refine r _ _ ?_;clear r R)
  refine aw_cond (by simp only[go_sem]<;>rfl) (fun hb => ?_) (fun hb => ?_)
  · have hne : (words a).length ≠ (words b).length := by simp at hb; omega
    repeat first|apply wa1|apply wa2|apply wa3|apply wa4|apply wa5 rfl|apply wa6|apply wa7|(refine wb0 rfl fun R r=>?_;simp only[go_sem];with_reducible refine r _ _ ?_;clear r R)
    refine aw_cond (by simp only[go_sem]<;>rfl) (fun hb => ?_) (fun hb => ?_)
    · have hlt : (words a).length < (words b).length := by simpa using hb
      repeat first|apply wa1|apply wa2|apply wa3|apply wa4|apply wa5 rfl|apply wa6|apply wa7|(refine wb0 rfl fun R r=>?_;simp only[go_sem];with_reducible refine r _ _ ?_;clear r R)
      (refine aw_retq hC rfl fun R r=>?_;simp only[go_sem];refine r _ rfl ?_;clear r R)
      exact .one (.c (ler_int (cmpN_len_lt hlt).symm))
    · have hge : ¬ ((words a).length : Int) < (words b).length := by simpa using hb
      repeat first|apply wa1|apply wa2|apply wa3|apply wa4|apply wa5 rfl|apply wa6|apply wa7|(refine wb0 rfl fun R r=>?_;simp only[go_sem];with_reducible refine r _ _ ?_;clear r R)
      (refine aw_retq hC rfl fun R r=>?_;simp only[go_sem];refine r _ rfl ?_;clear r R)
      exact .one (.c (ler_int (cmpN_len_gt (by omega)).symm))
  · have hlen : (words a).length = (words b).length := by simp at hb; omega
    repeat first|apply wa1|apply wa2|apply wa3|apply wa4|apply wa5 rfl|apply wa6|apply wa7|(refine wb0 rfl fun R r=>?_;simp only[go_sem];with_reducible refine r _ _ ?_;clear r R)
    refine aw_lp (fun m : Nat => [(0, .c (ws true (words a))), (1, .c (ws true (words b))), (5, .c (.int .i64 ((m : Int) - 1)))]) (fun _ => []) (fun m => m ≤ (words a).length ∧ (words a).drop m = (words b).drop m) id (words a).length (by simp only[go_sem]<;>and_intros<;>first|exact True.intro|(with_reducible rfl)|exact c_int (by omega)|rfl) (List.Sublist.refl _)
      ⟨Nat.le_refl _, by rw [List.drop_eq_nil_of_le (Nat.le_refl _), List.drop_eq_nil_of_le (by omega)]⟩ ?_
    rintro m ⟨hm, hd⟩
    repeat first|apply wa1|apply wa2|apply wa3|apply wa4|apply wa5 rfl|apply wa6|apply wa7|(refine wb0 rfl fun R r=>?_;simp only[go_sem];with_reducible refine r _ _ ?_;clear r R)
    refine aw_cond (by simp only[go_sem]<;>rfl) (fun hb => ?_) (fun hb => ?_)
    · have hm1 : 1 ≤ m := by have := of_decide_eq_true hb; omega
      have e1 : ((m : Int) - 1).toNat = m - 1 := by omega
      repeat first|apply wa1|apply wa2|apply wa3|apply wa4|apply wa5 rfl|apply wa6|apply wa7|(refine wb0 rfl fun R r=>?_;simp only[go_sem];with_reducible refine r _ _ ?_;clear r R)
      refine aw_dr 9 ty_mixed (by kernel_rfl) ?_
      repeat first|apply wa1|apply wa2|apply wa3|apply wa4|apply wa5 rfl|apply wa6|apply wa7|(refine wb0 rfl fun R r=>?_;simp only[go_sem];with_reducible refine r _ _ ?_;clear r R)|apply wa8|(refine wd0 rfl fun R r=>?_;simp only[go_sem];with_reducible refine r _ _ ?_;clear r R)
      refine aw_cond (by simp only[go_sem]<;>rfl) (fun hb => ?_) (fun hb1 => ?_)
      · have hlt : (words a).getD (m - 1) 0 < (words b).getD (m - 1) 0 := by have := of_decide_eq_true hb; omega
        repeat first|apply wa1|apply wa2|apply wa3|apply wa4|apply wa5 rfl|apply wa6|apply wa7|(refine wb0 rfl fun R r=>?_;simp only[go_sem];with_reducible refine r _ _ ?_;clear r R)|apply wa8|(refine wd0 rfl fun R r=>?_;simp only[go_sem];with_reducible refine r _ _ ?_;clear r R)
        (refine aw_retq hC rfl fun R r=>?_;simp only[go_sem];refine r _ rfl ?_;clear r R)
        have := word_lt (words_lt a) (words_lt b) (by omega) (by omega) (by rw [show m - 1 + 1 = m from by omega]; exact hd) hlt
        rw [val_words, val_words] at this
        exact .one (.c (ler_int (by simp [cmpN, this])))
      · have hge : ¬ ((words a).getD (m - 1) 0 < (words b).getD (m - 1) 0) := by have := of_decide_eq_false hb1; omega
        repeat first|apply wa1|apply wa2|apply wa3|apply wa4|apply wa5 rfl|apply wa6|apply wa7|(refine wb0 rfl fun R r=>?_;simp only[go_sem];with_reducible refine r _ _ ?_;clear r R)|apply wa8|(refine wd0 rfl fun R r=>?_;simp only[go_sem];with_reducible refine r _ _ ?_;clear r R)
        refine aw_dr 9 ty_mixed (by kernel_rfl) ?_
        repeat first|apply wa1|apply wa2|apply wa3|apply wa4|apply wa5 rfl|apply wa6|apply wa7|(refine wb0 rfl fun R r=>?_;simp only[go_sem];with_reducible refine r _ _ ?_;clear r R)|apply wa8|(refine wd0 rfl fun R r=>?_;simp only[go_sem];with_reducible refine r _ _ ?_;clear r R)
        refine aw_cond (by simp only[go_sem]<;>rfl) (fun hb => ?_) (fun hb2 => ?_)
        · have hgt : (words b).getD (m - 1) 0 < (words a).getD (m - 1) 0 := by have := of_decide_eq_true hb; omega
          repeat first|apply wa1|apply wa2|apply wa3|apply wa4|apply wa5 rfl|apply wa6|apply wa7|(refine wb0 rfl fun R r=>?_;simp only[go_sem];with_reducible refine r _ _ ?_;clear r R)|apply wa8|(refine wd0 rfl fun R r=>?_;simp only[go_sem];with_reducible refine r _ _ ?_;clear r R)
          (refine aw_retq hC rfl fun R r=>?_;simp only[go_sem];refine r _ rfl ?_;clear r R)
          have := word_lt (words_lt b) (words_lt a) (by omega) (by omega) (by rw [show m - 1 + 1 = m from by omega]; exact hd.symm) hgt
          rw [val_words, val_words] at this
          exact .one (.c (ler_int (by unfold cmpN; rw [if_neg (by omega), if_neg (by omega)])))
        · have hle : ¬ ((words b).getD (m - 1) 0 < (words a).getD (m - 1) 0) := by have := of_decide_eq_false hb2; omega
          repeat first|apply wa1|apply wa2|apply wa3|apply wa4|apply wa5 rfl|apply wa6|apply wa7|(refine wb0 rfl fun R r=>?_;simp only[go_sem];with_reducible refine r _ _ ?_;clear r R)|apply wa8|(refine wd0 rfl fun R r=>?_;simp only[go_sem];with_reducible refine r _ _ ?_;clear r R)
          refine aw_stop ⟨m - 1, by simp only [id]; omega, (by simp only[go_sem]<;>and_intros<;>first|exact True.intro|(with_reducible rfl)|exact c_int (by omega)|rfl), (List.Sublist.refl _), by omega, ?_⟩
          rw [drop_getD (words a) (i := m - 1) (by omega), drop_getD (words b) (i := m - 1) (by omega), show m - 1 + 1 = m from by omega, hd]
          congr 1
          omega
    · have hm0 : m = 0 := by have := of_decide_eq_false hb; omega
      subst hm0
      repeat first|apply wa1|apply wa2|apply wa3|apply wa4|apply wa5 rfl|apply wa6|apply wa7|(refine wb0 rfl fun R r=>?_;simp only[go_sem];with_reducible refine r _ _ ?_;clear r R)
      (refine aw_retq hC rfl fun R r=>?_;simp only[go_sem];refine r _ rfl ?_;clear r R)
      have : a = b := words_inj (by simpa using hd)
      exact .one (.c (ler_int (by simp [cmpN, this])))

set_option maxHeartbeats 800000 in
theorem of_fa (n : Int) (h0 : -9223372036854775808 ≤ n) (h1 : n ≤ 9223372036854775807) : Fa Try.prog 80 [.c (.int .i64 n)] (.c (ws true (words n.toNat))) := by
  refine fa_of_body Try.func80 rfl rfl (by simp [Try.ntmps80]) fun C hC => ?_
  simp only [initS, Nat.reduceAdd]
  repeat first|apply wa1|apply wa2|apply wa3|apply wa4|apply wa5 rfl|apply wa6|apply wa7|(refine wb0 rfl fun R r=>?_;simp only[go_sem];with_reducible refine r _ _ ?_;clear r R)
  refine aw_cond (by simp only[go_sem]<;>rfl) (fun hb => ?_) (fun hb => ?_)
  · have hn : n ≤ 0 := of_decide_eq_true hb
    repeat first|apply wa1|apply wa2|apply wa3|apply wa4|apply wa5 rfl|apply wa6|apply wa7|(refine wb0 rfl fun R r=>?_;simp only[go_sem];with_reducible refine r _ _ ?_;clear r R)
    (refine aw_retq hC rfl fun R r=>?_;simp only[go_sem];refine r _ rfl ?_;clear r R)
    rw [show n.toNat = 0 from by omega, words_zero]
    exact .one (.c .nils)
  · have hn : ¬ n ≤ 0 := of_decide_eq_false hb
    repeat first|apply wa1|apply wa2|apply wa3|apply wa4|apply wa5 rfl|apply wa6|apply wa7|(refine wb0 rfl fun R r=>?_;simp only[go_sem];with_reducible refine r _ _ ?_;clear r R)
    have e1 : wrapZ .u32 n = ((n.toNat % 4294967296 : Nat) : Int) := by rw [wrapZ_eq, IntKind.wrap_u32]; omega
    have e2 : wrapZ .u32 (n / 4294967296) = ((n.toNat / 4294967296 : Nat) : Int) := by rw [wrapZ_eq, IntKind.wrap_u32]; omega
    rw [e1, e2]
    refine aw_buildSlice (xs := [.tmp 6, .tmp 9]) (cells := [.int .u32 ((n.toNat % 4294967296 : Nat) : Int), .int .u32 ((n.toNat / 4294967296 : Nat) : Int)]) rfl rfl rfl ty_e_ws (by rw [envP, ty_z_u32]; rfl) rfl (by omega) (by omega) (by intro x hx; simp only [List.mem_cons, List.not_mem_nil, or_false] at hx; rcases hx with rfl | rfl <;> exact ⟨rfl, rfl, rfl⟩) (by simp only[go_sem]<;>rfl) fun g hg => ?_
    (try simp only[go_sem])
    refine aw_callq (trim_fa [n.toNat % 4294967296, n.toNat / 4294967296] (by intro x hx; simp only [List.mem_cons, List.not_mem_nil, or_false] at hx; rcases hx with rfl | rfl <;> omega) (by simp)) rfl rfl rfl
      (by (try simp only[go_sem]); exact ⟨.c (lec_oslws (by simp only[go_sem]<;>rfl) (by omega) rfl (fun j hj => by match j, hj with | 0, _ => rfl | 1, _ => rfl)), trivial⟩) ?_
    (try simp only[go_sem])
    repeat first|apply wa1|apply wa2|apply wa3|apply wa4|apply wa5 rfl|apply wa6|apply wa7|(refine wb0 rfl fun R r=>?_;simp only[go_sem];with_reducible refine r _ _ ?_;clear r R)
    (refine aw_retq hC rfl fun R r=>?_;simp only[go_sem];refine r _ rfl ?_;clear r R)
    rw [show val [n.toNat % 4294967296, n.toNat / 4294967296] = n.toNat from by simp [val]; omega]
    exact .one (.c ler_ws)
end Go.Proofs.Ytmkomfdiggcloaa
